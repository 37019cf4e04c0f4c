import Derived.Test.YtgoandblgcjleaaGreatDoorK6
import Derived.Test.YtgoandblgcjleaaGreatDoorK4
set_option linter.all false
set_option linter.unusedSimpArgs false
set_option linter.unusedVariables false
set_option linter.unusedSectionVars false
section
namespace AF
open Go
theorem dvP{a b:Int}(h:0≤a):a.tdiv b=a/b:=Int.tdiv_eq_ediv_of_nonneg h
theorem mdP{a b:Int}(h:0≤a):a.tmod b=a%b:=Int.tmod_eq_emod_of_nonneg h
theorem acO{P:Program}{f nt ns:Nat}{rs:List RV}{c:C}(hf:qG P f nt ns rs c){args:List AV}{h:List AObj}{r:AV}{h':List AObj}
  (hw:qX P h.length c (fnQ rs h fun r1 h1=>r1=r∧h1=h') (args++List.replicate (nt-args.length) .undef) (h++List.replicate ns (.emp 0))) (ha:args.length≤nt:=by simp):ACalls P f args h r h':=qu hf ha hw
theorem acQ{P:Program}{f nt ns:Nat}{rs:List RV}{c:C}(hf:qG P f nt ns rs c){args:List AV}{h:List AObj}{K:AV→List AObj→Prop}
  (hw:qX P h.length c (fnQ rs h K) (args++List.replicate (nt-args.length) .undef) (h++List.replicate ns (.emp 0))) (ha:args.length≤nt:=by simp):jR P f args h K:=qbo hf ha hw
theorem cA{P:Program}{f:Nat}{p:Bool}{vs:List AV}{d:Option Nat}{nx:Nx}{t:List AV}{h:List AObj}{r:AV}(hc:ACalls P f (strips vs) h r h)(hf:flags vs)(hn:nx (qT t d r) h):qka P f p vs d nx t h:=qE hc hf hn
theorem cG{P:Program}{f:Nat}{p g:Bool}{vs:List AV}{d:Option Nat}{nx:Nx}{t:List AV}{h:List AObj}{r:AV}(hc:g=true→ACalls P f (strips vs) h r h)(hf:g=true→flags vs)(hn:nx (qT t d (.gd g r)) h):qkd P f p g vs d nx t h:=qL (fun e=>⟨hf e,hc e⟩) hn
theorem cU{P:Program}{f:Nat}{vs:List AV}{d:Option Nat}{nx:Nx}{t:List AV}{h:List AObj}{r:AV}(hc: ∀h0,ACalls P f (strips vs) h0 r h0)(hf:flags vs)(hn:nx (qT t d r) h):qso P f vs d nx t h:=qn1 hc hf hn
theorem flk{p:Prop}(h:p:=by (try intro _);repeat' first|exact qtf|refine qte (by first|rfl|assumption) ?_):p:=h
theorem rvk{p:Prop}(h:p:=by repeat' first|exact qBe|refine qBf ?_|(simp[go_sem]<;>fail)):p:=h
theorem clz{p:Prop}(h:p:=by first|omega|(rename_i hx;revert hx;simp<;>fail)|(simp<;>fail)):p:=h
theorem tmq{p:Prop}(h:p:=by (simp only[List.replicate,go_sem,qh,qd,qa,qg];try (repeat' first|(with_reducible apply aiA)|(apply qi;omega)|(apply qe;rfl)|exact qj))):p:=h
attribute [go_sem] qp dvP mdP qI List.foldl List.replicate
theorem qoZ{ks:List Nat}: ∀ {h:List AObj} {j:Nat},j∉ks→qH j (qcR ks h)=qH j h:=by
 induction ks with
 |nil=>intro h j _;rfl
 |cons k ks ih=>
  intro h j hj;simp only[List.mem_cons,not_or]at hj;show qH j (qcR ks _)=_;rw[ih hj.2,qbO hj.1]
end AF
end
