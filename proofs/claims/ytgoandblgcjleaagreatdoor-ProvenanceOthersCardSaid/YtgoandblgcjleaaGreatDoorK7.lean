import Derived.Test.YtgoandblgcjleaaGreatDoorK6
import Derived.Test.YtgoandblgcjleaaGreatDoorK5
set_option linter.all false
set_option linter.unusedSimpArgs false
set_option linter.unusedVariables false
set_option linter.unusedSectionVars false
section
namespace AF
open Go
theorem dvP{a b:Int}(h:0≤a):a.tdiv b=a/b:=Int.tdiv_eq_ediv_of_nonneg h
theorem mdP{a b:Int}(h:0≤a):a.tmod b=a%b:=Int.tmod_eq_emod_of_nonneg h
theorem acO{P:Program}{f nt ns:Nat}{rs:List RV}{c:C}(hf:qI P f nt ns rs c){args:List AV}{h:List AObj}{r:AV}{h':List AObj}
  (hw:qO P h.length c (fnQ rs h fun r1 h1=>r1=r∧h1=h') (args++List.replicate (nt-args.length) .undef) (h++List.replicate ns (.emp 0))) (ha:args.length≤nt:=by simp):ACalls P f args h r h':=qt hf ha hw
theorem acQ{P:Program}{f nt ns:Nat}{rs:List RV}{c:C}(hf:qI P f nt ns rs c){args:List AV}{h:List AObj}{K:AV→List AObj→Prop}
  (hw:qO P h.length c (fnQ rs h K) (args++List.replicate (nt-args.length) .undef) (h++List.replicate ns (.emp 0))) (ha:args.length≤nt:=by simp):jt P f args h K:=qaT hf ha hw
theorem cA{P:Program}{f:Nat}{p:Bool}{vs:List AV}{d:Option Nat}{nx:Nx}{t:List AV}{h:List AObj}{r:AV}(hc:ACalls P f (strips vs) h r h)(hf:flags vs)(hn:nx (qK t d r) h):qiQ P f p vs d nx t h:=qw hc hf hn
theorem cG{P:Program}{f:Nat}{p g:Bool}{vs:List AV}{d:Option Nat}{nx:Nx}{t:List AV}{h:List AObj}{r:AV}(hc:g=true→ACalls P f (strips vs) h r h)(hf:g=true→flags vs)(hn:nx (qK t d (.gd g r)) h):qiS P f p g vs d nx t h:=qE (fun e=>⟨hf e,hc e⟩) hn
theorem cU{P:Program}{f:Nat}{vs:List AV}{d:Option Nat}{nx:Nx}{t:List AV}{h:List AObj}{r:AV}(hc: ∀h0,ACalls P f (strips vs) h0 r h0)(hf:flags vs)(hn:nx (qK t d r) h):qqh P f vs d nx t h:=qmu hc hf hn
theorem flk{p:Prop}(h:p:=by (try intro _);repeat' first|exact qq0|refine qqZ (by first|rfl|assumption) ?_):p:=h
theorem rvk{p:Prop}(h:p:=by repeat' first|exact qyi|refine qyj ?_|(simp[go_sem]<;>fail)):p:=h
theorem clz{p:Prop}(h:p:=by first|omega|(rename_i hx;revert hx;simp<;>fail)|(simp<;>fail)):p:=h
theorem tmq{p:Prop}(h:p:=by (simp only[List.replicate,go_sem,qh,qe,qb,qg];try (repeat' first|(with_reducible apply aiA)|(apply qf;omega)|(apply qd;rfl)|exact qi))):p:=h
attribute [go_sem] ql dvP mdP qM List.foldl List.replicate
theorem qnq{ks:List Nat}: ∀ {h:List AObj} {j:Nat},j∉ks→getO j (qgO ks h)=getO j h:=by
 induction ks with
 |nil=>intro h j _;rfl
 |cons k ks ih=>
  intro h j hj;simp only[List.mem_cons,not_or]at hj;show getO j (qgO ks _)=_;rw[ih hj.2,zJ hj.1]
end AF
end
