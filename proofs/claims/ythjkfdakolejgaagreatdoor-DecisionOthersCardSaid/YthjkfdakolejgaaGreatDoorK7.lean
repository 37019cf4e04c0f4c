import Derived.Test.YthjkfdakolejgaaGreatDoorK6
import Derived.Test.YthjkfdakolejgaaGreatDoorK4
set_option linter.all false
set_option linter.unusedSimpArgs false
set_option linter.unusedVariables false
set_option linter.unusedSectionVars false
section
namespace AF
open Go
theorem qrK:AV.el.strip=AV.el:=rfl
theorem quh:AV.el.flag=true:=rfl
theorem qrz:AV.el.solid=true:=rfl
theorem qpz:AV.el.cells= [AV.el]:=rfl
theorem qu0:zw .slice .el=some false:=rfl
theorem qeT{n:Bool}:valP (.isnil .slice n) [.el]= .bool (n !=false):=rfl
theorem qfG{n:Bool}:okP (.isnil .slice n) [.el]=True:=eqt rfl
theorem qjM{g:List AObj}:valL g .len [.el]= .int .i64 0:=rfl
theorem qmO{g:List AObj}:okL g .len [.el]=True:=rfl
theorem qeK{h:List AObj}:qk h .el=some (0,[]):=rfl
theorem qj3{k v z p n:Nat}:qch (.osl k v z p n) .el=true:=rfl
theorem qAK{fz:Nat→Bool}{h:List AObj}{n:Nat}:rei fz h (n+1) .el= .el:=rfl
theorem qzZ{fz:Nat→Bool}{h:List AObj}{n:Nat}:frz fz h (n+1) .el= .el:=rfl
theorem qj1{f:Nat→List AV}:VLe .el (.sl 0 f):=VLe.still rfl ILe.el
attribute [go_sem] qrK quh qrz qpz qu0 qeT qfG qjM qmO qeK qj3 qAK qzZ
theorem qs2{w:World}{σ:List OB}{f:Nat→List AV}{x:Value}(h:VR w σ (.sl 0 f) x):VR w σ .nl x∨VR w σ .el x:=by
 rcases qf7 h with⟨_,a,rfl⟩|⟨_,b,off,cap,_,rfl,_,h2,_,h4,_⟩
 ·cases a with
  |none=>exact .inl (.imm .nl)
  |some a=>exact .inr (.imm (.el (.inl rfl)))
 ·exact .inr (.imm (.el (.inr ⟨b,off,rfl,h2,h4⟩)))
theorem ACalls.sl0{P:Program}{f:FuncId}{pre post:List AV}{g:Nat→List AV}{h h':List AObj}{r:AV}(h1:ACalls P f (pre++ .nl::post) h r h')(h2:ACalls P f (pre++ .el::post) h r h'):ACalls P f (pre++ .sl 0 g::post) h r h':=by
 refine⟨h1.1,fun w σ xs H hv=> ?_⟩;have hlt:pre.length<xs.length:=by rw[hv.1];simp
 have hx:=hv.2 pre.length (.sl 0 g) xs[pre.length] (by simp) (zL hlt);have go: ∀a,VR w σ a xs[pre.length]→VRs w σ (pre++a::post) xs:=by
  intro a ha;refine⟨by rw[hv.1];simp,fun i c x hc hxi=> ?_⟩
  by_cases e:i=pre.length
  ·subst e;simp at hc;subst hc;rw[zL hlt]at hxi;cases hxi;exact ha
  ·refine hv.2 i c x ?_ hxi;rw[←hc];rcases Nat.lt_or_ge i pre.length with hi|hi
   ·rw[List.getElem?_append_left hi,List.getElem?_append_left hi]
   ·rw[List.getElem?_append_right hi,List.getElem?_append_right hi,show i-pre.length=(i-pre.length-1)+1 by omega];rfl
 rcases qs2 hx with hn|hn
 ·exact h1.2 w σ xs H (go _ hn)
 ·exact h2.2 w σ xs H (go _ hn)
theorem dvP{a b:Int}(h:0≤a):a.tdiv b=a/b:=Int.tdiv_eq_ediv_of_nonneg h
theorem mdP{a b:Int}(h:0≤a):a.tmod b=a%b:=Int.tmod_eq_emod_of_nonneg h
theorem acO{P:Program}{f nt ns:Nat}{rs:List RV}{c:C}(hf:qM P f nt ns rs c){args:List AV}{h:List AObj}{r:AV}{h':List AObj}
  (hw:qX P h.length c (fnQ rs h fun r1 h1=>r1=r∧h1=h') (args++List.replicate (nt-args.length) .undef) (h++List.replicate ns (.emp 0))) (ha:args.length≤nt:=by simp):ACalls P f args h r h':=qE hf ha hw
theorem acQ{P:Program}{f nt ns:Nat}{rs:List RV}{c:C}(hf:qM P f nt ns rs c){args:List AV}{h:List AObj}{K:AV→List AObj→Prop}
  (hw:qX P h.length c (fnQ rs h K) (args++List.replicate (nt-args.length) .undef) (h++List.replicate ns (.emp 0))) (ha:args.length≤nt:=by simp):jc P f args h K:=qbX hf ha hw
theorem cA{P:Program}{f:Nat}{p:Bool}{vs:List AV}{d:Option Nat}{nx:Nx}{t:List AV}{h:List AObj}{r:AV}(hc:ACalls P f (strips vs) h r h)(hf:flags vs)(hn:nx (qT t d r) h):qk3 P f p vs d nx t h:=qH hc hf hn
theorem cG{P:Program}{f:Nat}{p g:Bool}{vs:List AV}{d:Option Nat}{nx:Nx}{t:List AV}{h:List AObj}{r:AV}(hc:g=true→ACalls P f (strips vs) h r h)(hf:g=true→flags vs)(hn:nx (qT t d (.gd g r)) h):qk4 P f p g vs d nx t h:=qO (fun e=>⟨hf e,hc e⟩) hn
theorem cU{P:Program}{f:Nat}{vs:List AV}{d:Option Nat}{nx:Nx}{t:List AV}{h:List AObj}{r:AV}(hc: ∀h0,ACalls P f (strips vs) h0 r h0)(hf:flags vs)(hn:nx (qT t d r) h):qpu P f vs d nx t h:=qpv hc hf hn
theorem flk{p:Prop}(h:p:=by (try intro _);repeat' first|exact quq|refine qup (by first|rfl|assumption) ?_):p:=h
theorem rvk{p:Prop}(h:p:=by repeat' first|exact qDB|refine qDC ?_|(simp[go_sem]<;>fail)):p:=h
theorem clz{p:Prop}(h:p:=by first|omega|(rename_i hx;revert hx;simp<;>fail)|(simp<;>fail)):p:=h
theorem tmq{p:Prop}(h:p:=by (simp only[List.replicate,go_sem,qg,qc,qa,qf];try (repeat' first|(with_reducible apply aiA)|(apply qh;omega)|(apply qe;rfl)|exact qi))):p:=h
attribute [go_sem] qp dvP mdP ze List.foldl List.replicate
end AF
end
