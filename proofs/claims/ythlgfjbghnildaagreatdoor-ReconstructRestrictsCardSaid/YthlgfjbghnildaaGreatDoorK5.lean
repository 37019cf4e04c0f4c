import Derived.Test.YthlgfjbghnildaaGreatDoorK4
import Derived.Test.YthlgfjbghnildaaGreatDoorK2
set_option linter.all false
set_option linter.unusedSimpArgs false
set_option linter.unusedVariables false
set_option linter.unusedSectionVars false
section
namespace AF
open Go
theorem dvP {a b:Int} (h:0≤a):a.tdiv b=a/b:=Int.tdiv_eq_ediv_of_nonneg h
theorem mdP {a b:Int} (h:0≤a):a.tmod b=a%b:=Int.tmod_eq_emod_of_nonneg h
theorem acO {P:Program} {f nt ns:Nat} {rs:List RV} {c:C} (hf:qM P f nt ns rs c) {args:List AV} {h:List AObj} {r:AV} {h':List AObj}
  (hw:qR P h.length c (fnQ rs h fun r1 h1=>r1=r∧h1=h') (args++List.replicate (nt-args.length) .undef) (h++List.replicate ns (.emp 0))) (ha:args.length≤nt:=by simp):qm P f args h r h':=qy hf ha hw
theorem acQ {P:Program} {f nt ns:Nat} {rs:List RV} {c:C} (hf:qM P f nt ns rs c) {args:List AV} {h:List AObj} {K:AV→List AObj→Prop}
  (hw:qR P h.length c (fnQ rs h K) (args++List.replicate (nt-args.length) .undef) (h++List.replicate ns (.emp 0))) (ha:args.length≤nt:=by simp):zZ P f args h K:=qaH hf ha hw
theorem cA {P:Program} {f:Nat} {p:Bool} {vs:List AV} {d:Option Nat} {nx:Nx} {t:List AV} {h:List AObj} {r:AV} (hc:qm P f (strips vs) h r h) (hf:flags vs) (hn:nx (qH t d r) h):qgy P f p vs d nx t h:=qp hc hf hn
theorem cE {P:Program} {f:Nat} {vs:List AV} {d:Option Nat} {nx:Nx} {t:List AV} {h h':List AObj} {r:AV} (hc:qm P f (strips vs) h r h') (hf:flags vs) (hn:nx (qH t d r) h'):qgy P f false vs d nx t h:=zh hc hf hn
theorem cG {P:Program} {f:Nat} {p g:Bool} {vs:List AV} {d:Option Nat} {nx:Nx} {t:List AV} {h:List AObj} {r:AV} (hc:g=true→qm P f (strips vs) h r h) (hf:g=true→flags vs) (hn:nx (qH t d (.gd g r)) h):qi4 P f p g vs d nx t h:=qq (fun e=>⟨hf e,hc e⟩) hn
theorem cU {P:Program} {f:Nat} {vs:List AV} {d:Option Nat} {nx:Nx} {t:List AV} {h:List AObj} {r:AV} (hc: ∀h0,qm P f (strips vs) h0 r h0) (hf:flags vs) (hn:nx (qH t d r) h):qmJ P f vs d nx t h:=qN hc hf hn
theorem flk {p:Prop} (h:p:=by (try intro _);repeat' first|exact qrc|refine qrb (by first|rfl|assumption) ?_):p:=h
theorem rvk {p:Prop} (h:p:=by repeat' first|exact qx8|refine qx9 ?_|(simp [go_sem]<;>fail)):p:=h
theorem clz {p:Prop} (h:p:=by first|omega|(rename_i hx;revert hx;simp<;>fail)|(simp<;>fail)):p:=h
theorem tmq {p:Prop} (h:p:=by (simp only [List.replicate,go_sem,qj,qh,qg,qi];try (repeat' first|(with_reducible refine And.intro ?_ ?_)|(apply qd;omega)|(apply qa;rfl)|exact VLe.refl _))):p:=h
attribute [go_sem] qk dvP mdP qI List.foldl
theorem qnK {ks:List Nat}: ∀ {h:List AObj} {j:Nat},j∉ks→qA j (kK ks h)=qA j h:=by
 induction ks with
 |nil=>intro h j _;rfl
 |cons k ks ih=>
  intro h j hj
  simp only [List.mem_cons,not_or]at hj
  show qA j (kK ks _)=_
  rw [ih hj.2,qa7 hj.1]
end AF
end
