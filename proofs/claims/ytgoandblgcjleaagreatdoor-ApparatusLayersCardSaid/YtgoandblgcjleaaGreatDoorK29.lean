import Derived.Test.YtgoandblgcjleaaGreatDoorK3
import Derived.Test.YtgoandblgcjleaaGreatDoorK5
import Derived.Test.YtgoandblgcjleaaGreatDoorK8
import Derived.Test.YtgoandblgcjleaaGreatDoorProg
import Derived.Test.YtgoandblgcjleaaGreatDoorK14
import Derived.Test.YtgoandblgcjleaaGreatDoorK15
set_option linter.all false
set_option linter.unusedSimpArgs false
set_option linter.unusedVariables false
set_option linter.unusedSectionVars false
set_option maxRecDepth 100000
section
open Go Go.Proofs AF
def qlk:List Nat:= [68,119]
def qAg:C:=
 ((C.ops [O1 3 (.box 0 3) 1,ON 4 (.nilo 1 6 58) []]).seq ((C.ops [MV 5 0,O1 6 (.call 68 false) 5,O1 7 (.mkfn (Fn.func 120) 0) 3,O2 8 (.call 119 false) 6 7,MV 4 8]).seq
 C.ret))
theorem qxG:qR Tryz.prog 45 9 3 [RV.tmp 4] qAg:=fi Tryz.f45 [3,4,6] qlk [] (by kernel_rfl) (by kernel_rfl) (by kernel_rfl) (by kernel_rfl)
def qoq:C:=
 ((C.ops [ON 4 (.nilo 0 6 58) []]).seq ((C.ops [MV 8 0,MV 9 1,O2 10 (.call 121 true) 8 9,MV 5 10]).seq (((C.ops [MV 11 5,BC 12 .eql 11 (i6 (-1))]).seq (C.cond (.t 12) ((C.ops
 [MV 13 0,MV 4 13]).seq C.ret) C.skip)).seq (((C.ops [MV 14 5,BC 15 .add 14 (i6 1),MV 6 15]).seq (C.block 0 (((C.ops [MV 16 6,MV 17 0,O1 18 .len 17,BI 19 .lss 16 18]).seq
 (C.cond (.t 19) C.skip (C.exit 0))).seq ((C.block 1 ((C.ops [MV 22 0,MV 23 6,O2 24 (.idxA 6) 22 23,O1 25 (.load (some 6)) 24,⟨some 7,none,.alloc 1 58 [i6 0,i6 0,i6 0,.bool
 false,.nl,.nl],[]⟩,ST 6 7 25]).seq ((C.ops [MV 26 1,O1 27 (.load (some 6)) 7,O2 28 .callv 26 27,O1 29 (.un UnOp.not) 28]).seq (C.cond (.t 29) ((C.ops [MV 30 0,MV 31 5,O1
 32 (.load (some 6)) 7,O2 33 (.idxA 6) 30 31,ST 6 33 32]).seq (C.ops [MV 34 5,BC 35 .add 34 (i6 1),MV 5 35])) C.skip)))).seq (C.ops [MV 20 6,BC 21 .add 20 (i6 1),MV 6
 21]))).loop)).seq ((C.ops [MV 36 0,MV 37 5,O2 38 (.slc 6 true false) 36 37,⟨none,none,.clr 6 [i6 0,i6 0,i6 0,.bool false,.nl,.nl],[.t 38]⟩]).seq ((C.ops [MV 39 0,MV 40
 5,O2 41 (.slc 6 false true) 39 40,MV 4 41]).seq
 C.ret))))))
theorem qk3:qR Tryz.prog 119 42 2 [RV.tmp 4] qoq:=fi Tryz.f119 [4,7] qlk [] (by kernel_rfl) (by kernel_rfl) (by kernel_rfl) (by kernel_rfl)
end
section
open Go Go.Proofs AF HY LN
namespace RC
set_option maxHeartbeats 16000000
section
variable {q : En → Bool} {L : List En} {J : Nat}
def jz (q:En→Bool) (L:List En) (J:Nat):List En:=(L.take J).filter fun e=> !q e
def qcQ (q:En→Bool) (L:List En) (J:Nat):List En:=jz q L J++L.drop (jz q L J).length
theorem qb9:(jz q L J).length≤J:=by
 unfold jz
 refine Nat.le_trans (List.length_filter_le _ _) ?_
 rw [List.length_take]
 exact Nat.min_le_left _ _
theorem qsa (hJ:J≤L.length):(qcQ q L J).length=L.length:=by
 have:=qb9 (q:=q) (L:=L) (J:=J)
 unfold qcQ
 rw [List.length_append,List.length_drop]
 omega
theorem qhe (hJ:J<L.length):L.take (J+1)=L.take J++ [L.getD J default]:=by
 rw [List.take_add_one,zU hJ,gdqA,zU hJ]
 rfl
theorem qr9 (hJ:J<L.length):(qcQ q L J).getD J default=L.getD J default:=by
 have:=qb9 (q:=q) (L:=L) (J:=J)
 unfold qcQ
 rw [gdqA,gdqA,List.getElem?_append_right this,List.getElem?_drop,Nat.add_sub_cancel' this]
theorem qgP (hJ:J<L.length) (h:q (L.getD J default)=true):jz q L (J+1)=jz q L J:=by
 unfold jz
 rw [qhe hJ,List.filter_append]
 simp only [List.filter_cons,h,Bool.not_true,Bool.false_eq_true,if_false,List.filter_nil,List.append_nil]
theorem qeB (hJ:J<L.length) (h:q (L.getD J default)=false):jz q L (J+1)=jz q L J++ [L.getD J default]:=by
 unfold jz
 rw [qhe hJ,List.filter_append]
 simp only [List.filter_cons,h,Bool.not_false,if_true,List.filter_nil]
theorem qoe (hJ:J<L.length) (h:q (L.getD J default)=false):qcQ q L (J+1)=(qcQ q L J).set (jz q L J).length (L.getD J default):=by
 have:=qb9 (q:=q) (L:=L) (J:=J)
 unfold qcQ
 rw [qeB hJ h,List.length_append,List.set_append_right _ _ (Nat.le_refl _),Nat.sub_self]
 rw [show L.drop (jz q L J).length=L[(jz q L J).length]'(by omega)::L.drop ((jz q L J).length+1)from List.drop_eq_getElem_cons (by omega),List.set_cons_zero,List.append_assoc]
 rfl
theorem qpp (h: ∀j,j<J→q (L.getD j default)=false) (hJ:J≤L.length):jz q L J=L.take J:=by
 unfold jz
 rw [List.filter_eq_self]
 intro e he
 obtain ⟨j,hj,rfl⟩:=List.getElem_of_mem he
 rw [List.length_take]at hj
 have:=h j (by omega)
 rw [gdqA,zU (by omega)]at this
 rw [List.getElem_take]
 simpa using this
theorem qsb (h: ∀j,j<J→q (L.getD j default)=false) (hJ:J<L.length) (hd:q (L.getD J default)=true):jz q L (J+1)=L.take J∧qcQ q L (J+1)=L:=by
 have e:=(qgP hJ hd).trans (qpp h (by omega))
 refine ⟨e,?_⟩
 unfold qcQ
 rw [e,List.length_take,show min J L.length=J by omega,List.take_append_drop]
theorem qpo:jz q L L.length=L.filter fun e=> !q e:=by unfold jz;rw [List.take_length]
end
section
variable {k v w : Nat} {h l : List AObj} {ty : TypeId} {cs : List AV}
theorem qlw (hk:k<h.length):zu (qJ k h (.mem w ty cs)++l) k v=decide (w=v):=by unfold zu;rw [qdC hk];first|rfl|simp
end
def zEn:List AV:= [.int .i64 0,.int .i64 0,.int .i64 0,.bool false,.nl,.nl]
theorem qlA (m n:Nat): ∀c∈qZ zEn m,jf n c=true:=by
 induction m with
 |zero=>intro c hc;cases hc
 |succ m ih=>
  intro c hc
  rcases List.mem_append.1 (show c∈zEn++qZ zEn m from hc)with hc|hc
  ·simp only [zEn,List.mem_cons,List.not_mem_nil,or_false]at hc
   rcases hc with rfl|rfl|rfl|rfl|rfl|rfl<;>rfl
  ·exact ih c hc
theorem qCO (L:List En) (q:En→Bool) (f:Nat) (y:Int) (j vj k v:Nat) (h:List AObj) (hk:qF k h=some (.mem v 58 (jp L))) (hj:qF j h=some (.mem vj 3 [.int .i64 y])) (hjk:j≠k) (hl:L.length≤1000000)
  (hq: ∀e hh,ACalls Tryz.prog f [.agg (enC e),.ip [.int .i64 y]] hh (.bool (q e)) hh):
  ACalls Tryz.prog 119 [.osl k v 6 0 L.length,.fn (.func f) [] [.op j vj 0]] h (.osl k v 6 0 (L.filter fun e=> !q e).length) (qJ k h (.mem v 58 (jp (L.filter fun e=> !q e)++qZ zEn (L.length-(L.filter fun e=> !q e).length)))):=by
 have hkl:=jn hk
 have hjl:=jn hj
 have cK:=qV hk
 have cJ:=qV hj
 have cix: ∀l,ACalls Tryz.prog 121 [.osl k v 6 0 L.length,.fn (.func f) [] [.op j vj 0]] (h++l) (.int .i64 (qac (fun i=>q (L.getD i default)) L.length 0)) (h++l):=by
  intro l
  have hk2:qF k (h++l)=_:=(jy hkl).trans hk
  have cJ2:cellsOf (h++l) j vj=_:=(qeh hjl).trans cJ
  refine ACalls.borrow ?_ rfl
  have e:([AV.osl k v 6 0 L.length,.fn (.func f) [] [.op j vj 0]]).map (rei (fun _=>true) (h++l) 8)= [.sl L.length (fun i=>(((jp L).drop (0+i*6)).take 6).map (rei (fun _=>true) (h++l) 7)),.fn (.func f) [] [.ip [.int .i64 y]]]:=by
   have h1:0+L.length*6≤(jp L).length:=by rw [kU];omega
   simp only [List.map_cons,List.map_nil,rei_osl,if_true,hk2,slOf_mem,true_and,h1,rei_fn,rei_op,cJ2,ipOf_some,List.drop_zero,rei_int]
  rw [e]
  refine ACalls.le (qaC qk4 L.length (fun j=>enC (L.getD j default)) (fun j=> .agg (enC (L.getD j default))) f [] [.ip [.int .i64 y]] (fun i=>q (L.getD i default)) _ (fun i _=>⟨rfl,by simp [ji,enC],rfl,rfl,rfl⟩) (fun i _=>hq _ _) (by omega)) ⟨VLe.sl_eq rfl (fun i hi=> ?_),VLe.refl _,trivial⟩ (VLe.refl _)
  rw [Nat.zero_add,qb7 hi]
  rfl
 have e0:h=qJ k h (.mem v 58 (jp L)):=(qmG hk).symm
 have s1: ∀ {l w cs z},cellsOf (qJ k h (.mem w 58 cs)++l) k z=if w=z then some cs else none:=qcr hkl
 have s2: ∀ {l o o'},qJ k (qJ k h o++l) o'=qJ k h o'++l:=qqg hkl
 have s3: ∀ {l w cs z},zu (qJ k h (.mem w 58 cs)++l) k z=decide (w=z):=qlw hkl
 have s4: ∀ {l o},qF k (qJ k h o++l)=some o:=qdC hkl
 have cl:=fun e hh (hx:qF j hh=some (.mem vj 3 [.int .i64 y]))=>show ACalls Tryz.prog f [.agg (enC e),.op j vj 0] hh (.bool (q e)) hh from by
  refine ACalls.borrow ?_ rfl
  have e2:([AV.agg (enC e),.op j vj 0]).map (rei (fun _=>true) hh 8)= [.agg (enC e),.ip [.int .i64 y]]:=by
   simp only [List.map_cons,List.map_nil,rei_op,if_true,qV hx,ipOf_some,List.drop_zero,rei_int,rei_agg]
   rfl
  rw [e2]
  exact hq _ _
 rcases zP (fun i=>q (L.getD i default)) L.length with ⟨i,h1,h2,h3,h4⟩|⟨h1,h2⟩
 ·rw [h4]at cix
  have k1:((i:Int)= -1)=False:=eq_false (by omega)
  refine acO qk3 ?_
  simp (disch:=omega) only [qoq,List.replicate,k1,go_sem]
  repeat' first
   |((first|refine cA (cix _) ?_ ?_|refine cG (fun e=>cix _) ?_ ?_|refine cU (fun _=>cix _) ?_ ?_);(next=>exact flk);simp (disch:=omega) only [k1,go_sem])
   |((first|apply qd|apply qb);exact rvk;simp only [go_sem];first|exact VLe.refl _|apply qe|apply qa|apply qf|skip)
   |with_reducible first|apply And.intro|intro _
  all_goals try exact clz
  obtain ⟨p1,p2⟩:=qsb h3 h1 h2
  have cl2:=fun e o l=>cl e (qJ k h o++l) (by rw [jy (by rw [jh];exact hjl),kW hjk];exact hj)
  have tE:=fun e=>show List.take 6 (enC e)=enC e from rfl
  have lE:=fun e=>show (enC e).length=6 from rfl
  have dE:=fun e=>show List.drop 6 (enC e)= []from rfl
  have eT:(jz q L (i+1)).length=i:=by rw [p1,List.length_take];omega
  refine qt (T:=fun s:Nat×AObj=>qY 42 [(0,.osl k v 6 0 L.length),(1,.fn (.func f) [] [.op j vj 0]),(5,.int .i64 ((jz q L s.1).length:Nat)),(6,.int .i64 s.1)])
   (H:=fun s=>qJ k h (.mem v 58 (jp (qcQ q L s.1)))++ [.emp 1,s.2])
   (inv:=fun s=>s.1≤L.length∧qK [s.2] 0=true∧(jz q L s.1).length<s.1) (m:=fun s=>L.length-s.1) (i+1,.emp 0) ⟨by simp only;omega,rfl,by simp only;omega⟩ ?_ ?_
  ·simp only [p2,eT]
   rw [←e0,show ((i+1:Nat):Int)=(i:Int)+1 by omega]
   refine Wk.temps ?_
   (simp only [List.replicate,go_sem,qk,qi,qg,qj];try (repeat' first|(with_reducible apply And.intro)|(apply qe;omega)|(apply qa;rfl)|exact VLe.refl _))
  rintro ⟨J,O⟩ ⟨i1,i2,i3⟩ K hK
  simp only at i1 i2 i3 hK
  have i2': ∀m,qK (O::m) 0=true:=fun _=>i2
  have hal:=qsa (q:=q) i1
  have hkn:=qb9 (q:=q) (L:=L) (J:=J)
  obtain ⟨m,hm⟩: ∃m,m=(jz q L J).length:=⟨_,rfl⟩
  rw [←hm]at hkn
  have em:=hm.symm
  by_cases hJ:J<L.length
  ·have q0:((J:Int)<L.length)=True:=eq_true (by omega)
   have gA:=qr9 (q:=q) hJ
   have gC:=qb7 (L:=qcQ q L J) (i:=J) (by omega)
   rw [gA]at gC
   have hEl:=kU (qcQ q L J)
   rw [hal]at hEl
   have f1:(J*6+6≤L.length*6)=True:=eq_true (by omega)
   have f2:(m*6+6≤L.length*6)=True:=eq_true (by omega)
   have f3:(J<L.length)=True:=eq_true hJ
   have f4:(m<L.length)=True:=eq_true (by omega)
   have f5:((m:Int)<L.length)=True:=eq_true (by omega)
   have hS:=qoR (L:=qcQ q L J) (i:=m) (L.getD J default) (by omega)
   obtain ⟨e,he⟩: ∃e,e=L.getD J default:=⟨_,rfl⟩
   have ee:=he.symm
   rw [ee]at gC hS
   cases hqe:q e with
   |true=>
    simp (disch:=omega) only [List.replicate,q0,tE,lE,dE,s1,s2,s3,s4,hEl,f1,f2,f3,f4,f5,gC,i2',em,go_sem]
    repeat' first
     |(refine qy (cl2 _ _ _) ?_;simp (disch:=omega) only [q0,hqe,tE,lE,dE,hS,s1,s2,s3,s4,hEl,f1,f2,f3,f4,f5,gC,i2',em,go_sem])
     |((first|apply qd|apply qb);exact rvk;simp only [go_sem];first|exact VLe.refl _|apply qe|apply qa|apply qf|skip)
     |with_reducible first|apply And.intro|intro _
    all_goals try exact clz
    have kd:=qgP hJ (ee▸hqe)
    have ad:qcQ q L (J+1)=qcQ q L J:=by unfold qcQ;rw [kd]
    refine hK _ _ (J+1,.mem (qu (some O)+1) 58 (enC e)) ⟨hJ,rfl,by simp only [kd];omega⟩ (by simp only;omega) ?_
    simp only [kd,ad,em]
    refine Wk.temps ?_
    (simp only [List.replicate,go_sem,qk,qi,qg,qj];try (repeat' first|(with_reducible apply And.intro)|(apply qe;omega)|(apply qa;rfl)|exact VLe.refl _))
   |false=>
    simp (disch:=omega) only [List.replicate,q0,tE,lE,dE,s1,s2,s3,s4,hEl,f1,f2,f3,f4,f5,gC,i2',em,go_sem]
    repeat' first
     |(refine qy (cl2 _ _ _) ?_;simp (disch:=omega) only [q0,hqe,tE,lE,dE,hS,s1,s2,s3,s4,hEl,f1,f2,f3,f4,f5,gC,i2',em,go_sem])
     |((first|apply qd|apply qb);exact rvk;simp only [go_sem];first|exact VLe.refl _|apply qe|apply qa|apply qf|skip)
     |with_reducible first|apply And.intro|intro _
    all_goals try exact clz
    have kd:=qeB hJ (ee▸hqe)
    have ad:=qoe hJ (ee▸hqe)
    have kl:(jz q L (J+1)).length=m+1:=by rw [kd,List.length_append,em];rfl
    rw [em,ee]at ad
    refine hK _ _ (J+1,.mem (qu (some O)+1) 58 (enC e)) ⟨hJ,rfl,by simp only [kl];omega⟩ (by simp only;omega) ?_
    simp only [kl,ad]
    refine Wk.temps ?_
    (simp only [List.replicate,go_sem,qk,qi,qg,qj];try (repeat' first|(with_reducible apply And.intro)|(apply qe;omega)|(apply qa;rfl)|exact VLe.refl _))
  have q0:((J:Int)<L.length)=False:=eq_false (by omega)
  obtain rfl:J=L.length:=by omega
  have hA:qcQ q L L.length=(jz q L L.length)++L.drop m:=by unfold qcQ;rw [em]
  have hEl:=kU (qcQ q L L.length)
  rw [hal]at hEl
  have q1:((m:Int)=0∨(m:Int)<L.length)=True:=eq_true (.inr (by omega))
  have q2:(m*6+(L.length-m)*6≤L.length*6)=True:=eq_true (by omega)
  have q3:(m≤L.length)=True:=eq_true (by omega)
  have q4:m*6+(L.length-m)*6=L.length*6:=by omega
  have q5:((m:Int)≤L.length)=True:=eq_true (by omega)
  have d1:List.take (m*6) (jp (qcQ q L L.length))=jp (jz q L L.length):=by
   rw [qep,hA,hm,List.take_left]
  have d2:List.drop (L.length*6) (jp (qcQ q L L.length))= []:=List.drop_eq_nil_of_le (by omega)
  have zE:qZ [.int .i64 0,.int .i64 0,.int .i64 0,.bool false,.nl,.nl]=qZ zEn:=rfl
  rw [em]
  simp (disch:=omega) only [List.replicate,q0,s1,s2,s3,s4,hEl,q1,q2,q3,q4,q5,d1,d2,zE,go_sem]
  repeat' first
   |((first|apply qd|apply qb);exact rvk;simp only [go_sem];first|exact VLe.refl _|apply qe|apply qa|apply qf|skip)
   |with_reducible first|apply And.intro|intro _
  all_goals try exact clz
  have eK:=qpo (q:=q) (L:=L)
  rw [hm,eK]
  refine qk8 (by simp only [go_sem]) jh (qpt (fun n c hc=> ?_)) ⟨rfl,rfl⟩ ?_
  ·rcases List.mem_append.1 hc with hc|hc
   ·exact qgE _ n c hc
   ·exact qlA _ n c hc
  ·simp only [go_sem,Nat.sub_zero]
   rw [if_neg (by omega)]
   exact VLe.refl _
 ·rw [h2]at cix
  have eF:(L.filter fun e=> !q e)=L:=by
   rw [List.filter_eq_self]
   intro e he
   obtain ⟨j,hj,rfl⟩:=List.getElem_of_mem he
   have:=h1 j hj
   simp only [gdqA,zU hj,Option.getD_some]at this
   simp [this]
  have eM:qZ zEn (L.length-L.length)= []:=by rw [Nat.sub_self];rfl
  rw [eF,eM,List.append_nil,←e0]
  refine acO qk3 ?_
  simp (disch:=omega) only [qoq,List.replicate,go_sem]
  repeat' first
   |((first|refine cA (cix _) ?_ ?_|refine cG (fun e=>cix _) ?_ ?_|refine cU (fun _=>cix _) ?_ ?_);(next=>exact flk);simp (disch:=omega) only [go_sem])
   |((first|apply qd|apply qb);exact rvk;simp only [go_sem];first|exact VLe.refl _|apply qe|apply qa|apply qf|skip)
   |with_reducible first|apply And.intro|intro _
  all_goals try exact clz
  rw [if_neg (by omega)]
  exact VLe.refl _
theorem qz1 (f:Nat) (cap:List AV) (h:List AObj):ACalls Tryz.prog 119 [jm [],.fn (.func f) [] cap] h (jm []) h:=by
 have cix:=fun h=>qaC qk4 0 (fun j=>enC (([]:List En).getD j default)) (fun j=> .agg (enC (([]:List En).getD j default))) f [] cap (fun _=>false) h (fun i hi=>absurd hi (by omega)) (fun i hi=>absurd hi (by omega)) (by omega)
 have zz:jm []= .sl 0 fun j=>enC (([]:List En).getD j default):=rfl
 have zi:qac (fun _=>false) 0 0= -1:=rfl
 simp only [zi]at cix
 rw [zz]
 refine acO qk3 ?_
 simp (disch:=omega) only [qoq,List.replicate,go_sem]
 repeat' first
  |((first|refine cA (cix _) ?_ ?_|refine cG (fun e=>cix _) ?_ ?_|refine cU (fun _=>cix _) ?_ ?_);(next=>exact flk);simp (disch:=omega) only [go_sem])
  |((first|apply qd|apply qb);exact rvk;simp only [go_sem];first|exact VLe.refl _|apply qe|apply qa|apply qf|skip)
  |with_reducible first|apply And.intro|intro _
 all_goals try exact clz
theorem of1 (e:En) (y:Int) (h:List AObj):ACalls Tryz.prog 120 [.agg (enC e),.ip [.int .i64 y]] h (.bool (decide (¬e.layer=y))) h:=by
 by_cases g:e.layer=y
 ·have k1:(e.layer=y)=True:=eq_true g
  rw [decide_eq_false (fun hc=>hc g)]
  refine acO qrj ?_
  simp (disch:=omega) only [qso,List.replicate,enC,k1,go_sem]
  repeat' first
   |((first|apply qd|apply qb);exact rvk;simp only [go_sem];first|exact VLe.refl _|apply qe|apply qa|apply qf|skip)
   |with_reducible first|apply And.intro|intro _
  all_goals try exact clz
 ·have k1:(e.layer=y)=False:=eq_false g
  rw [decide_eq_true g]
  refine acO qrj ?_
  simp (disch:=omega) only [qso,List.replicate,enC,k1,go_sem]
  repeat' first
   |((first|apply qd|apply qb);exact rvk;simp only [go_sem];first|exact VLe.refl _|apply qe|apply qa|apply qf|skip)
   |with_reducible first|apply And.intro|intro _
  all_goals try exact clz
theorem qmO {v n:Nat} {L:List En} {T:List AV} {ty:TypeId} {fz:Nat→Bool} {h:List AObj} {d:Nat} (hn:n=L.length):VLe (qdn (some (.mem v ty (jp L++T))) v 6 0 n (rei fz h (d+1))) (jm L):=by
 subst hn
 have hl:=kU L
 rw [slOf_mem,if_pos ⟨rfl,by rw [List.length_append];omega⟩]
 refine VLe.sl_eq rfl fun i hi=> ?_
 have e1:((jp L++T).drop (0+i*6)).take 6=enC (L.getD i default):=by
  rw [Nat.zero_add,List.drop_append_of_le_length (by omega),List.take_append_of_le_length (by rw [List.length_drop];omega),qb7 hi]
 rw [e1]
 rfl
theorem ofP (L:List En) (y:Int) (h:List AObj) (hl:L.length≤1000000):ACalls Tryz.prog 45 [jm L,.int .i64 y] h (jm (ofL L y)) h:=by
 by_cases h0:L= []
 ·subst h0
  have c1:=fun h=>qCK h
  have c2:=fun h=>qz1 120 [.op h.length 1 0] h
  have e0:ofL [] y= []:=rfl
  rw [e0]
  refine acO qxG ?_
  simp (disch:=omega) only [qAg,List.replicate,go_sem]
  repeat' first
   |((first|refine cA (c1 _) ?_ ?_|refine cG (fun e=>c1 _) ?_ ?_|refine cA (qz1 _ _ _) ?_ ?_|refine cG (fun e=>qz1 _ _ _) ?_ ?_|refine cU (fun _=>c1 _) ?_ ?_|refine cU (fun _=>qz1 _ _ _) ?_ ?_);(next=>exact flk);simp (disch:=omega) only [go_sem])
   |((first|apply qd|apply qb);exact rvk;simp only [go_sem];first|exact VLe.refl _|apply qe|apply qa|apply qf|skip)
   |with_reducible first|apply And.intro|intro _
  all_goals try exact clz
 ·refine acO qxG ?_
  simp (disch:=omega) only [qAg,List.replicate,go_sem]
  repeat' first
   |((first|apply qd|apply qb);exact rvk;simp only [go_sem];first|exact VLe.refl _|apply qe|apply qa|apply qf|skip)
   |with_reducible first|apply And.intro|intro _
  all_goals try exact clz
  refine qcm (qCJ L _ (h.length+2) (by simp only [go_sem]) h0 hl) (by exact flk) ?_
  simp (disch:=omega) only [go_sem]
  repeat' first
   |((first|apply qd|apply qb);exact rvk;simp only [go_sem];first|exact VLe.refl _|apply qe|apply qa|apply qf|skip)
   |with_reducible first|apply And.intro|intro _
  all_goals try exact clz
  refine qcm (qCO L (fun e=>decide (¬e.layer=y)) 120 y h.length 1 (h.length+2) 1 _ (by simp only [go_sem]) (by simp only [go_sem]) (by omega) hl (fun e hh=>of1 e y hh)) (by exact flk) ?_
  have eF:(L.filter fun e=> !decide (¬e.layer=y))=ofL L y:=List.filter_congr fun e _=>by
   by_cases g:e.layer=y
   ·simp [g]
   ·simp [g]
  rw [eF]
  simp (disch:=omega) only [go_sem]
  repeat' first
   |((first|apply qd|apply qb);exact rvk;simp only [go_sem];first|exact VLe.refl _|apply qe|apply qa|apply qf|skip)
   |with_reducible first|apply And.intro|intro _
  all_goals try exact clz
  have hs:=qmO (v:=1) (n:=(ofL L y).length) (L:=ofL L y) (T:=qZ zEn (L.length-(ofL L y).length)) (ty:=58) (fz:=fun k=>decide (h.length≤k)) (h:=h++ [AObj.mem 1 3 [AV.int IntKind.i64 y],AObj.emp 1,AObj.mem 1 58 (jp (ofL L y)++qZ zEn (L.length-(ofL L y).length))]) (d:=6) rfl
  rw [slOf_mem]at hs
  simpa only [true_and,Nat.zero_add] using hs
end RC
end
section
open Go Go.Proofs AF
def qfK:List Nat:= []
def c8s:C:=
 ((C.ops [O1 2 (.box 0 47) 0,O1 3 (.box 1 9) 1,MC 4 (.bool false)]).seq (((C.ops [O1 13 (.load (some 10)) 2,O1 14 (.call 23 true) 13,MV 15 14,P1 16 15 false (.load none) 3,P1
 17 15 false .slen 16,PC 18 15 false (.bin .gtr) 17 (i6 30),PT 19 15 18]).seq (C.cond (.t 19) ((C.ops [ON 20 (.call 24 true) [],MV 4 20]).seq C.ret) C.skip)).seq ((C.ops [O1 22
 (.fldA 8) 2,LD 23 22,LD 24 3,O2 25 (.call 27 true) 23 24,MV 21 25,O1 26 (.ext 0) 21,O1 27 (.ext 1) 21,MV 5 26,MV 6 27]).seq (((C.ops [MV 28 6,BC 29 .eql 28 (i6 0)]).seq
 (C.cond (.t 29) (((C.ops [MV 30 5,BC 31 .lss 30 (i6 0),MV 32 31,MG 33 32 false 5,P1 34 32 false (.fldA 8) 2,P1 35 32 false (.load none) 34,P1 36 32 false .len 35,P2 37 32
 false (.bin .geq) 33 36,PT 38 32 37,MV 39 38,P1 40 39 false (.fldA 8) 2,P1 41 39 false (.load none) 40,P1 42 39 false .len 41,PC 43 39 false (.bin .gtr) 42 (i6 16),PT 44 39
 43]).seq (C.cond (.t 44) ((C.ops [MC 4 (.bool false)]).seq C.ret) C.skip)).seq ((C.ops [O1 45 (.fldA 8) 2,LD 46 45,O1 47 (.mkfn (Fn.func 42) 0) 3,O2 48 (.call 41 true) 46 47,MV
 7 48]).seq (((C.ops [MV 49 7,BC 50 .lss 49 (i6 0)]).seq (C.cond (.t 50) (C.ops [O1 51 (.fldA 8) 2,LD 52 51,O1 53 .len 52,BC 54 .sub 53 (i6 1),MV 7 54]) C.skip)).seq ((C.ops
 [MV 55 5,MV 56 7,BI 57 .neq 55 56]).seq (C.cond (.t 57) ((C.ops [MC 4 (.bool false)]).seq C.ret) C.skip))))) ((C.ops [O1 58 (.fldA 8) 2,LD 59 58,O1 60 .len 59,BC 61 .gtr 60
 (i6 0),MV 62 61,P1 63 62 true (.fldA 8) 2,P1 64 62 true (.load none) 63,P1 65 62 true .len 64,PC 66 62 true (.bin .leq) 65 (i6 16),PF 67 62 66]).seq (C.cond (.t 67) ((C.ops
 [MC 4 (.bool false)]).seq C.ret) C.skip)))).seq ((C.ops [O1 69 (.load (some 10)) 2,O1 70 (.call 25 true) 69,MV 68 70,O1 71 (.ext 0) 68,O1 72 (.ext 1) 68,MV 8 71,MV 9 72]).seq
 (((C.ops [MV 73 9,BC 74 .neq 73 (i6 0)]).seq (C.cond (.t 74) ((C.ops [ON 75 (.call 24 true) [],MV 4 75]).seq C.ret) C.skip)).seq ((C.ops [MC 10 (i6 0)]).seq (((C.ops [O1 76
 (.fldA 8) 2,LD 77 76,O1 78 .len 77,MC 79 (i6 0)]).seq (C.block 0 ((C.ops [BI 80 .lss 79 78]).seq ((C.cond (.t 80) C.skip (C.exit 0)).seq ((C.block 1 ((C.ops [MV 81 79,⟨some 11,
 none,.alloc 2 3 [i6 0],[]⟩,ST 1 11 81]).seq ((C.ops [MV 82 8,LD 83 11,O2 84 (.call 45 true) 82 83,MV 12 84]).seq (((C.ops [MV 85 12,O1 86 (.mkfn (Fn.func 47) 0) 11,O2 87
 (.call 46 true) 85 86]).seq (C.cond (.t 87) ((C.ops [MC 4 (.bool false)]).seq C.ret) C.skip)).seq (C.ops [MV 88 10,MV 89 12,O1 90 .len 89,BI 91 .add 88 90,MV 10 91]))))).seq
 (C.ops [BC 92 .add 79 (i6 1),MV 79 92])))).loop)).seq ((C.ops [MV 93 10,MV 94 8,O1 95 .len 94,BI 96 .eql 93 95,MV 97 96,MG 98 97 true 8,P1 99 97 true (.fldA 8) 2,P1 100 97
 true (.load none) 99,P1 101 97 true .len 100,P2 102 97 true (.call 45 true) 98 101,P1 103 97 true .len 102,PC 104 97 true (.bin .eql) 103 (i6 0),PF 105 97 104,MV 106 105,PN
 107 106 true (.call 24 true) [],PF 108 106 107,MV 4 108]).seq
 C.ret)))))))))
theorem qrB:qR Tryz.prog 8 109 3 [RV.tmp 4] c8s:=fi Tryz.f8 [2,3,11] qfK [] (by kernel_rfl) (by kernel_rfl) (by kernel_rfl) (by kernel_rfl)
def qAf:C:=
 ((C.ops [MC 3 (.bool false)]).seq ((C.ops [MV 4 0,OC 5 (.call 44 true) 4 (.str [32]),LD 6 1,O2 7 (.call 43 true) 5 6,MV 8 7,P1 9 8 true (.load none) 1,PC 10 8 true (.bin
 .neq) 9 (.str []),PF 11 8 10,MV 3 11]).seq
 C.ret))
theorem qxF:qR Tryz.prog 42 12 0 [RV.tmp 3] qAf:=fi Tryz.f42 [] qfK [] (by kernel_rfl) (by kernel_rfl) (by kernel_rfl) (by kernel_rfl)
def qAh:C:=
 ((C.ops [O1 2 (.box 0 58) 0,MC 3 (.bool false)]).seq ((C.ops [O1 4 (.fldA 0) 2,LD 5 4,LD 6 1,BI 7 .neq 5 6,MV 3 7]).seq
 C.ret))
theorem qxH:qR Tryz.prog 47 8 1 [RV.tmp 3] qAh:=fi Tryz.f47 [2] qfK [] (by kernel_rfl) (by kernel_rfl) (by kernel_rfl) (by kernel_rfl)
end
section
open Go Go.Proofs AF HY LN
namespace RC
set_option maxHeartbeats 16000000
theorem la1 (s cls:Str) (h:List AObj) (hs:s.length≤100000000):ACalls Tryz.prog 42 [.str s,.ip [.str cls]] h (.bool (qbs cls s)) h:=by
 have hsp:=qcB cls s
 have c1:=fun h=>u45 s 32 h (by omega)
 have hcl:=List.count_le_length (a:=(32:UInt8)) (l:=s)
 have hll:=qaz 32 s
 obtain ⟨P,hP⟩: ∃P,P=jY 32 s:=⟨_,rfl⟩
 rw [←hP]at hsp hll
 simp only [←hP]at c1
 have c2:=fun h=>ctS P cls h (by omega)
 unfold strs at c1 c2
 obtain ⟨b,hb⟩: ∃b,b=decide (cls∈P):=⟨_,rfl⟩
 rw [←hb]at hsp
 simp only [←hb]at c2
 by_cases g3:cls= []
 ·have q1:(cls= [])=True:=eq_true g3
  rw [decide_eq_false (fun h=>h g3),Bool.false_and]at hsp
  rw [hsp]
  cases b
  all_goals
   refine acO qxF ?_
   simp (disch:=omega) only [qAf,List.replicate,q1,go_sem]
   repeat' first
    |((first|refine cA (c1 _) ?_ ?_|refine cG (fun e=>c1 _) ?_ ?_|refine cA (c2 _) ?_ ?_|refine cG (fun e=>c2 _) ?_ ?_|refine cU (fun _=>c1 _) ?_ ?_|refine cU (fun _=>c2 _) ?_ ?_);(next=>exact flk);simp (disch:=omega) only [q1,go_sem])
    |((first|apply qd|apply qb);exact rvk;simp only [go_sem];first|exact VLe.refl _|apply qe|apply qa|apply qf|skip)
    |with_reducible first|apply And.intro|intro _
   all_goals try exact clz
 ·have q1:(cls= [])=False:=eq_false g3
  rw [decide_eq_true (show cls≠ []from g3),Bool.true_and]at hsp
  rw [hsp]
  cases b
  all_goals
   refine acO qxF ?_
   simp (disch:=omega) only [qAf,List.replicate,q1,go_sem]
   repeat' first
    |((first|refine cA (c1 _) ?_ ?_|refine cG (fun e=>c1 _) ?_ ?_|refine cA (c2 _) ?_ ?_|refine cG (fun e=>c2 _) ?_ ?_|refine cU (fun _=>c1 _) ?_ ?_|refine cU (fun _=>c2 _) ?_ ?_);(next=>exact flk);simp (disch:=omega) only [q1,go_sem])
    |((first|apply qd|apply qb);exact rvk;simp only [go_sem];first|exact VLe.refl _|apply qe|apply qa|apply qf|skip)
    |with_reducible first|apply And.intro|intro _
   all_goals try exact clz
theorem la2 (e:En) (y:Int) (h:List AObj):ACalls Tryz.prog 47 [.agg (enC e),.ip [.int .i64 y]] h (.bool (decide (¬e.layer=y))) h:=by
 by_cases g:e.layer=y
 ·have k1:(e.layer=y)=True:=eq_true g
  rw [decide_eq_false (fun hc=>hc g)]
  refine acO qxH ?_
  simp (disch:=omega) only [qAh,List.replicate,enC,k1,go_sem]
  repeat' first
   |((first|apply qd|apply qb);exact rvk;simp only [go_sem];first|exact VLe.refl _|apply qe|apply qa|apply qf|skip)
   |with_reducible first|apply And.intro|intro _
  all_goals try exact clz
 ·have k1:(e.layer=y)=False:=eq_false g
  rw [decide_eq_true g]
  refine acO qxH ?_
  simp (disch:=omega) only [qAh,List.replicate,enC,k1,go_sem]
  repeat' first
   |((first|apply qd|apply qb);exact rvk;simp only [go_sem];first|exact VLe.refl _|apply qe|apply qa|apply qf|skip)
   |with_reducible first|apply And.intro|intro _
  all_goals try exact clz
theorem qAZ (L:List Str) (cls:Str) (k v:Nat) (h:List AObj) (hk:qF k h=some (.mem v 9 [.str cls])) (hl:L.length≤1000000000) (hs: ∀i,(L.getD i []).length≤100000000):
  ACalls Tryz.prog 41 [strs L,.fn (.func 42) [] [.op k v 0]] h (.int .i64 (qac (fun i=>qbs cls (L.getD i [])) L.length 0)) h:=by
 have hc:=qV hk
 unfold strs
 refine qaC qxE L.length (fun j=> [.str (L.getD j [])]) (fun j=> .str (L.getD j [])) _ [] [.op k v 0] _ h (fun i _=>⟨rfl,by simp [ji],rfl,rfl,rfl⟩) (fun i _=> ?_) (by omega)
 refine ACalls.borrow ?_ rfl
 have e:([AV.str (L.getD i [])]++ [AV.op k v 0]).map (rei (fun _=>true) h 8)= [.str (L.getD i []),.ip [.str cls]]:=by
  simp only [List.cons_append,List.nil_append,List.map_cons,List.map_nil,rei_op,if_true,hc,ipOf_some,List.drop_zero,rei_str]
 rw [List.nil_append,e]
 exact la1 _ cls _ (hs i)
theorem qAp (L:List En) (y:Int) (k v:Nat) (h:List AObj) (hk:qF k h=some (.mem v 3 [.int .i64 y])) (hl:L.length≤1000000) (hL: ∀e∈L,e.layer=y):
  ACalls Tryz.prog 46 [jm L,.fn (.func 47) [] [.op k v 0]] h (.bool false) h:=by
 have hc:=qV hk
 have e0:zH (fun j=>decide (¬(L.getD j default).layer=y)) L.length=false:=qo.2 fun j hj=>decide_eq_false fun hn=>hn (hL _ (qcA hj))
 rw [←e0]
 unfold jm
 refine qky qAD ⟨rfl,rfl⟩ ⟨rfl,rfl⟩ (qaC qk4 L.length (fun j=>enC (L.getD j default)) (fun j=> .agg (enC (L.getD j default))) _ [] [.op k v 0] _ h (fun i _=>⟨rfl,by simp [ji,enC],rfl,rfl,rfl⟩) (fun i _=> ?_) (by omega))
 refine ACalls.borrow ?_ rfl
 have e:([AV.agg (enC (L.getD i default))]++ [AV.op k v 0]).map (rei (fun _=>true) h 8)= [.agg (enC (L.getD i default)),.ip [.int .i64 y]]:=by
  simp only [List.cons_append,List.nil_append,List.map_cons,List.map_nil,rei_op,if_true,hc,ipOf_some,List.drop_zero,rei_agg,rei_int]
  rfl
 rw [List.nil_append,e]
 exact la2 _ y _
theorem qC7 (a:Ap) (cls:Str) (h:List AObj) (hp:qbk SG h) (hb:ApB a) (hcl:cls.length≤9223372036854775807):ACalls Tryz.prog 8 [.agg (apC a),.str cls] h (.bool true) h:=by
 have c24:=fun l=>qvr (h++l) (hp.app l)
 have c23:=fun h=>grP a h hb
 obtain ⟨g,hg⟩: ∃g,g=qrE a:=⟨_,rfl⟩
 rw [←hg]at c23
 cases g with
 |true=>
  refine acO qrB ?_
  simp (disch:=omega) only [c8s,List.replicate,apC,go_sem]
  repeat' first
   |((first|refine cA (c23 _) ?_ ?_|refine cG (fun e=>c23 _) ?_ ?_|refine cA (c24 _) ?_ ?_|refine cG (fun e=>c24 _) ?_ ?_|refine cU (fun _=>c23 _) ?_ ?_|refine cU (fun _=>c24 _) ?_ ?_);(next=>exact flk);simp (disch:=omega) only [apC,go_sem])
   |((first|apply qd|apply qb);exact rvk;simp only [go_sem];first|exact VLe.refl _|apply qe|apply qa|apply qf|skip)
   |with_reducible first|apply And.intro|intro _
  all_goals try exact clz
 |false=>
  have hz:=qfJ hg.symm
  have hn:=qkJ hz
  by_cases g30:30<cls.length
  ·have k0:((30:Int)<cls.length)=True:=eq_true (by omega)
   refine acO qrB ?_
   simp (disch:=omega) only [c8s,List.replicate,apC,k0,go_sem]
   repeat' first
    |((first|refine cA (c23 _) ?_ ?_|refine cG (fun e=>c23 _) ?_ ?_|refine cA (c24 _) ?_ ?_|refine cG (fun e=>c24 _) ?_ ?_|refine cU (fun _=>c23 _) ?_ ?_|refine cU (fun _=>c24 _) ?_ ?_);(next=>exact flk);simp (disch:=omega) only [apC,k0,go_sem])
    |((first|apply qd|apply qb);exact rvk;simp only [go_sem];first|exact VLe.refl _|apply qe|apply qa|apply qf|skip)
    |with_reducible first|apply And.intro|intro _
   all_goals try exact clz
  have k0:((30:Int)<cls.length)=False:=eq_false (by omega)
  have c27:=fun h=>lyP a.lay cls h (Nat.le_trans hz.y18 (by decide)) (fun i=>Nat.le_trans (hz.yl i) (by decide))
  have c25:=fun l=>qtH a (h++l) hz (hp.app l)
  obtain ⟨E,hE⟩: ∃E,E=enE a:=⟨_,rfl⟩
  obtain ⟨L,hL⟩: ∃L,L=enR a:=⟨_,rfl⟩
  rw [←hE,←hL]at c25
  rw [←hL]at hn
  have hEl:E=0→lyE a.lay=0:=fun h0=>by rw [hE]at h0;exact (qwA h0).2.2.1
  have zs: ∀g,valL g .len [strs a.lay]= .int .i64 a.lay.length:=fun _=>rfl
  have zk: ∀g,okL g .len [strs a.lay]=True:=fun _=>eq_true trivial
  have zl: ∀g,valL g .len [jm L]= .int .i64 L.length:=fun _=>rfl
  have zm: ∀g,okL g .len [jm L]=True:=fun _=>eq_true trivial
  obtain ⟨N,hN⟩: ∃N,N=lyR a.lay cls:=⟨_,rfl⟩
  obtain ⟨F,hF⟩: ∃F,F=lyE a.lay:=⟨_,rfl⟩
  rw [←hN,←hF]at c27
  rw [←hF]at hEl
  by_cases gF:F=0
  case neg=>
   have k1:(F=0)=False:=eq_false gF
   have k2:(E=0)=False:=eq_false fun h0=>gF (hEl h0)
   rcases Nat.eq_zero_or_pos a.lay.length with l0|l0
   ·have k3:((0:Int)<a.lay.length)=False:=eq_false (by omega)
    refine acO qrB ?_
    simp (disch:=omega) only [c8s,List.replicate,apC,k0,k1,k2,k3,zs,zk,go_sem]
    repeat' first
     |((first|refine cA (c23 _) ?_ ?_|refine cG (fun e=>c23 _) ?_ ?_|refine cA (c27 _) ?_ ?_|refine cG (fun e=>c27 _) ?_ ?_|refine cA (c25 _) ?_ ?_|refine cG (fun e=>c25 _) ?_ ?_|refine cA (c24 _) ?_ ?_|refine cG (fun e=>c24 _) ?_ ?_|refine cU (fun _=>c23 _) ?_ ?_|refine cU (fun _=>c27 _) ?_ ?_|refine cU (fun _=>c25 _) ?_ ?_|refine cU (fun _=>c24 _) ?_ ?_);(next=>exact flk);simp (disch:=omega) only [apC,k0,k1,k2,k3,zs,zk,go_sem])
     |((first|apply qd|apply qb);exact rvk;simp only [go_sem];first|exact VLe.refl _|apply qe|apply qa|apply qf|skip)
     |with_reducible first|apply And.intro|intro _
    all_goals try exact clz
   ·have l16: ¬a.lay.length≤16:=fun hc=>gF (by rw [hF];unfold lyE;rw [if_neg (by omega),if_neg (by omega)])
    have k3:((0:Int)<a.lay.length)=True:=eq_true (by omega)
    have k4:((a.lay.length:Int)≤16)=False:=eq_false (by omega)
    refine acO qrB ?_
    simp (disch:=omega) only [c8s,List.replicate,apC,k0,k1,k2,k3,k4,zs,zk,go_sem]
    repeat' first
     |((first|refine cA (c23 _) ?_ ?_|refine cG (fun e=>c23 _) ?_ ?_|refine cA (c27 _) ?_ ?_|refine cG (fun e=>c27 _) ?_ ?_|refine cA (c25 _) ?_ ?_|refine cG (fun e=>c25 _) ?_ ?_|refine cA (c24 _) ?_ ?_|refine cG (fun e=>c24 _) ?_ ?_|refine cU (fun _=>c23 _) ?_ ?_|refine cU (fun _=>c27 _) ?_ ?_|refine cU (fun _=>c25 _) ?_ ?_|refine cU (fun _=>c24 _) ?_ ?_);(next=>exact flk);simp (disch:=omega) only [apC,k0,k1,k2,k3,k4,zs,zk,go_sem])
     |((first|apply qd|apply qb);exact rvk;simp only [go_sem];first|exact VLe.refl _|apply qe|apply qa|apply qf|skip)
     |with_reducible first|apply And.intro|intro _
    all_goals try exact clz
  have k1:(F=0)=True:=eq_true gF
  rw [hF]at gF
  obtain ⟨l0,l16⟩:=qx7 gF
  unfold lyR at hN
  rw [if_pos gF]at hN
  unfold lyN at hN
  have hI:=zP (fun i=>qbs cls (a.lay.getD i [])) a.lay.length
  have c41:=fun H hk=>qAZ a.lay cls (h.length+1) 1 H hk (Nat.le_trans hz.y18 (by decide)) (fun i=>Nat.le_trans (hz.yl i) (by decide))
  obtain ⟨I,eI⟩: ∃I,I=qac (fun i=>qbs cls (a.lay.getD i [])) a.lay.length 0:=⟨_,rfl⟩
  rw [←eI]at hN hI
  simp only [←eI]at c41
  have hIb:I<a.lay.length∧ -1≤I:=by rcases hI with ⟨i,i1,_,_,i2⟩|⟨_,i2⟩<;>omega
  have hNb:0≤N∧N<a.lay.length:=by rw [hN];split<;>omega
  have k2:(N<0)=False:=eq_false (by omega)
  have k3:((a.lay.length:Int)≤N)=False:=eq_false (by omega)
  have k4:((16:Int)<a.lay.length)=False:=eq_false (by omega)
  have hlay:E=0→ ∀e∈L,0≤e.layer∧e.layer<a.lay.length:=fun _ e he=>by rw [hL]at he;exact qs7 he
  have z18:=hz.y18
  by_cases gE:E=0
  case neg=>
   have kE:(E=0)=False:=eq_false gE
   rcases Int.lt_or_le I 0 with g1|g1
   ·have k5:(I<0)=True:=eq_true g1
    rw [if_pos g1]at hN
    have k6:(N=(a.lay.length:Int)-1)=True:=eq_true hN
    refine acO qrB ?_
    simp (disch:=omega) only [c8s,List.replicate,apC,k0,k1,k2,k3,k4,zs,zk,go_sem]
    repeat' first
     |((first|refine cA (c23 _) ?_ ?_|refine cG (fun e=>c23 _) ?_ ?_|refine cA (c27 _) ?_ ?_|refine cG (fun e=>c27 _) ?_ ?_|refine cU (fun _=>c23 _) ?_ ?_|refine cU (fun _=>c27 _) ?_ ?_);(next=>exact flk);simp (disch:=omega) only [apC,k0,k1,k2,k3,k4,zs,zk,go_sem])
     |((first|apply qd|apply qb);exact rvk;simp only [go_sem];first|exact VLe.refl _|apply qe|apply qa|apply qf|skip)
     |with_reducible first|apply And.intro|intro _
    all_goals try exact clz
    refine cA (c41 _ ?a2) (by exact flk) ?_
    case a2=>simp only [go_sem]
    simp (disch:=omega) only [k5,k6,zs,zk,kE,go_sem]
    repeat' first
     |((first|refine cA (c25 _) ?_ ?_|refine cG (fun e=>c25 _) ?_ ?_|refine cA (c24 _) ?_ ?_|refine cG (fun e=>c24 _) ?_ ?_|refine cU (fun _=>c25 _) ?_ ?_|refine cU (fun _=>c24 _) ?_ ?_);(next=>exact flk);simp (disch:=omega) only [k5,k6,zs,zk,kE,go_sem])
     |((first|apply qd|apply qb);exact rvk;simp only [go_sem];first|exact VLe.refl _|apply qe|apply qa|apply qf|skip)
     |with_reducible first|apply And.intro|intro _
    all_goals try exact clz
   ·have k5:(I<0)=False:=eq_false (by omega)
    rw [if_neg (by omega)]at hN
    have k6:(N=I)=True:=eq_true hN
    refine acO qrB ?_
    simp (disch:=omega) only [c8s,List.replicate,apC,k0,k1,k2,k3,k4,zs,zk,go_sem]
    repeat' first
     |((first|refine cA (c23 _) ?_ ?_|refine cG (fun e=>c23 _) ?_ ?_|refine cA (c27 _) ?_ ?_|refine cG (fun e=>c27 _) ?_ ?_|refine cU (fun _=>c23 _) ?_ ?_|refine cU (fun _=>c27 _) ?_ ?_);(next=>exact flk);simp (disch:=omega) only [apC,k0,k1,k2,k3,k4,zs,zk,go_sem])
     |((first|apply qd|apply qb);exact rvk;simp only [go_sem];first|exact VLe.refl _|apply qe|apply qa|apply qf|skip)
     |with_reducible first|apply And.intro|intro _
    all_goals try exact clz
    refine cA (c41 _ ?a2) (by exact flk) ?_
    case a2=>simp only [go_sem]
    simp (disch:=omega) only [k5,k6,zs,zk,kE,go_sem]
    repeat' first
     |((first|refine cA (c25 _) ?_ ?_|refine cG (fun e=>c25 _) ?_ ?_|refine cA (c24 _) ?_ ?_|refine cG (fun e=>c24 _) ?_ ?_|refine cU (fun _=>c25 _) ?_ ?_|refine cU (fun _=>c24 _) ?_ ?_);(next=>exact flk);simp (disch:=omega) only [k5,k6,zs,zk,kE,go_sem])
     |((first|apply qd|apply qb);exact rvk;simp only [go_sem];first|exact VLe.refl _|apply qe|apply qa|apply qf|skip)
     |with_reducible first|apply And.intro|intro _
    all_goals try exact clz
  have kE:(E=0)=True:=eq_true gE
  have hlay:=hlay gE
  have hsum:=qqF (n:=a.lay.length) (L:=L) hlay
  have hof:ofL L (a.lay.length:Int)= []:=List.filter_eq_nil_iff.2 fun e he hc=>by
   have h1:=(hlay e he).2
   have h2:=of_decide_eq_true hc
   omega
  have c45:=fun (i:Int) h=>ofP L i h (by omega)
  have fin:=fun H=>ofP L (a.lay.length:Int) H (by omega)
  rw [hof]at fin
  rcases Int.lt_or_le I 0 with g1|g1
  case' inl=>
   have k5:(I<0)=True:=eq_true g1
   rw [if_pos g1]at hN
   have k6:(N=(a.lay.length:Int)-1)=True:=eq_true hN
   refine acO qrB ?_
   simp (disch:=omega) only [c8s,List.replicate,apC,k0,k1,k2,k3,k4,zs,zk,go_sem]
   repeat' first
    |((first|refine cA (c23 _) ?_ ?_|refine cG (fun e=>c23 _) ?_ ?_|refine cA (c27 _) ?_ ?_|refine cG (fun e=>c27 _) ?_ ?_|refine cU (fun _=>c23 _) ?_ ?_|refine cU (fun _=>c27 _) ?_ ?_);(next=>exact flk);simp (disch:=omega) only [apC,k0,k1,k2,k3,k4,zs,zk,go_sem])
    |((first|apply qd|apply qb);exact rvk;simp only [go_sem];first|exact VLe.refl _|apply qe|apply qa|apply qf|skip)
    |with_reducible first|apply And.intro|intro _
   all_goals try exact clz
   refine cA (c41 _ ?a2) (by exact flk) ?_
   case a2=>simp only [go_sem]
   simp (disch:=omega) only [k5,k6,zs,zk,kE,go_sem]
   repeat' first
    |((first|refine cA (c25 _) ?_ ?_|refine cG (fun e=>c25 _) ?_ ?_|refine cU (fun _=>c25 _) ?_ ?_);(next=>exact flk);simp (disch:=omega) only [k5,k6,zs,zk,kE,go_sem])
    |((first|apply qd|apply qb);exact rvk;simp only [go_sem];first|exact VLe.refl _|apply qe|apply qa|apply qf|skip)
    |with_reducible first|apply And.intro|intro _
   all_goals try exact clz
   refine qt (T:=fun s:Nat×AObj=>qY 109 [(2,.op h.length 1 0),(8,jm L),(10,.int .i64 (qe3 L s.1:Nat)),(78,.int .i64 a.lay.length),(79,.int .i64 s.1)])
    (H:=fun s=>h++ [.mem 1 47 (apC a),.mem 1 9 [.str cls],s.2])
    (inv:=fun s=>s.1≤a.lay.length∧qK [s.2] 0=true∧qe3 L s.1≤216*s.1) (m:=fun s=>a.lay.length-s.1) (0,.emp 0) ⟨Nat.zero_le _,rfl,Nat.zero_le _⟩ (Wk.temps ?_) ?_
   ·(simp only [List.replicate,apC,qe3,go_sem,qk,qi,qg,qj];try (repeat' first|(with_reducible apply And.intro)|(apply qe;omega)|(apply qa;rfl)|exact VLe.refl _))
  case' inr=>
   have k5:(I<0)=False:=eq_false (by omega)
   rw [if_neg (by omega)]at hN
   have k6:(N=I)=True:=eq_true hN
   refine acO qrB ?_
   simp (disch:=omega) only [c8s,List.replicate,apC,k0,k1,k2,k3,k4,zs,zk,go_sem]
   repeat' first
    |((first|refine cA (c23 _) ?_ ?_|refine cG (fun e=>c23 _) ?_ ?_|refine cA (c27 _) ?_ ?_|refine cG (fun e=>c27 _) ?_ ?_|refine cU (fun _=>c23 _) ?_ ?_|refine cU (fun _=>c27 _) ?_ ?_);(next=>exact flk);simp (disch:=omega) only [apC,k0,k1,k2,k3,k4,zs,zk,go_sem])
    |((first|apply qd|apply qb);exact rvk;simp only [go_sem];first|exact VLe.refl _|apply qe|apply qa|apply qf|skip)
    |with_reducible first|apply And.intro|intro _
   all_goals try exact clz
   refine cA (c41 _ ?a2) (by exact flk) ?_
   case a2=>simp only [go_sem]
   simp (disch:=omega) only [k5,k6,zs,zk,kE,go_sem]
   repeat' first
    |((first|refine cA (c25 _) ?_ ?_|refine cG (fun e=>c25 _) ?_ ?_|refine cU (fun _=>c25 _) ?_ ?_);(next=>exact flk);simp (disch:=omega) only [k5,k6,zs,zk,kE,go_sem])
    |((first|apply qd|apply qb);exact rvk;simp only [go_sem];first|exact VLe.refl _|apply qe|apply qa|apply qf|skip)
    |with_reducible first|apply And.intro|intro _
   all_goals try exact clz
   refine qt (T:=fun s:Nat×AObj=>qY 109 [(2,.op h.length 1 0),(8,jm L),(10,.int .i64 (qe3 L s.1:Nat)),(78,.int .i64 a.lay.length),(79,.int .i64 s.1)])
    (H:=fun s=>h++ [.mem 1 47 (apC a),.mem 1 9 [.str cls],s.2])
    (inv:=fun s=>s.1≤a.lay.length∧qK [s.2] 0=true∧qe3 L s.1≤216*s.1) (m:=fun s=>a.lay.length-s.1) (0,.emp 0) ⟨Nat.zero_le _,rfl,Nat.zero_le _⟩ (Wk.temps ?_) ?_
   ·(simp only [List.replicate,apC,qe3,go_sem,qk,qi,qg,qj];try (repeat' first|(with_reducible apply And.intro)|(apply qe;omega)|(apply qa;rfl)|exact VLe.refl _))
  all_goals
   rintro ⟨i,O⟩ ⟨i1,i2,i3⟩ K hK
   simp only at i1 i2 i3 hK
   have i2': ∀m,qK (O::m) 0=true:=fun _=>i2
   by_cases hi:i<a.lay.length
   ·have q0:((i:Int)<a.lay.length)=True:=eq_true (by omega)
    have hS:qe3 L (i+1)=qe3 L i+(ofL L i).length:=rfl
    have hof2:(ofL L i).length≤L.length:=List.length_filter_le _ _
    have cf:=fun v H hk=>qAp (ofL L i) i (h.length+2) v H hk (by omega) (fun e he=>of_decide_eq_true (List.mem_filter.1 he).2)
    obtain ⟨W,hW⟩: ∃W,W=ofL L i:=⟨_,rfl⟩
    obtain ⟨S,eS⟩: ∃S,S=qe3 L i:=⟨_,rfl⟩
    have c45:=c45 i
    rw [←hW]at hof2 hS
    rw [←eS]at hS i3
    simp only [←hW]at cf c45
    have zW: ∀g,valL g .len [jm W]= .int .i64 W.length:=fun _=>rfl
    have zX: ∀g,okL g .len [jm W]=True:=fun _=>eq_true trivial
    rw [←eS]
    simp (disch:=omega) only [List.replicate,q0,apC,i2',go_sem]
    repeat' first
     |((first|refine cA (c45 _) ?_ ?_|refine cG (fun e=>c45 _) ?_ ?_|refine cU (fun _=>c45 _) ?_ ?_);(next=>exact flk);simp (disch:=omega) only [q0,apC,i2',go_sem])
     |((first|apply qd|apply qb);exact rvk;simp only [go_sem];first|exact VLe.refl _|apply qe|apply qa|apply qf|skip)
     |with_reducible first|apply And.intro|intro _
    all_goals try exact clz
    refine cA (cf _ _ ?a3) (by exact flk) ?_
    case a3=>simp only [go_sem]
    simp (disch:=omega) only [zW,zX,go_sem]
    repeat' first
     |((first|apply qd|apply qb);exact rvk;simp only [go_sem];first|exact VLe.refl _|apply qe|apply qa|apply qf|skip)
     |with_reducible first|apply And.intro|intro _
    all_goals try exact clz
    refine hK _ _ (i+1,.mem (qu (some O)+1) 3 [.int .i64 i]) ⟨hi,rfl,by simp only [hS];omega⟩ (by simp only;omega) ?_
    simp only [hS,apC]
    refine Wk.temps ?_
    (simp only [List.replicate,go_sem,qk,qi,qg,qj];try (repeat' first|(with_reducible apply And.intro)|(apply qe;omega)|(apply qa;rfl)|exact VLe.refl _))
   ·have q0:((i:Int)<a.lay.length)=False:=eq_false (by omega)
    obtain rfl:i=a.lay.length:=by omega
    rw [hsum]
    have zn: ∀g,valL g .len [jm []]= .int .i64 0:=fun _=>rfl
    have zo: ∀g,okL g .len [jm []]=True:=fun _=>eq_true trivial
    simp (disch:=omega) only [List.replicate,q0,apC,zl,zm,zs,zk,zn,zo,go_sem]
    repeat' first
     |((first|refine cA (fin _) ?_ ?_|refine cG (fun e=>fin _) ?_ ?_|refine cA (c24 _) ?_ ?_|refine cG (fun e=>c24 _) ?_ ?_|refine cU (fun _=>fin _) ?_ ?_|refine cU (fun _=>c24 _) ?_ ?_);(next=>exact flk);simp (disch:=omega) only [q0,apC,zl,zm,zs,zk,zn,zo,go_sem])
     |((first|apply qd|apply qb);exact rvk;simp only [go_sem];first|exact VLe.refl _|apply qe|apply qa|apply qf|skip)
     |with_reducible first|apply And.intro|intro _
    all_goals try exact clz
end RC
end
