import Derived.Test.YthlgfjbghnildaaGreatDoorK6
import Derived.Test.YthlgfjbghnildaaGreatDoorK1
import Derived.Test.YthlgfjbghnildaaGreatDoorK3
import Derived.Test.YthlgfjbghnildaaGreatDoorProg
set_option linter.all false
set_option linter.unusedSimpArgs false
set_option linter.unusedVariables false
set_option linter.unusedSectionVars false
set_option maxRecDepth 100000
section
open Go Go.Proofs AF HY
namespace HY
theorem qzZ (c:UInt8) (h:List AObj):qm Tryz.prog 178 [.int .u8 (c.toNat:Int)] h (.bool (spc c)) h:=by
 refine qz qu9 (by simp) ?_
 simp only [List.length_cons,List.length_nil,Nat.reduceAdd,Nat.reduceSub,List.replicate,List.cons_append,List.nil_append,List.append_nil]
 simp (disch:=omega) only [qt2,go_sem,qk,dvP,mdP]
 repeat' first
  |((first|refine qq (jI c _) ?_ ?_);(next=>exact flk);simp (disch:=omega) only [go_sem,qk,dvP,mdP])
  |((first|refine qM (fun _=>jI c _) ?_ ?_);(next=>exact flk);simp (disch:=omega) only [go_sem,qk,dvP,mdP])
  |((first|refine qr (fun e=>⟨?_,jI c _⟩) ?_);(next=>exact flk);simp (disch:=omega) only [go_sem,qk,dvP,mdP])
  |((first|apply qc|apply qb);exact rvk;simp only [go_sem];(first|exact VLe.refl _|apply qd|apply qa|apply qe|skip))
  |with_reducible first|refine And.intro ?_ ?_|intro _
 all_goals try exact clz
def ju (s:List UInt8):AV:= .sl s.length fun i=> [.int .u8 ((s.getD i 0).toNat:Int)]
def qby (p:UInt8→Bool):List UInt8→Nat→Int
 | [],_=> -1
 |c::r,i=>if p c=true then i else qby p r (i+1)
theorem qj2 (p:UInt8→Bool): ∀(s:List UInt8) (i:Nat),(0≤qby p s i↔s.any p=true)∧ -1≤qby p s i:=by
 intro s
 induction s with
 |nil=>intro i;simp [qby]
 |cons c r ih=>
  intro i
  by_cases hc:p c=true
  ·have e:qby p (c::r) i=i:=if_pos hc
   rw [e,List.any_cons,hc]
   simp
   try omega
  ·have e:qby p (c::r) i=qby p r (i+1):=if_neg hc
   rw [e,List.any_cons]
   have hc':p c=false:=by simpa using hc
   rw [hc',Bool.false_or]
   exact ih (i+1)
theorem qj1 (p:UInt8→Bool) (s:List UInt8) (i:Nat):decide (0≤qby p s i)=s.any p:=by
 rw [Bool.eq_iff_iff,decide_eq_true_eq];exact (qj2 p s i).1
theorem qz1 (s:List UInt8) (p:UInt8→Bool) (F:Nat) (h:List AObj) (hs:s.length≤1000000000) (hp: ∀(c:UInt8) (h:List AObj),qm Tryz.prog F [.int .u8 (c.toNat:Int)] h (.bool (p c)) h):qm Tryz.prog 184 [ju s,.fn (.func F) [] []] h (.int .i64 (qby p s 0)) h:=by
 refine qz qvb (by simp) ?_
 simp only [List.length_cons,List.length_nil,Nat.reduceAdd,Nat.reduceSub,List.replicate,List.cons_append,List.nil_append,List.append_nil]
 simp (disch:=omega) only [qt4,ju,go_sem,qk,dvP,mdP]
 repeat' first
  |((first|apply qc|apply qb);exact rvk;simp only [go_sem];(first|exact VLe.refl _|apply qd|apply qa|apply qe|skip))
  |with_reducible first|refine And.intro ?_ ?_|intro _
 all_goals try exact clz
 refine qn (T:=fun i:Nat=>qI 19 [(0,ju s),(1,.fn (.func F) [] []),(6,ju s),(7,.int .i64 s.length),(8,.int .i64 i)]) (H:=fun _=>h) (inv:=fun i=>i≤s.length∧qby p s 0=qby p (s.drop i) i) (m:=fun i=>s.length-i) 0 ⟨by omega,by simp⟩ (Wk.temps ?_) ?_
 ·(simp only [ju,qI,List.foldl,List.replicate,go_sem,qj,qh,qg,qi];try (repeat' first|(with_reducible refine And.intro ?_ ?_)|(apply qd;omega)|(apply qa;rfl)|exact VLe.refl _))
 ·rintro i ⟨i1,i2⟩ K hK
  rw [i2]
  by_cases hi:i<s.length
  ·have e:s.drop i=s.getD i 0::s.drop (i+1):=by rw [List.drop_eq_getElem_cons hi];simp [gdqA,hi]
   rw [e]at i2 ⊢
   simp only [qby]at i2 ⊢
   have hpc:=fun h=>hp (s.getD i 0) h
   cases hb:p (s.getD i 0)with
   |true=>
    rw [hb]at hpc
    simp (disch:=omega) only [qI,List.foldl,List.replicate,ju,go_sem,qk,dvP,mdP]
    repeat' first
     |(refine jr (hpc _) ?_;simp (disch:=omega) only [ju,go_sem,qk,dvP,mdP])
     |((first|apply qc|apply qb);exact rvk;simp only [go_sem];(first|exact VLe.refl _|apply qd|apply qa|apply qe|skip))
     |with_reducible first|refine And.intro ?_ ?_|intro _
    all_goals try exact clz
   |false=>
    rw [hb]at hpc i2
    simp (disch:=omega) only [qI,List.foldl,List.replicate,ju,go_sem,qk,dvP,mdP]
    repeat' first
     |(refine jr (hpc _) ?_;simp (disch:=omega) only [ju,go_sem,qk,dvP,mdP])
     |((first|apply qc|apply qb);exact rvk;simp only [go_sem];(first|exact VLe.refl _|apply qd|apply qa|apply qe|skip))
     |with_reducible first|refine And.intro ?_ ?_|intro _
    all_goals try exact clz
    refine hK _ _ (i+1) ⟨by omega,by rw [i2];simp⟩ (by omega) (Wk.temps ?_)
    (simp only [ju,qI,List.foldl,List.replicate,go_sem,qj,qh,qg,qi];try (repeat' first|(with_reducible refine And.intro ?_ ?_)|(apply qd;omega)|(apply qa;rfl)|exact VLe.refl _))
  ·have e:i=s.length:=by omega
   subst e
   rw [List.drop_length]
   simp (disch:=omega) only [qI,List.foldl,List.replicate,ju,go_sem,qk,dvP,mdP]
   repeat' first
    |((first|apply qc|apply qb);exact rvk;simp only [go_sem];(first|exact VLe.refl _|apply qd|apply qa|apply qe|skip))
    |with_reducible first|refine And.intro ?_ ?_|intro _
   all_goals try exact clz
theorem qzY (s:List UInt8) (p:UInt8→Bool) (F:Nat) (h:List AObj) (hs:s.length≤1000000000) (hp: ∀(c:UInt8) (h:List AObj),qm Tryz.prog F [.int .u8 (c.toNat:Int)] h (.bool (p c)) h):qm Tryz.prog 177 [ju s,.fn (.func F) [] []] h (.bool (s.any p)) h:=by
 rw [←qj1 p s 0]
 refine qz qu8 (by simp) ?_
 simp only [List.length_cons,List.length_nil,Nat.reduceAdd,Nat.reduceSub,List.replicate,List.cons_append,List.nil_append,List.append_nil]
 simp (disch:=omega) only [qt1,ju,go_sem,qk,dvP,mdP]
 repeat' first
  |((first|refine qq (qz1 s p F _ hs hp) ?_ ?_);(next=>exact flk);simp (disch:=omega) only [ju,go_sem,qk,dvP,mdP])
  |((first|refine qr (fun e=>⟨?_,qz1 s p F _ hs hp⟩) ?_);(next=>exact flk);simp (disch:=omega) only [ju,go_sem,qk,dvP,mdP])
  |((first|apply qc|apply qb);exact rvk;simp only [go_sem];(first|exact VLe.refl _|apply qd|apply qa|apply qe|skip))
  |with_reducible first|refine And.intro ?_ ?_|intro _
 all_goals try exact clz
theorem t88 (s:List UInt8) (h:List AObj) (hs:s.length≤1000000000):qm Tryz.prog 167 [.str s] h (.bool (qac s)) h:=by
 obtain ⟨c,hc⟩: ∃c,c=qaa s:=⟨_,rfl⟩
 have h104: ∀h:List AObj,qm Tryz.prog 176 [.str s] h (.int .i64 c) h:=fun h=>by rw [hc];exact qA5 s h hs
 have hw:qac s=(decide (0<s.length)&&decide (s.length≤64)&&decide (c=0)&&(decide (zF (ch s 0)=1)||decide (zF (ch s 0)=3))&& !(s.any spc)):=by rw [hc];rfl
 rw [hw]
 by_cases g1:0<s.length
 ·have k1:(s= [])=False:=eq_false (by intro e;rw [e]at g1;simp at g1)
  by_cases g2:s.length≤64
  ·have k2:(64<(s.length:Int))=False:=eq_false (by omega)
   by_cases g3:c=0
   ·refine qz qf8 (by simp) ?_
    simp only [List.length_cons,List.length_nil,Nat.reduceAdd,Nat.reduceSub,List.replicate,List.cons_append,List.nil_append,List.append_nil]
    simp (disch:=omega) only [qjo,k1,k2,g3,go_sem,qk,dvP,mdP]
    repeat' first
     |((first|refine qq (h104 _) ?_ ?_|refine qq (jI _ _) ?_ ?_|refine qq (qzY s spc 178 _ hs qzZ) ?_ ?_);(next=>exact flk);simp (disch:=omega) only [k1,k2,g3,q9,go_sem,qk,dvP,mdP])
     |((first|refine qM (fun _=>h104 _) ?_ ?_|refine qM (fun _=>jI _ _) ?_ ?_);(next=>exact flk);simp (disch:=omega) only [k1,k2,g3,q9,go_sem,qk,dvP,mdP])
     |((first|refine qr (fun e=>⟨?_,h104 _⟩) ?_|refine qr (fun e=>⟨?_,jI _ _⟩) ?_|refine qr (fun e=>⟨?_,qzY s spc 178 _ hs qzZ⟩) ?_);(next=>exact flk);simp (disch:=omega) only [k1,k2,g3,q9,go_sem,qk,dvP,mdP])
     |((first|apply qc|apply qb);exact rvk;simp only [go_sem];(first|exact VLe.refl _|apply qd|apply qa|apply qe|skip))
     |with_reducible first|refine And.intro ?_ ?_|intro _
    all_goals try exact clz
    all_goals (generalize s.any spc=b;grind)
   ·refine qz qf8 (by simp) ?_
    simp only [List.length_cons,List.length_nil,Nat.reduceAdd,Nat.reduceSub,List.replicate,List.cons_append,List.nil_append,List.append_nil]
    simp (disch:=omega) only [qjo,k1,k2,go_sem,qk,dvP,mdP]
    repeat' first
     |((first|refine qq (h104 _) ?_ ?_|refine qq (jI _ _) ?_ ?_);(next=>exact flk);simp (disch:=omega) only [k1,k2,g3,q9,go_sem,qk,dvP,mdP])
     |((first|refine qM (fun _=>h104 _) ?_ ?_|refine qM (fun _=>jI _ _) ?_ ?_);(next=>exact flk);simp (disch:=omega) only [k1,k2,g3,q9,go_sem,qk,dvP,mdP])
     |((first|refine qr (fun e=>⟨?_,h104 _⟩) ?_|refine qr (fun e=>⟨?_,jI _ _⟩) ?_);(next=>exact flk);simp (disch:=omega) only [k1,k2,g3,q9,go_sem,qk,dvP,mdP])
     |((first|apply qc|apply qb);exact rvk;simp only [go_sem];(first|exact VLe.refl _|apply qd|apply qa|apply qe|skip))
     |with_reducible first|refine And.intro ?_ ?_|intro _
    all_goals try exact clz
    all_goals (generalize s.any spc=b;grind)
  ·have k2:(64<(s.length:Int))=True:=eq_true (by omega)
   refine qz qf8 (by simp) ?_
   simp only [List.length_cons,List.length_nil,Nat.reduceAdd,Nat.reduceSub,List.replicate,List.cons_append,List.nil_append,List.append_nil]
   simp (disch:=omega) only [qjo,k1,k2,go_sem,qk,dvP,mdP]
   repeat' first
    |(refine qo ((.int .i64 0)) ?_;simp (disch:=omega) only [k1,k2,go_sem,qk,dvP,mdP])
    |((first|apply qc|apply qb);exact rvk;simp only [go_sem];(first|exact VLe.refl _|apply qd|apply qa|apply qe|skip))
    |with_reducible first|refine And.intro ?_ ?_|intro _
   all_goals try exact clz
   all_goals (generalize s.any spc=b;grind)
 ·have e:s= []:=List.eq_nil_of_length_eq_zero (by omega)
  subst e
  refine qz qf8 (by simp) ?_
  simp only [List.length_cons,List.length_nil,Nat.reduceAdd,Nat.reduceSub,List.replicate,List.cons_append,List.nil_append,List.append_nil]
  simp (disch:=omega) only [qjo,go_sem,qk,dvP,mdP]
  repeat' first
   |(refine qo ((.int .i64 0)) ?_;simp (disch:=omega) only [go_sem,qk,dvP,mdP])
   |((first|apply qc|apply qb);exact rvk;simp only [go_sem];(first|exact VLe.refl _|apply qd|apply qa|apply qe|skip))
   |with_reducible first|refine And.intro ?_ ?_|intro _
  all_goals try exact clz
  all_goals (generalize List.any _ spc=b;grind)
end HY
end
section
open Go Go.Proofs AF
def qt:List Nat:= [93,74,79,120,147,148,161,170,63,105,131,64,31,32,57,58,29,30]
def c9s:C:=
 ((C.ops [O1 2 (.box 0 26) 0,MC 4 (.bool false)]).seq (((C.ops [O1 19 (.load (some 4)) 2,O1 20 (.call 25 true) 19,O1 21 (.un UnOp.not) 20]).seq (C.cond (.t 21) ((C.ops [ON 22
 (.call 11 true) [],MV 4 22]).seq C.ret) C.skip)).seq ((C.ops [MV 23 1,O1 24 (.conv .i64) 23,BC 25 .rem 24 (i6 16),⟨some 5,none,.alloc 1 3 [i6 0],[]⟩,ST 1 5 25]).seq ((C.ops
 [O1 27 (.fldA 0) 2,LD 28 27,O1 29 (.fldA 1) 2,LD 30 29,O1 31 (.fldA 3) 2,LD 32 31,ON 33 (.call 34 true) [.t 28,.t 30,.t 32,.c (i6 15)],MV 26 33,O1 34 (.ext 0) 26,O1 35
 (.ext 1) 26,MV 6 34,MV 7 35]).seq ((C.ops [O1 37 (.fldA 0) 2,LD 38 37,O1 39 (.fldA 1) 2,LD 40 39,O1 41 (.fldA 3) 2,LD 42 41,LD 43 5,ON 44 (.call 34 true) [.t 38,.t 40,.t
 42,.t 43],MV 36 44,O1 45 (.ext 0) 36,O1 46 (.ext 1) 36,MV 8 45,MV 9 46]).seq ((C.ops [O1 48 (.fldA 0) 2,LD 49 48,O1 50 (.fldA 1) 2,LD 51 50,O1 52 (.fldA 3) 2,LD 53 52,
 ON 54 (.call 34 true) [.t 49,.t 51,.t 53,.c (i6 (-1))],MV 47 54,O1 55 (.ext 0) 47,O1 56 (.ext 1) 47,MV 10 55,MV 11 56]).seq (((C.ops [MV 57 7,MV 58 9,MV 59 11,ON 60 (.mm
 true) [.t 57,.t 58,.t 59],BC 61 .neq 60 (i6 0),MV 62 61,MG 63 62 false 10,P1 64 62 false .len 63,PC 65 62 false (.bin .neq) 64 (i6 0),PT 66 62 65,MV 67 66,MG 68 67 false
 6,P1 69 67 false (.fldA 3) 2,P1 70 67 false (.load none) 69,P2 71 67 false (.call 36 true) 68 70,P1 72 67 false (.un UnOp.not) 71,PT 73 67 72,MV 74 73,MG 75 74 false 8,P1
 76 74 false (.mkfn (Fn.func 38) 0) 5,P2 77 74 false (.call 37 true) 75 76,PT 78 74 77]).seq (C.cond (.t 78) ((C.ops [MC 4 (.bool false)]).seq C.ret) C.skip)).seq ((C.ops [MC 12
 (i6 0)]).seq (((C.ops [O1 79 (.fldA 3) 2,LD 80 79,O1 81 .len 80,MC 82 (i6 0)]).seq (C.block 0 ((C.ops [BI 83 .lss 82 81]).seq ((C.cond (.t 83) C.skip (C.exit 0)).seq ((C.block 1
 ((C.ops [O2 84 (.idxA 6) 80 82,O1 85 (.load (some 6)) 84,⟨some 14,none,.alloc 2 49 [i6 0,i6 0,i6 0,.bool false,.nl,.nl],[]⟩,ST 6 14 85]).seq ((C.ops [O1 86 (.fldA 0) 14,
 LD 87 86,LD 88 5,BI 89 .leq 87 88]).seq (C.cond (.t 89) (C.ops [MV 90 12,BC 91 .add 90 (i6 1),MV 12 91]) C.skip)))).seq (C.ops [BC 92 .add 82 (i6 1),MV 82 92])))).loop)).seq
 (((C.ops [MV 93 8,O1 94 .len 93,MV 95 12,BI 96 .neq 94 95]).seq (C.cond (.t 96) ((C.ops [MC 4 (.bool false)]).seq C.ret) C.skip)).seq ((C.ops [O1 98 (.fldA 0) 2,LD 99 98,O1
 100 (.fldA 1) 2,LD 101 100,O1 102 (.fldA 2) 2,LD 103 102,MV 104 8,ON 105 (.call 14 true) [.t 99,.t 101,.t 103,.t 104],MV 97 105,O1 106 (.ext 0) 97,O1 107 (.ext 1) 97,MV
 15 106,MV 16 107]).seq (((C.ops [MV 108 16,BC 109 .neq 108 (i6 0),MV 110 109,MG 111 110 false 15,P1 112 110 false .len 111,P1 113 110 false (.fldA 0) 2,P1 114 110 false
 (.load none) 113,P1 115 110 false .len 114,P2 116 110 false (.bin .neq) 112 115,PT 117 110 116]).seq (C.cond (.t 117) ((C.ops [MC 4 (.bool false)]).seq C.ret) C.skip)).seq
 (((C.ops [O1 118 (.fldA 0) 2,LD 119 118,O1 120 .len 119,MC 121 (i6 0)]).seq (C.block 2 ((C.ops [BI 122 .lss 121 120]).seq ((C.cond (.t 122) C.skip (C.exit 2)).seq ((C.block 3
 ((C.ops [MV 123 121,⟨some 17,none,.alloc 3 3 [i6 0],[]⟩,ST 1 17 123]).seq ((C.ops [MV 124 8,O2 125 (.mkfn (Fn.func 39) 0) 2 17,O2 126 (.call 37 true) 124 125,MV 18
 126]).seq ((C.ops [MV 127 18,O1 128 (.un UnOp.not) 127,MV 129 128,MG 130 129 true 15,P1 131 129 true (.load none) 17,P2 132 129 true (.idxA 1) 130 131,P1 133 129 true (.load
 none) 132,P1 134 129 true (.fldA 2) 2,P1 135 129 true (.load none) 134,P2 136 129 true (.call 22 true) 133 135,P1 137 129 true (.un UnOp.not) 136,PF 138 129 137]).seq (C.cond
 (.t 138) ((C.ops [MC 4 (.bool false)]).seq C.ret) C.skip))))).seq (C.ops [BC 139 .add 121 (i6 1),MV 121 139])))).loop)).seq ((C.ops [ON 140 (.call 11 true) [],MV 4 140]).seq
 C.ret))))))))))))))
theorem qzR:qJ Tryz.prog 9 141 4 [RV.tmp 4] c9s:=fi Tryz.f9 [2,5,14,17] qt [] (by kernel_rfl) (by kernel_rfl) (by kernel_rfl) (by kernel_rfl)
def qzj:C:=
 ((C.ops [O1 1 (.box 0 26) 0,MC 2 (.bool false)]).seq ((C.ops [O1 3 (.fldA 0) 1,LD 4 3,O1 5 (.fldA 1) 1,LD 6 5,O1 7 (.fldA 2) 1,LD 8 7,O1 9 (.fldA 3) 1,LD 10 9,ON 11 (.call
 41 true) [.t 4,.t 6,.t 8,.t 10],MV 2 11]).seq
 C.ret))
theorem qx1:qJ Tryz.prog 10 12 1 [RV.tmp 2] qzj:=fi Tryz.f10 [1] qt [] (by kernel_rfl) (by kernel_rfl) (by kernel_rfl) (by kernel_rfl)
def qzk:C:=
 ((C.ops [MC 0 (.bool false)]).seq ((C.ops [ON 13 (.call 42 true) [],MV 12 13,O1 14 (.ext 0) 12,O1 15 (.ext 1) 12,O1 16 (.ext 2) 12,MV 1 14,MV 2 15,MV 3 16]).seq ((C.ops [MV
 18 1,MV 19 2,MV 20 3,ON 21 (.call 14 true) [.t 18,.c .nl,.t 19,.t 20],MV 17 21,O1 22 (.ext 0) 17,O1 23 (.ext 1) 17,MV 4 22,MV 5 23]).seq ((C.ops [MV 25 1,MV 26 2,MV 27
 3,ON 28 (.call 12 true) [.t 25,.c .nl,.t 26,.t 27,.c (i6 2)],MV 24 28,O1 29 (.ext 0) 24,O1 30 (.ext 1) 24,MV 6 29,MV 7 30]).seq ((C.ops [MV 32 1,MV 33 2,MV 34 3,ON 35
 (.call 18 true) [.t 32,.c .nl,.t 33,.t 34],MV 31 35,O1 36 (.ext 0) 31,O1 37 (.ext 1) 31,MV 8 36,MV 9 37]).seq ((C.ops [MV 39 1,MV 40 2,MV 41 3,ON 42 (.call 16 true) [.t
 39,.c .nl,.t 40,.t 41,.c (i6 1)],MV 38 42,O1 43 (.ext 0) 38,O1 44 (.ext 1) 38,MV 10 43,MV 11 44]).seq ((C.ops [MV 45 5,MV 46 7,MV 47 9,MV 48 11,ON 49 (.mm true) [.t
 45,.t 46,.t 47,.t 48],BC 50 .eql 49 (i6 0),MV 51 50,MG 52 51 true 4,⟨some 53,some (51,true),.bslc 0 1 2 9 [.str []] [(0,1),(1,1)],[.c (.str [100,101,117,115]),.c
 (.str [101,115,116])]⟩,⟨some 54,some (51,true),.bslc 1 1 3 9 [.str []] [(0,1),(1,1),(2,1)],[.c (.str [100,111,109,105,110,117,115]),.c (.str [101,115,116]),.c
 (.str [118,101,114,101])]⟩,⟨some 55,some (51,true),.bslc 2 1 3 9 [.str []] [(0,1),(1,1),(2,1)],[.c (.str [100,101,117,115]),.c (.str [101,115,116]),.c (.str
 [118,101,114,101])]⟩,⟨some 56,some (51,true),.bslc 3 1 3 22 [.nl] [(0,1),(1,1),(2,1)],[.t 53,.t 54,.t 55]⟩,P2 57 51 true (.call 23 true) 52 56,PF 58 51 57,MV 59
 58,MG 60 59 true 6,⟨some 61,some (59,true),.bslc 4 1 3 9 [.str []] [(0,1),(1,1),(2,1)],[.c (.str [100,101,117,115]),.c (.str [101,115,116]),.c (.str [118,101,
 114,101])]⟩,P2 62 59 true (.call 22 true) 60 61,PF 63 59 62,MV 64 63,MG 65 64 true 8,⟨some 66,some (64,true),.bslc 5 1 1 3 [i6 0] [(0,1)],[.c (i6 0)]⟩,P2 67 64 true
 (.call 24 true) 65 66,PF 68 64 67,MV 69 68,MG 70 69 true 10,PC 71 69 true (.bin .eql) 70 (i6 2),PF 72 69 71,MV 0 72]).seq
 C.ret)))))))
theorem qx2:qJ Tryz.prog 11 73 6 [RV.tmp 0] qzk:=fi Tryz.f11 [53,54,55,56,61,66] qt [] (by kernel_rfl) (by kernel_rfl) (by kernel_rfl) (by kernel_rfl)
def qtO:C:=
 ((C.ops [ON 10 (.nilo 0 1 9) [],MC 11 (i6 0)]).seq ((C.ops [MV 15 0,MV 16 1,MV 17 2,MV 18 3,ON 19 (.call 43 true) [.t 15,.t 16,.t 17,.t 18],MV 14 19,O1 20 (.ext 0) 14,O1
 21 (.ext 1) 14,⟨some 12,none,.alloc 1 71 [.nl,.nl,.nl,.nl,.nl],[]⟩,ST 5 12 20,MV 13 21]).seq (((C.ops [MV 22 13,BC 23 .neq 22 (i6 0)]).seq (C.cond (.t 23) ((C.ops [MV 24
 13,ON 10 (.nilo 0 1 9) [],MV 11 24]).seq C.ret) C.skip)).seq (((C.ops [MV 25 4,BC 26 .lss 25 (i6 0),MV 27 26,MG 28 27 false 4,MG 29 27 false 0,P1 30 27 false .len 29,P2 31
 27 false (.bin .geq) 28 30,PT 32 27 31]).seq (C.cond (.t 32) ((C.ops [ON 10 (.nilo 0 1 9) [],MC 11 (i6 2)]).seq C.ret) C.skip)).seq ((C.ops [O1 33 (.load (some 5)) 12,MV 34 4,
 O2 35 (.call 44 true) 33 34,MV 10 35,MC 11 (i6 0)]).seq
 C.ret)))))
theorem qnI:qJ Tryz.prog 12 36 2 [RV.tmp 10,RV.tmp 11] qtO:=fi Tryz.f12 [10,12] qt [] (by kernel_rfl) (by kernel_rfl) (by kernel_rfl) (by kernel_rfl)
def qxr:C:=
 ((C.ops [ON 8 (.nilo 0 1 22) [],MC 9 (i6 0)]).seq ((C.ops [MV 15 0,MV 16 1,MV 17 2,MV 18 3,ON 19 (.call 43 true) [.t 15,.t 16,.t 17,.t 18],MV 14 19,O1 20 (.ext 0) 14,O1
 21 (.ext 1) 14,⟨some 10,none,.alloc 1 71 [.nl,.nl,.nl,.nl,.nl],[]⟩,ST 5 10 20,MV 11 21]).seq (((C.ops [MV 22 11,BC 23 .neq 22 (i6 0)]).seq (C.cond (.t 23) ((C.ops [MV 24
 11,ON 8 (.nilo 0 1 22) [],MV 9 24]).seq C.ret) C.skip)).seq ((C.ops [ON 12 (.nilo 2 1 22) []]).seq (((C.ops [MV 25 0,O1 26 .len 25,MC 27 (i6 0)]).seq (C.block 0 ((C.ops [BI 28
 .lss 27 26]).seq ((C.cond (.t 28) C.skip (C.exit 0)).seq ((C.block 1 ((C.ops [MV 29 27,MV 13 29]).seq (C.ops [MV 30 12,O1 31 (.load (some 5)) 10,MV 32 13,O2 33 (.call 44 true)
 31 32,⟨some 34,none,.bslc 3 1 1 22 [.nl] [(0,1)],[.t 33]⟩,O2 35 (.app 4 1 22 24) 30 34,MV 12 35]))).seq (C.ops [BC 36 .add 27 (i6 1),MV 27 36])))).loop)).seq ((C.ops [MV 37
 12,MV 8 37,MC 9 (i6 0)]).seq
 C.ret))))))
theorem quY:qJ Tryz.prog 14 38 5 [RV.tmp 8,RV.tmp 9] qxr:=fi Tryz.f14 [8,10,12,34,35] qt [] (by kernel_rfl) (by kernel_rfl) (by kernel_rfl) (by kernel_rfl)
def qtX:C:=
 ((C.ops [MC 10 (i6 0),MC 11 (i6 0)]).seq ((C.ops [MV 15 0,MV 16 1,MV 17 2,MV 18 3,ON 19 (.call 43 true) [.t 15,.t 16,.t 17,.t 18],MV 14 19,O1 20 (.ext 0) 14,O1 21 (.ext
 1) 14,⟨some 12,none,.alloc 0 71 [.nl,.nl,.nl,.nl,.nl],[]⟩,ST 5 12 20,MV 13 21]).seq (((C.ops [MV 22 13,BC 23 .neq 22 (i6 0)]).seq (C.cond (.t 23) ((C.ops [MV 24 13,MC
 10 (i6 0),MV 11 24]).seq C.ret) C.skip)).seq (((C.ops [MV 25 4,BC 26 .lss 25 (i6 0),MV 27 26,MG 28 27 false 4,MG 29 27 false 0,P1 30 27 false .len 29,P2 31 27 false (.bin
 .geq) 28 30,PT 32 27 31]).seq (C.cond (.t 32) ((C.ops [MC 10 (i6 0),MC 11 (i6 2)]).seq C.ret) C.skip)).seq ((C.ops [O1 33 (.load (some 5)) 12,MV 34 4,O2 35 (.call 46 true) 33
 34,MV 10 35,MC 11 (i6 0)]).seq
 C.ret)))))
theorem qnJ:qJ Tryz.prog 16 36 1 [RV.tmp 10,RV.tmp 11] qtX:=fi Tryz.f16 [12] qt [] (by kernel_rfl) (by kernel_rfl) (by kernel_rfl) (by kernel_rfl)
def qxs:C:=
 ((C.ops [ON 8 (.nilo 0 1 3) [],MC 9 (i6 0)]).seq ((C.ops [MV 15 0,MV 16 1,MV 17 2,MV 18 3,ON 19 (.call 43 true) [.t 15,.t 16,.t 17,.t 18],MV 14 19,O1 20 (.ext 0) 14,O1
 21 (.ext 1) 14,⟨some 10,none,.alloc 1 71 [.nl,.nl,.nl,.nl,.nl],[]⟩,ST 5 10 20,MV 11 21]).seq (((C.ops [MV 22 11,BC 23 .neq 22 (i6 0)]).seq (C.cond (.t 23) ((C.ops [MV 24
 11,ON 8 (.nilo 0 1 3) [],MV 9 24]).seq C.ret) C.skip)).seq ((C.ops [ON 12 (.nilo 2 1 3) []]).seq (((C.ops [MV 25 0,O1 26 .len 25,MC 27 (i6 0)]).seq (C.block 0 ((C.ops [BI 28
 .lss 27 26]).seq ((C.cond (.t 28) C.skip (C.exit 0)).seq ((C.block 1 ((C.ops [MV 29 27,MV 13 29]).seq ((C.ops [O1 30 (.load (some 5)) 10,MV 31 13,O2 32 (.call 46 true) 30 31,BC
 33 .eql 32 (i6 0)]).seq (C.cond (.t 33) (C.ops [MV 34 12,MV 35 13,⟨some 36,none,.bslc 3 1 1 3 [i6 0] [(0,1)],[.t 35]⟩,O2 37 (.app 4 1 3 8) 34 36,MV 12 37]) C.skip)))).seq
 (C.ops [BC 38 .add 27 (i6 1),MV 27 38])))).loop)).seq ((C.ops [MV 39 12,MV 8 39,MC 9 (i6 0)]).seq
 C.ret))))))
theorem qvd:qJ Tryz.prog 18 40 5 [RV.tmp 8,RV.tmp 9] qxs:=fi Tryz.f18 [8,10,12,36,37] qt [] (by kernel_rfl) (by kernel_rfl) (by kernel_rfl) (by kernel_rfl)
theorem qvg:qJ Tryz.prog 22 26 0 [RV.tmp 4] cEQ:=fi Tryz.f22 [] qt [] (by kernel_rfl) (by kernel_rfl) (by kernel_rfl) (by kernel_rfl)
def qzl:C:=
 ((C.ops [MC 4 (.bool false)]).seq (((C.ops [MV 6 0,O1 7 .len 6,MV 8 1,O1 9 .len 8,BI 10 .neq 7 9]).seq (C.cond (.t 10) ((C.ops [MC 4 (.bool false)]).seq C.ret) C.skip)).seq
 (((C.ops [MC 5 (i6 0)]).seq (C.block 0 (((C.ops [MV 11 5,MV 12 0,O1 13 .len 12,BI 14 .lss 11 13]).seq (C.cond (.t 14) C.skip (C.exit 0))).seq ((C.block 1 ((C.ops [MV 17 0,MV 18
 5,O2 19 (.idxA 1) 17 18,LD 20 19,MV 21 1,MV 22 5,O2 23 (.idxA 1) 21 22,LD 24 23,O2 25 (.call 51 true) 20 24,O1 26 (.un UnOp.not) 25]).seq (C.cond (.t 26) ((C.ops [MC 4
 (.bool false)]).seq C.ret) C.skip))).seq (C.ops [MV 15 5,BC 16 .add 15 (i6 1),MV 5 16]))).loop)).seq ((C.ops [MC 4 (.bool true)]).seq
 C.ret))))
theorem qx3:qJ Tryz.prog 23 27 0 [RV.tmp 4] qzl:=fi Tryz.f23 [] qt [] (by kernel_rfl) (by kernel_rfl) (by kernel_rfl) (by kernel_rfl)
theorem qx4:qJ Tryz.prog 24 26 0 [RV.tmp 4] cEQ:=fi Tryz.f24 [] qt [] (by kernel_rfl) (by kernel_rfl) (by kernel_rfl) (by kernel_rfl)
def qxu:C:=
 ((C.ops [O1 1 (.box 0 26) 0,MC 2 (.bool false)]).seq ((C.ops [O1 3 (.load (some 4)) 1,O1 4 (.call 10 true) 3,O1 5 (.un UnOp.not) 4,MV 6 5,P1 7 6 true (.fldA 0) 1,P1 8 6 true
 (.load none) 7,P1 9 6 true (.fldA 1) 1,P1 10 6 true (.load none) 9,P1 11 6 true (.fldA 2) 1,P1 12 6 true (.load none) 11,P1 13 6 true (.fldA 3) 1,P1 14 6 true (.load none)
 13,PN 15 6 true (.call 21 true) [.t 8,.t 10,.t 12,.t 14],PC 16 6 true (.bin .eql) 15 (i6 0),PF 17 6 16,MV 2 17]).seq
 C.ret))
theorem qvh:qJ Tryz.prog 25 18 1 [RV.tmp 2] qxu:=fi Tryz.f25 [1] qt [] (by kernel_rfl) (by kernel_rfl) (by kernel_rfl) (by kernel_rfl)
theorem qx5:qJ Tryz.prog 27 9 0 [RV.tmp 4] (cCT 53):=fi Tryz.f27 [] qt [] (by kernel_rfl) (by kernel_rfl) (by kernel_rfl) (by kernel_rfl)
def qxv:C:=
 ((C.ops [ON 6 (.nilo 0 1 3) [],MC 7 (i6 0)]).seq (((C.ops [MV 14 0,MV 15 1,O2 16 (.call 49 true) 14 15,BC 17 .neq 16 (i6 0)]).seq (C.cond (.t 17) ((C.ops [ON 6 (.nilo 0 1 3)
 [],MC 7 (i6 1)]).seq C.ret) C.skip)).seq ((C.ops [⟨some 18,none,.bslc 1 1 0 3 [i6 0] [],[]⟩,MV 8 18]).seq (((C.ops [MC 9 (i6 0)]).seq (C.block 0 (((C.ops [MV 19 9,MV 20 2,O1
 21 .len 20,BI 22 .lss 19 21]).seq (C.cond (.t 22) C.skip (C.exit 0))).seq ((C.block 1 ((C.ops [MV 25 0,MV 26 2,MV 27 9,O2 28 (.idxA 1) 26 27,LD 29 28,O2 30 (.call 54 true) 25
 29,MV 31 1,O1 32 (.call 55 true) 31,MV 33 2,MV 34 9,O2 35 (.idxA 1) 33 34,LD 36 35,O2 37 (.call 54 true) 32 36,MV 10 30,MV 11 37]).seq (((C.ops [MV 38 10,BC 39 .lss 38
 (i6 0),MV 40 39,MG 41 40 true 11,PC 42 40 true (.bin .lss) 41 (i6 0),PF 43 40 42]).seq (C.cond (.t 43) ((C.ops [ON 6 (.nilo 0 1 3) [],MC 7 (i6 6)]).seq C.ret) C.skip)).seq
 (((C.ops [MV 44 2,MV 45 9,O2 46 (.slc 1 false true) 44 45,MV 47 2,MV 48 9,O2 49 (.idxA 1) 47 48,LD 50 49,O2 51 (.call 54 true) 46 50,BC 52 .geq 51 (i6 0)]).seq (C.cond (.t
 52) ((C.ops [ON 6 (.nilo 0 1 3) [],MC 7 (i6 7)]).seq C.ret) C.skip)).seq ((C.ops [MV 53 10,BC 54 .geq 53 (i6 0)]).seq (C.cond (.t 54) (C.ops [MV 55 8,MV 56 10,⟨some 57,none,
 .bslc 2 1 1 3 [i6 0] [(0,1)],[.t 56]⟩,O2 58 (.app 3 1 3 8) 55 57,MV 8 58]) (C.ops [MV 59 8,MV 60 1,MV 61 11,O2 62 (.idxA 2) 60 61,O1 63 (.fldA 1) 62,LD 64 63,O2 65 (.app
 4 1 3 8) 59 64,MV 8 65]))))))).seq (C.ops [MV 23 9,BC 24 .add 23 (i6 1),MV 9 24]))).loop)).seq ((C.ops [⟨some 66,none,.bslc 5 1 0 3 [i6 0] [],[]⟩,MV 12 66]).seq (((C.ops [MC
 13 (i6 0)]).seq (C.block 2 (((C.ops [MV 67 13,MV 68 0,O1 69 .len 68,BI 70 .lss 67 69]).seq (C.cond (.t 70) C.skip (C.exit 2))).seq ((C.block 3 ((C.ops [MV 73 8,MV 74 13,O2 75
 (.call 56 true) 73 74]).seq (C.cond (.t 75) (C.ops [MV 76 12,MV 77 13,⟨some 78,none,.bslc 6 1 1 3 [i6 0] [(0,1)],[.t 77]⟩,O2 79 (.app 7 1 3 8) 76 78,MV 12 79])
 C.skip))).seq (C.ops [MV 71 13,BC 72 .add 71 (i6 1),MV 13 72]))).loop)).seq ((C.ops [MV 80 12,MV 6 80,MC 7 (i6 0)]).seq
 C.ret)))))))
theorem qvi:qJ Tryz.prog 28 81 8 [RV.tmp 6,RV.tmp 7] qxv:=fi Tryz.f28 [6,18,57,58,65,66,78,79] qt [] (by kernel_rfl) (by kernel_rfl) (by kernel_rfl) (by kernel_rfl)
def qzm:C:=
 ((C.ops [MC 4 (.bool false)]).seq (((C.ops [MV 6 0,O1 7 .len 6,MV 8 1,O1 9 .len 8,BI 10 .neq 7 9]).seq (C.cond (.t 10) ((C.ops [MC 4 (.bool false)]).seq C.ret) C.skip)).seq
 (((C.ops [MC 5 (i6 0)]).seq (C.block 0 (((C.ops [MV 11 5,MV 12 0,O1 13 .len 12,BI 14 .lss 11 13]).seq (C.cond (.t 14) C.skip (C.exit 0))).seq ((C.block 1 ((C.ops [MV 17 0,MV 18
 5,O2 19 (.idxA 6) 17 18,O1 20 (.load (some 6)) 19,MV 21 1,MV 22 5,O2 23 (.idxA 6) 21 22,O1 24 (.load (some 6)) 23,O2 25 (.call 68 true) 20 24,O1 26 (.un UnOp.not) 25]).seq
 (C.cond (.t 26) ((C.ops [MC 4 (.bool false)]).seq C.ret) C.skip))).seq (C.ops [MV 15 5,BC 16 .add 15 (i6 1),MV 5 16]))).loop)).seq ((C.ops [MC 4 (.bool true)]).seq
 C.ret))))
theorem qx6:qJ Tryz.prog 36 27 0 [RV.tmp 4] qzm:=fi Tryz.f36 [] qt [] (by kernel_rfl) (by kernel_rfl) (by kernel_rfl) (by kernel_rfl)
theorem qvl:qJ Tryz.prog 37 9 0 [RV.tmp 4] (cCT 69):=fi Tryz.f37 [] qt [] (by kernel_rfl) (by kernel_rfl) (by kernel_rfl) (by kernel_rfl)
def qxy:C:=
 ((C.ops [O1 2 (.box 0 49) 0,MC 3 (.bool false)]).seq ((C.ops [O1 4 (.fldA 0) 2,LD 5 4,LD 6 1,BI 7 .gtr 5 6,MV 3 7]).seq
 C.ret))
theorem qvm:qJ Tryz.prog 38 8 1 [RV.tmp 3] qxy:=fi Tryz.f38 [2] qt [] (by kernel_rfl) (by kernel_rfl) (by kernel_rfl) (by kernel_rfl)
def qzn:C:=
 ((C.ops [O1 3 (.box 0 49) 0,MC 4 (.bool false)]).seq ((C.ops [O1 8 (.fldA 0) 1,LD 9 8,O1 10 (.fldA 1) 1,LD 11 10,O1 12 (.load (some 6)) 3,ON 13 (.call 40 true) [.t 9,.t 11,
 .t 12],MV 7 13,O1 14 (.ext 0) 7,O1 15 (.ext 1) 7,MV 5 14,MV 6 15]).seq ((C.ops [MV 16 5,LD 17 2,O2 18 (.call 27 true) 16 17,MV 4 18]).seq
 C.ret)))
theorem qx7:qJ Tryz.prog 39 19 1 [RV.tmp 4] qzn:=fi Tryz.f39 [3] qt [] (by kernel_rfl) (by kernel_rfl) (by kernel_rfl) (by kernel_rfl)
def qxz:C:=
 ((C.ops [O1 5 (.box 0 49) 2,ON 6 (.nilo 1 1 3) [],MC 7 (i6 0)]).seq (((C.ops [MV 15 0,MV 16 1,O2 17 (.call 49 true) 15 16,BC 18 .neq 17 (i6 0)]).seq (C.cond (.t 18) ((C.ops
 [ON 6 (.nilo 1 1 3) [],MC 7 (i6 1)]).seq C.ret) C.skip)).seq ((C.ops [⟨some 19,none,.bslc 2 1 0 3 [i6 0] [],[]⟩,MV 8 19]).seq ((C.ops [MC 9 (.bool false)]).seq (((C.ops [MC 10
 (i6 0)]).seq (C.block 0 (((C.ops [MV 20 10,O1 21 (.fldA 5) 5,LD 22 21,O1 23 .len 22,BI 24 .lss 20 23]).seq (C.cond (.t 24) C.skip (C.exit 0))).seq ((C.block 1 ((C.ops [MV 28 0,
 MV 29 1,O1 30 (.fldA 5) 5,LD 31 30,MV 32 10,O2 33 (.idxA 2) 31 32,O1 34 (.fldA 1) 33,LD 35 34,ON 36 (.call 28 true) [.t 28,.t 29,.t 35],MV 27 36,O1 37 (.ext 0) 27,O1 38
 (.ext 1) 27,MV 11 37,MV 12 38]).seq (((C.ops [MV 39 12,BC 40 .neq 39 (i6 0)]).seq (C.cond (.t 40) ((C.ops [MV 41 12,ON 6 (.nilo 1 1 3) [],MV 7 41]).seq C.ret) C.skip)).seq
 ((C.ops [MV 43 8,MV 44 11,O2 45 (.call 70 true) 43 44,MV 42 45,O1 46 (.ext 0) 42,O1 47 (.ext 1) 42,MV 13 46,MV 14 47]).seq ((C.ops [MV 48 9,MV 49 48,MG 50 49 false 13,P1
 51 49 false .len 50,PC 52 49 false (.bin .gtr) 51 (i6 0),PT 53 49 52,MV 9 53]).seq (C.ops [MV 55 8,MV 56 11,O2 57 (.call 71 true) 55 56,MV 54 57,O1 58 (.ext 0) 54,O1 59
 (.ext 1) 54,MV 8 58])))))).seq (C.ops [MV 25 10,BC 26 .add 25 (i6 1),MV 10 26]))).loop)).seq (((C.ops [MV 60 9]).seq (C.cond (.t 60) ((C.ops [ON 6 (.nilo 1 1 3) [],MC 7 (i6
 17)]).seq C.ret) C.skip)).seq ((C.ops [MV 61 8,MV 6 61,MC 7 (i6 0)]).seq
 C.ret)))))))
theorem qvn:qJ Tryz.prog 40 62 3 [RV.tmp 6,RV.tmp 7] qxz:=fi Tryz.f40 [5,6,19] qt [] (by kernel_rfl) (by kernel_rfl) (by kernel_rfl) (by kernel_rfl)
def qzo:C:=
 ((C.ops [MC 8 (.bool false)]).seq (((C.ops [MC 9 (i6 0)]).seq (C.block 0 (((C.ops [MV 10 9,MV 11 2,O1 12 .len 11,BI 13 .lss 10 12]).seq (C.cond (.t 13) C.skip (C.exit 0))).seq
 ((C.block 1 ((C.ops [MV 16 2,MV 17 9,O2 18 (.idxA 1) 16 17,LD 19 18,O1 20 .slen 19,BC 21 .gtr 20 (i6 70)]).seq (C.cond (.t 21) ((C.ops [MC 8 (.bool true)]).seq C.ret)
 C.skip))).seq (C.ops [MV 14 9,BC 15 .add 14 (i6 1),MV 9 15]))).loop)).seq ((C.ops [MV 22 0,MV 23 1,O2 24 (.call 72 true) 22 23,MV 25 24,MG 26 25 false 2,P1 27 25 false .len
 26,PC 28 25 false (.bin .gtr) 27 (i6 24),PT 29 25 28,MV 30 29,MG 31 30 false 3,P1 32 30 false (.call 73 true) 31,PT 33 30 32,MV 8 33]).seq
 C.ret)))
theorem qx8:qJ Tryz.prog 41 34 0 [RV.tmp 8] qzo:=fi Tryz.f41 [] qt [] (by kernel_rfl) (by kernel_rfl) (by kernel_rfl) (by kernel_rfl)
def qzp:C:=
 ((C.ops [ON 0 (.nilo 0 1 9) [],ON 1 (.nilo 1 1 9) [],ON 2 (.nilo 2 6 49) []]).seq ((C.ops [⟨some 3,none,.bslc 3 1 3 9 [.str []] [(0,1),(1,1),(2,1)],[.c (.str [65]),.c
 (.str [66]),.c (.str [67])]⟩,⟨some 4,none,.bslc 4 1 2 9 [.str []] [(0,1),(1,1)],[.c (.str [100,101,117,115]),.c (.str [101,115,116])]⟩,⟨some 5,none,.bslc 5 1 1 9
 [.str []] [(0,1)],[.c (.str [100,111,109,105,110,117,115])]⟩,⟨some 6,none,.bslc 6 1 1 9 [.str []] [(0,1)],[.c (.str [66])]⟩,⟨some 7,none,.build [.nl,.nl] [(0,1),
 (1,1)],[.t 5,.t 6]⟩,⟨some 8,none,.bslc 7 2 1 51 [.nl,.nl] [(0,2)],[.t 7]⟩,⟨some 9,none,.build [i6 0,i6 0,i6 0,.bool false,.nl,.nl] [(1,1),(2,1),(5,1)],[.c
 (i6 0),.c (i6 1),.t 8]⟩,⟨some 10,none,.bslc 8 1 1 9 [.str []] [(0,1)],[.c (.str [118,101,114,101])]⟩,⟨some 11,none,.bslc 9 1 2 9 [.str []] [(0,1),(1,1)],[.c (.str
 [66]),.c (.str [67])]⟩,⟨some 12,none,.build [.nl,.nl] [(0,1),(1,1)],[.t 10,.t 11]⟩,⟨some 13,none,.bslc 10 2 1 51 [.nl,.nl] [(0,2)],[.t 12]⟩,⟨some 14,none,.build
 [i6 0,i6 0,i6 0,.bool false,.nl,.nl] [(1,1),(2,1),(5,1)],[.c (i6 2),.c (i6 2),.t 13]⟩,⟨some 15,none,.bslc 11 6 2 49 [i6 0,i6 0,i6 0,.bool false,.nl,.nl] [(0,
 6),(6,6)],[.t 9,.t 14]⟩,MV 0 3,MV 1 4,MV 2 15]).seq
 C.ret))
theorem qx9:qJ Tryz.prog 42 16 12 [RV.tmp 0,RV.tmp 1,RV.tmp 2] qzp:=fi Tryz.f42 [0,1,2,3,4,5,6,8,10,11,13,15] qt [] (by kernel_rfl) (by kernel_rfl) (by kernel_rfl) (by kernel_rfl)
def qxA:C:=
 ((C.ops [⟨some 8,none,.alloc 0 71 [.nl,.nl,.nl,.nl,.nl],[]⟩,MC 9 (i6 0)]).seq ((C.ops [MV 13 0,MV 14 1,MV 15 2,MV 16 3,ON 17 (.call 48 true) [.t 13,.t 14,.t 15,.t
 16],MV 12 17,O1 18 (.ext 0) 12,O1 19 (.ext 1) 12,⟨some 10,none,.alloc 1 71 [.nl,.nl,.nl,.nl,.nl],[]⟩,ST 5 10 18,MV 11 19]).seq (((C.ops [MV 20 11,BC 21 .neq 20 (i6
 0)]).seq (C.cond (.t 21) ((C.ops [O1 22 (.load (some 5)) 10,ST 5 8 22,MC 9 (i6 1)]).seq C.ret) C.skip)).seq ((C.ops [O1 23 (.load (some 5)) 10,ST 5 8 23,MC 9 (i6 0)]).seq
 C.ret))))
theorem qvo:qJ Tryz.prog 43 24 2 [RV.cell 8 (some 5),RV.tmp 9] qxA:=fi Tryz.f43 [8,10] qt [] (by kernel_rfl) (by kernel_rfl) (by kernel_rfl) (by kernel_rfl)
def qzr:C:=
 ((C.ops [O1 2 (.box 0 71) 0,MC 4 (i6 0)]).seq ((C.ops [⟨some 5,none,.alloc 1 3 [i6 0],[]⟩,⟨none,none,.store 1,[.t 5,.c (i6 0)]⟩]).seq (((C.ops [O1 6 (.load (some 5)) 2,MV
 7 1,O2 8 (.call 75 true) 6 7]).seq (C.block 0 (C.range (.t 8) [9,10] C.skip (C.block 1 (C.ops [LD 11 5,BC 12 .add 11 (i6 1),ST 1 5 12]))))).seq ((C.ops [LD 13 5,MV 4 13]).seq
 C.ret))))
theorem qyb:qJ Tryz.prog 46 14 2 [RV.tmp 4] qzr:=fi Tryz.f46 [2,5] qt [] (by kernel_rfl) (by kernel_rfl) (by kernel_rfl) (by kernel_rfl)
def qzs:C:=
 ((C.ops [ON 8 (.nilo 0 1 3) []]).seq ((C.ops [⟨some 12,none,.bslc 1 1 0 3 [i6 0] [],[]⟩,MV 9 12]).seq (((C.ops [MC 10 (i6 0)]).seq (C.block 0 (((C.ops [MV 13 10,MV 14 2,O1 15
 .len 14,BI 16 .lss 13 15]).seq (C.cond (.t 16) C.skip (C.exit 0))).seq ((C.block 1 (((C.ops [MV 19 0,MV 20 1,MV 21 2,MV 22 10,O2 23 (.idxA 6) 21 22,O1 24 (.load (some 6)) 23,
 MV 25 3,ON 26 (.call 76 true) [.t 19,.t 20,.t 24,.t 25],BC 27 .lss 26 (i6 0)]).seq (C.cond (.t 27) (C.exit 1) C.skip)).seq ((C.ops [MV 28 9,O1 29 .len 28,MV 11 29]).seq
 ((C.ops [MV 30 9,MV 31 10,⟨some 32,none,.bslc 2 1 1 3 [i6 0] [(0,1)],[.t 31]⟩,O2 33 (.app 3 1 3 8) 30 32,MV 9 33]).seq ((C.block 2 (((C.ops [MV 34 11,BC 35 .gtr 34 (i6 0),
 MV 36 35,MG 37 36 true 2,MG 38 36 true 10,P2 39 36 true (.idxA 6) 37 38,P1 40 36 true (.load (some 6)) 39,MG 41 36 true 2,MG 42 36 true 9,MG 43 36 true 11,PC 44 36 true
 (.bin .sub) 43 (i6 1),P2 45 36 true (.idxA 1) 42 44,P1 46 36 true (.load none) 45,P2 47 36 true (.idxA 6) 41 46,P1 48 36 true (.load (some 6)) 47,P2 49 36 true (.call 77 true)
 40 48,PF 50 36 49]).seq (C.cond (.t 50) C.skip (C.exit 2))).seq (C.block 3 ((C.ops [MV 51 9,MV 52 11,MV 53 9,MV 54 11,BC 55 .sub 54 (i6 1),O2 56 (.idxA 1) 53 55,LD 57 56,O2
 58 (.idxA 1) 51 52,ST 1 58 57]).seq (C.ops [MV 59 11,BC 60 .sub 59 (i6 1),MV 11 60])))).loop).seq (C.ops [MV 61 9,MV 62 11,MV 63 10,O2 64 (.idxA 1) 61 62,ST 1 64
 63])))))).seq (C.ops [MV 17 10,BC 18 .add 17 (i6 1),MV 10 18]))).loop)).seq ((C.ops [MV 65 9,MV 8 65]).seq
 C.ret))))
theorem qyc:qJ Tryz.prog 47 66 4 [RV.tmp 8] qzs:=fi Tryz.f47 [8,12,32,33] qt [] (by kernel_rfl) (by kernel_rfl) (by kernel_rfl) (by kernel_rfl)
def qxC:C:=
 ((C.ops [MC 4 (i6 0)]).seq (((C.ops [MV 8 0,O1 9 .len 8,BC 10 .gtr 9 (i6 32)]).seq (C.cond (.t 10) ((C.ops [MC 4 (i6 4)]).seq C.ret) C.skip)).seq (((C.ops [MC 5 (i6 0)]).seq
 (C.block 0 (((C.ops [MV 11 5,MV 12 0,O1 13 .len 12,BI 14 .lss 11 13]).seq (C.cond (.t 14) C.skip (C.exit 0))).seq ((C.block 1 (((C.ops [MV 17 0,MV 18 5,O2 19 (.idxA 1) 17 18,
 LD 20 19,O1 21 (.call 81 true) 20,O1 22 (.un UnOp.not) 21]).seq (C.cond (.t 22) ((C.ops [MC 4 (i6 14)]).seq C.ret) C.skip)).seq ((C.ops [MV 23 0,MV 24 5,O2 25 (.slc 1 false
 true) 23 24,MV 26 0,MV 27 5,O2 28 (.idxA 1) 26 27,LD 29 28,O2 30 (.call 54 true) 25 29,BC 31 .geq 30 (i6 0)]).seq (C.cond (.t 31) ((C.ops [MC 4 (i6 7)]).seq C.ret)
 C.skip)))).seq (C.ops [MV 15 5,BC 16 .add 15 (i6 1),MV 5 16]))).loop)).seq (((C.ops [MV 32 1,O1 33 .len 32,BC 34 .gtr 33 (i6 16)]).seq (C.cond (.t 34) ((C.ops [MC 4 (i6
 4)]).seq C.ret) C.skip)).seq (((C.ops [MC 6 (i6 0)]).seq (C.block 2 (((C.ops [MV 35 6,MV 36 1,O1 37 .len 36,BI 38 .lss 35 37]).seq (C.cond (.t 38) C.skip (C.exit 2))).seq
 ((C.block 3 (((C.ops [MV 41 1,MV 42 6,O2 43 (.idxA 2) 41 42,O1 44 (.fldA 0) 43,LD 45 44,O1 46 (.call 82 true) 45,O1 47 (.un UnOp.not) 46]).seq (C.cond (.t 47) ((C.ops [MC 4
 (i6 14)]).seq C.ret) C.skip)).seq (((C.ops [MV 48 0,MV 49 1,MV 50 6,O2 51 (.idxA 2) 49 50,O1 52 (.fldA 0) 51,LD 53 52,O2 54 (.call 54 true) 48 53,BC 55 .geq 54 (i6 0),MV 56
 55,MG 57 56 false 1,MG 58 56 false 6,P2 59 56 false (.slc 2 false true) 57 58,P1 60 56 false (.call 55 true) 59,MG 61 56 false 1,MG 62 56 false 6,P2 63 56 false (.idxA 2) 61
 62,P1 64 56 false (.fldA 0) 63,P1 65 56 false (.load none) 64,P2 66 56 false (.call 54 true) 60 65,PC 67 56 false (.bin .geq) 66 (i6 0),PT 68 56 67]).seq (C.cond (.t 68)
 ((C.ops [MC 4 (i6 7)]).seq C.ret) C.skip)).seq (((C.ops [MV 69 1,MV 70 6,O2 71 (.idxA 2) 69 70,O1 72 (.fldA 1) 71,LD 73 72,O1 74 .len 73,BC 75 .eql 74 (i6 0)]).seq (C.cond
 (.t 75) ((C.ops [MC 4 (i6 5)]).seq C.ret) C.skip)).seq ((C.ops [MV 76 0,O1 77 .len 76,MV 78 1,MV 79 6,O2 80 (.idxA 2) 78 79,O1 81 (.fldA 1) 80,LD 82 81,O2 83 (.call 83 true)
 77 82,MV 7 83]).seq ((C.ops [MV 84 7,BC 85 .neq 84 (i6 0)]).seq (C.cond (.t 85) ((C.ops [MV 86 7,MV 4 86]).seq C.ret) C.skip))))))).seq (C.ops [MV 39 6,BC 40 .add 39 (i6 1),MV
 6 40]))).loop)).seq ((C.ops [MC 4 (i6 0)]).seq
 C.ret))))))
theorem qvq:qJ Tryz.prog 49 87 0 [RV.tmp 4] qxC:=fi Tryz.f49 [] qt [] (by kernel_rfl) (by kernel_rfl) (by kernel_rfl) (by kernel_rfl)
def qxc:C:=
 ((C.ops [O1 7 (.box 0 49) 3,MC 8 (i6 0)]).seq (((C.ops [MV 22 0,MV 23 1,O2 24 (.call 49 true) 22 23,BC 25 .neq 24 (i6 0)]).seq (C.cond (.t 25) ((C.ops [MC 8 (i6 1)]).seq C.ret)
 C.skip)).seq (((C.ops [MV 26 2,O1 27 .len 26,BC 28 .gtr 27 (i6 4096)]).seq (C.cond (.t 28) ((C.ops [MC 8 (i6 4)]).seq C.ret) C.skip)).seq (((C.ops [MC 9 (i6 0)]).seq (C.block 0
 (((C.ops [MV 29 9,MV 30 2,O1 31 .len 30,BI 32 .lss 29 31]).seq (C.cond (.t 32) C.skip (C.exit 0))).seq ((C.block 1 ((C.ops [MV 35 2,MV 36 9,O2 37 (.idxA 1) 35 36,LD 38 37,O1
 39 (.call 84 true) 38,O1 40 (.un UnOp.not) 39]).seq (C.cond (.t 40) ((C.ops [MC 8 (i6 11)]).seq C.ret) C.skip))).seq (C.ops [MV 33 9,BC 34 .add 33 (i6 1),MV 9 34]))).loop)).seq
 (((C.ops [O1 41 (.fldA 0) 7,LD 42 41,BC 43 .lss 42 (i6 0),MV 44 43,P1 45 44 false (.fldA 0) 7,P1 46 44 false (.load none) 45,PC 47 44 false (.bin .gtr) 46 (i6 15),PT 48 44
 47,MV 49 48,P1 50 49 false (.fldA 1) 7,P1 51 49 false (.load none) 50,PC 52 49 false (.bin .lss) 51 (i6 0),PT 53 49 52,MV 54 53,P1 55 54 false (.fldA 1) 7,P1 56 54 false
 (.load none) 55,P1 57 54 false (.fldA 2) 7,P1 58 54 false (.load none) 57,P2 59 54 false (.bin .gtr) 56 58,PT 60 54 59,MV 61 60,P1 62 61 false (.fldA 2) 7,P1 63 61 false
 (.load none) 62,MG 64 61 false 2,P1 65 61 false .len 64,P2 66 61 false (.bin .gtr) 63 65,PT 67 61 66]).seq (C.cond (.t 67) ((C.ops [MC 8 (i6 2)]).seq C.ret) C.skip)).seq
 (((C.ops [O1 68 (.fldA 4) 7,LD 69 68,O1 70 .len 69,BC 71 .gtr 70 (i6 0),MV 72 71,P1 73 72 true (.fldA 3) 7,P1 74 72 true (.load none) 73,P1 75 72 true (.un UnOp.not) 74,PF
 76 72 75]).seq (C.cond (.t 76) ((C.ops [MC 8 (i6 1)]).seq C.ret) C.skip)).seq (((C.ops [O1 77 (.fldA 5) 7,LD 78 77,O1 79 .len 78,BC 80 .eql 79 (i6 0)]).seq (C.cond (.t 80)
 ((C.ops [MC 8 (i6 5)]).seq C.ret) C.skip)).seq (((C.ops [MC 10 (i6 0)]).seq (C.block 2 (((C.ops [MV 81 10,O1 82 (.fldA 5) 7,LD 83 82,O1 84 .len 83,BI 85 .lss 81 84]).seq
 (C.cond (.t 85) C.skip (C.exit 2))).seq ((C.block 3 ((C.ops [O1 88 (.fldA 5) 7,LD 89 88,MV 90 10,O2 91 (.idxA 2) 89 90,O1 92 (.load (some 2)) 91,⟨some 11,none,.alloc 1 51
 [.nl,.nl],[]⟩,ST 2 11 92]).seq (((C.ops [MC 12 (i6 0)]).seq (C.block 4 (((C.ops [MV 93 12,O1 94 (.fldA 0) 11,LD 95 94,O1 96 .len 95,BI 97 .lss 93 96]).seq (C.cond (.t 97)
 C.skip (C.exit 4))).seq ((C.block 5 ((C.ops [O1 100 (.fldA 0) 11,LD 101 100,MV 102 12,O2 103 (.idxA 1) 101 102,LD 104 103,O1 105 (.call 84 true) 104,O1 106 (.un UnOp.not)
 105]).seq (C.cond (.t 106) ((C.ops [MC 8 (i6 11)]).seq C.ret) C.skip))).seq (C.ops [MV 98 12,BC 99 .add 98 (i6 1),MV 12 99]))).loop)).seq (((C.ops [O1 107 (.fldA 0) 11,LD 108
 107,MV 109 2,O1 110 (.fldA 1) 7,LD 111 110,O1 112 (.fldA 2) 7,LD 113 112,ON 114 (.slc 1 true true) [.t 109,.t 111,.t 113],O2 115 (.call 85 true) 108 114]).seq (C.cond (.t
 115) ((C.ops [MC 8 (i6 9)]).seq C.ret) C.skip)).seq (((C.ops [MC 13 (i6 0)]).seq (C.block 6 (((C.ops [MV 116 13,MV 117 10,BI 118 .lss 116 117]).seq (C.cond (.t 118) C.skip
 (C.exit 6))).seq ((C.block 7 ((C.ops [O1 121 (.fldA 0) 11,LD 122 121,O1 123 (.fldA 5) 7,LD 124 123,MV 125 13,O2 126 (.idxA 2) 124 125,O1 127 (.fldA 0) 126,LD 128 127,O2 129
 (.call 85 true) 122 128]).seq (C.cond (.t 129) ((C.ops [MC 8 (i6 7)]).seq C.ret) C.skip))).seq (C.ops [MV 119 13,BC 120 .add 119 (i6 1),MV 13 120]))).loop)).seq ((C.ops [O1 130
 (.fldA 1) 11,LD 131 130,O1 132 .len 131,BC 133 .eql 132 (i6 0)]).seq (C.cond (.t 133) ((C.ops [MC 8 (i6 5)]).seq C.ret) C.skip))))))).seq (C.ops [MV 86 10,BC 87 .add 86 (i6 1),
 MV 10 87]))).loop)).seq ((C.ops [MV 135 0,MV 136 1,O1 137 (.fldA 4) 7,LD 138 137,ON 139 (.call 28 true) [.t 135,.t 136,.t 138],MV 134 139,O1 140 (.ext 0) 134,O1 141 (.ext
 1) 134,MV 14 140,MV 15 141]).seq (((C.ops [MV 142 15,BC 143 .neq 142 (i6 0)]).seq (C.cond (.t 143) ((C.ops [MV 144 15,MV 8 144]).seq C.ret) C.skip)).seq ((C.ops [MC 16 (.bool
 false)]).seq (((C.ops [MC 17 (i6 0)]).seq (C.block 8 (((C.ops [MV 145 17,O1 146 (.fldA 5) 7,LD 147 146,O1 148 .len 147,BI 149 .lss 145 148]).seq (C.cond (.t 149) C.skip (C.exit
 8))).seq ((C.block 9 ((C.ops [MV 153 0,MV 154 1,O1 155 (.fldA 5) 7,LD 156 155,MV 157 17,O2 158 (.idxA 2) 156 157,O1 159 (.fldA 1) 158,LD 160 159,ON 161 (.call 28 true) [.t
 153,.t 154,.t 160],MV 152 161,O1 162 (.ext 0) 152,O1 163 (.ext 1) 152,MV 18 162,MV 19 163]).seq (((C.ops [MV 164 19,BC 165 .neq 164 (i6 0)]).seq (C.cond (.t 165) ((C.ops
 [MV 166 19,MV 8 166]).seq C.ret) C.skip)).seq ((C.ops [MV 168 14,MV 169 18,O2 170 (.call 70 true) 168 169,MV 167 170,O1 171 (.ext 0) 167,O1 172 (.ext 1) 167,MV 20 171,MV 21
 172]).seq ((C.ops [MV 173 16,MV 174 173,MG 175 174 false 20,P1 176 174 false .len 175,PC 177 174 false (.bin .gtr) 176 (i6 0),PT 178 174 177,MV 16 178]).seq (C.ops [MV 180
 14,MV 181 18,O2 182 (.call 71 true) 180 181,MV 179 182,O1 183 (.ext 0) 179,O1 184 (.ext 1) 179,MV 14 183])))))).seq (C.ops [MV 150 17,BC 151 .add 150 (i6 1),MV 17
 151]))).loop)).seq (((C.ops [MV 185 16]).seq (C.cond (.t 185) ((C.ops [MC 8 (i6 17)]).seq C.ret) C.skip)).seq ((C.ops [MC 8 (i6 0)]).seq
 C.ret))))))))))))))
theorem qrs:qJ Tryz.prog 50 186 2 [RV.tmp 8] qxc:=fi Tryz.f50 [7,11] qt [] (by kernel_rfl) (by kernel_rfl) (by kernel_rfl) (by kernel_rfl)
def qzt:C:=
 ((C.ops [MC 4 (.bool false)]).seq (((C.ops [MV 6 0,O1 7 .len 6,MV 8 1,O1 9 .len 8,BI 10 .neq 7 9]).seq (C.cond (.t 10) ((C.ops [MC 4 (.bool false)]).seq C.ret) C.skip)).seq
 (((C.ops [MC 5 (i6 0)]).seq (C.block 0 (((C.ops [MV 11 5,MV 12 0,O1 13 .len 12,BI 14 .lss 11 13]).seq (C.cond (.t 14) C.skip (C.exit 0))).seq ((C.block 1 ((C.ops [MV 17 0,MV 18
 5,O2 19 (.idxA 1) 17 18,LD 20 19,MV 21 1,MV 22 5,O2 23 (.idxA 1) 21 22,LD 24 23,BI 25 .neq 20 24]).seq (C.cond (.t 25) ((C.ops [MC 4 (.bool false)]).seq C.ret) C.skip))).seq
 (C.ops [MV 15 5,BC 16 .add 15 (i6 1),MV 5 16]))).loop)).seq ((C.ops [MC 4 (.bool true)]).seq
 C.ret))))
theorem qyd:qJ Tryz.prog 51 26 0 [RV.tmp 4] qzt:=fi Tryz.f51 [] qt [] (by kernel_rfl) (by kernel_rfl) (by kernel_rfl) (by kernel_rfl)
theorem qye:qJ Tryz.prog 53 19 0 [RV.tmp 4] cIX:=fi Tryz.f53 [] qt [] (by kernel_rfl) (by kernel_rfl) (by kernel_rfl) (by kernel_rfl)
def qzu:C:=
 ((C.ops [MC 4 (i6 0)]).seq (((C.ops [MC 5 (i6 0)]).seq (C.block 0 (((C.ops [MV 6 5,MV 7 0,O1 8 .len 7,BI 9 .lss 6 8]).seq (C.cond (.t 9) C.skip (C.exit 0))).seq ((C.block 1
 ((C.ops [MV 12 0,MV 13 5,O2 14 (.idxA 1) 12 13,LD 15 14,MV 16 1,BI 17 .eql 15 16]).seq (C.cond (.t 17) ((C.ops [MV 18 5,MV 4 18]).seq C.ret) C.skip))).seq (C.ops [MV 10 5,BC
 11 .add 10 (i6 1),MV 5 11]))).loop)).seq ((C.ops [MC 4 (i6 (-1))]).seq
 C.ret)))
theorem qyf:qJ Tryz.prog 54 19 0 [RV.tmp 4] qzu:=fi Tryz.f54 [] qt [] (by kernel_rfl) (by kernel_rfl) (by kernel_rfl) (by kernel_rfl)
def qzv:C:=
 ((C.ops [ON 2 (.nilo 0 1 9) []]).seq ((C.ops [⟨some 5,none,.bslc 1 1 0 9 [.str []] [],[]⟩,MV 3 5]).seq (((C.ops [MC 4 (i6 0)]).seq (C.block 0 (((C.ops [MV 6 4,MV 7 0,O1 8
 .len 7,BI 9 .lss 6 8]).seq (C.cond (.t 9) C.skip (C.exit 0))).seq ((C.block 1 (C.ops [MV 12 3,MV 13 0,MV 14 4,O2 15 (.idxA 2) 13 14,O1 16 (.fldA 0) 15,LD 17 16,⟨some 18,
 none,.bslc 2 1 1 9 [.str []] [(0,1)],[.t 17]⟩,O2 19 (.app 3 1 9 16) 12 18,MV 3 19])).seq (C.ops [MV 10 4,BC 11 .add 10 (i6 1),MV 4 11]))).loop)).seq ((C.ops [MV 20 3,MV 2
 20]).seq
 C.ret))))
theorem qyg:qJ Tryz.prog 55 21 4 [RV.tmp 2] qzv:=fi Tryz.f55 [2,5,18,19] qt [] (by kernel_rfl) (by kernel_rfl) (by kernel_rfl) (by kernel_rfl)
def qzw:C:=
 ((C.ops [MC 4 (.bool false)]).seq (((C.ops [MC 5 (i6 0)]).seq (C.block 0 (((C.ops [MV 6 5,MV 7 0,O1 8 .len 7,BI 9 .lss 6 8]).seq (C.cond (.t 9) C.skip (C.exit 0))).seq ((C.block
 1 ((C.ops [MV 12 0,MV 13 5,O2 14 (.idxA 1) 12 13,LD 15 14,MV 16 1,BI 17 .eql 15 16]).seq (C.cond (.t 17) ((C.ops [MC 4 (.bool true)]).seq C.ret) C.skip))).seq (C.ops [MV 10 5,
 BC 11 .add 10 (i6 1),MV 5 11]))).loop)).seq ((C.ops [MC 4 (.bool false)]).seq
 C.ret)))
theorem qyh:qJ Tryz.prog 56 18 0 [RV.tmp 4] qzw:=fi Tryz.f56 [] qt [] (by kernel_rfl) (by kernel_rfl) (by kernel_rfl) (by kernel_rfl)
def qxD:C:=
 ((C.ops [MC 4 (i6 0)]).seq (((C.ops [MV 10 0,O1 11 .len 10,BC 12 .gtr 11 (i6 32)]).seq (C.cond (.t 12) ((C.ops [MC 4 (i6 4)]).seq C.ret) C.skip)).seq (((C.ops [MV 13 0,O1 14
 .len 13,MC 15 (i6 0)]).seq (C.block 0 ((C.ops [BI 16 .lss 15 14]).seq ((C.cond (.t 16) C.skip (C.exit 0)).seq ((C.block 1 ((C.ops [MV 17 15,O2 18 (.idxA 1) 13 15,LD 19 18,MV 5
 17,MV 6 19]).seq (((C.ops [MV 20 6,O1 21 (.call 87 true) 20,O1 22 (.un UnOp.not) 21]).seq (C.cond (.t 22) ((C.ops [MC 4 (i6 14)]).seq C.ret) C.skip)).seq ((C.ops [MV 23 0,MV 24
 5,O2 25 (.slc 1 false true) 23 24,MV 26 6,O2 27 (.call 88 true) 25 26]).seq (C.cond (.t 27) ((C.ops [MC 4 (i6 7)]).seq C.ret) C.skip))))).seq (C.ops [BC 28 .add 15 (i6 1),MV 15
 28])))).loop)).seq (((C.ops [MV 29 1,O1 30 .len 29,BC 31 .gtr 30 (i6 16)]).seq (C.cond (.t 31) ((C.ops [MC 4 (i6 4)]).seq C.ret) C.skip)).seq (((C.ops [MV 32 1,O1 33 .len 32,MC
 34 (i6 0)]).seq (C.block 2 ((C.ops [BI 35 .lss 34 33]).seq ((C.cond (.t 35) C.skip (C.exit 2)).seq ((C.block 3 ((C.ops [MV 36 34,O2 37 (.idxA 2) 32 34,O1 38 (.load (some 2)) 37,
 ⟨some 8,none,.alloc 0 85 [.str [],.nl],[]⟩,MV 7 36,ST 2 8 38]).seq ((C.block 4 ((C.ops [O1 40 (.fldA 0) 8,LD 41 40,O1 42 (.call 89 true) 41,O1 43 (.un UnOp.not) 42,MV 39
 43]).seq (C.cond (.t 39) ((C.ops [MC 4 (i6 14)]).seq C.ret) ((C.ops [MV 45 0,O1 46 (.fldA 0) 8,LD 47 46,O2 48 (.call 88 true) 45 47,MV 49 48,MG 50 49 false 1,MG 51 49 false
 7,P2 52 49 false (.slc 2 false true) 50 51,P1 53 49 false (.mkfn (Fn.func 91) 0) 8,P2 54 49 false (.call 90 true) 52 53,PT 55 49 54,MV 44 55]).seq (C.cond (.t 44) ((C.ops [MC
 4 (i6 7)]).seq C.ret) ((C.ops [O1 57 (.fldA 1) 8,LD 58 57,O1 59 .len 58,BC 60 .eql 59 (i6 0),MV 56 60]).seq (C.cond (.t 56) ((C.ops [MC 4 (i6 5)]).seq C.ret) C.skip))))))).seq
 ((C.ops [O1 61 (.fldA 1) 8,LD 62 61,MV 63 0,O1 64 .len 63,O2 65 (.call 92 true) 62 64,MV 9 65]).seq ((C.ops [MV 66 9,BC 67 .neq 66 (i6 0)]).seq (C.cond (.t 67) ((C.ops [MV 68
 9,MV 4 68]).seq C.ret) C.skip)))))).seq (C.ops [BC 69 .add 34 (i6 1),MV 34 69])))).loop)).seq ((C.ops [MC 4 (i6 0)]).seq
 C.ret))))))
theorem qvr:qJ Tryz.prog 59 70 1 [RV.tmp 4] qxD:=fi Tryz.f59 [8] qt [] (by kernel_rfl) (by kernel_rfl) (by kernel_rfl) (by kernel_rfl)
def qxG:C:=
 ((C.ops [ON 6 (.nilo 0 1 3) [],MC 7 (i6 0)]).seq (((C.ops [MV 13 0,MV 14 1,O2 15 (.call 59 true) 13 14,BC 16 .neq 15 (i6 0)]).seq (C.cond (.t 16) ((C.ops [ON 6 (.nilo 0 1 3)
 [],MC 7 (i6 1)]).seq C.ret) C.skip)).seq ((C.ops [MC 8 (.int .u64 0)]).seq (((C.ops [MV 17 2,O1 18 .len 17,MC 19 (i6 0)]).seq (C.block 0 ((C.ops [BI 20 .lss 19 18]).seq ((C.cond
 (.t 20) C.skip (C.exit 0)).seq ((C.block 1 ((C.ops [MV 21 19,O2 22 (.idxA 1) 17 19,LD 23 22,⟨some 10,none,.alloc 1 9 [.str []],[]⟩,MV 9 21,ST 1 10 23]).seq ((C.ops [MV 24
 0,LD 25 10,O2 26 (.call 102 true) 24 25,MV 11 26]).seq ((C.ops [MV 27 1,O1 28 (.mkfn (Fn.func 104) 0) 10,O2 29 (.call 103 true) 27 28,MV 12 29]).seq (C.block 2 ((C.ops [MV 39
 11,BC 40 .lss 39 (i6 0),MV 41 40,MG 42 41 true 12,PC 43 41 true (.bin .lss) 42 (i6 0),PF 44 41 43,MV 38 44]).seq (C.cond (.t 38) ((C.ops [ON 6 (.nilo 0 1 3) [],MC 7 (i6
 6)]).seq C.ret) ((C.ops [MV 46 2,MV 47 9,O2 48 (.slc 1 false true) 46 47,LD 49 10,O2 50 (.call 88 true) 48 49,MV 45 50]).seq (C.cond (.t 45) ((C.ops [ON 6 (.nilo 0 1 3) [],MC
 7 (i6 7)]).seq C.ret) ((C.ops [MV 52 11,BC 53 .geq 52 (i6 0),MV 51 53]).seq (C.cond (.t 51) (C.ops [MV 54 8,MV 55 11,ON 56 (.bin .shl) [.c (.int .u64 1),.t 55],BI 57 .or 54
 56,MV 8 57]) (C.ops [MV 30 8,MV 31 1,MV 32 12,O2 33 (.idxA 2) 31 32,O1 34 (.fldA 1) 33,LD 35 34,O1 36 (.call 96 true) 35,BI 37 .or 30 36,MV 8 37])))))))))))).seq (C.ops
 [BC 58 .add 19 (i6 1),MV 19 58])))).loop)).seq ((C.ops [MV 59 8,O1 60 (.call 100 true) 59,MV 6 60,MC 7 (i6 0)]).seq
 C.ret)))))
theorem qvu:qJ Tryz.prog 62 61 2 [RV.tmp 6,RV.tmp 7] qxG:=fi Tryz.f62 [6,10] qt [] (by kernel_rfl) (by kernel_rfl) (by kernel_rfl) (by kernel_rfl)
def qzx:C:=
 ((C.ops [O1 2 (.box 0 49) 0,O1 3 (.box 1 49) 1,MC 4 (.bool false)]).seq (((C.ops [O1 6 (.fldA 0) 2,LD 7 6,O1 8 (.fldA 0) 3,LD 9 8,BI 10 .neq 7 9,MV 11 10,P1 12 11 false
 (.fldA 1) 2,P1 13 11 false (.load none) 12,P1 14 11 false (.fldA 1) 3,P1 15 11 false (.load none) 14,P2 16 11 false (.bin .neq) 13 15,PT 17 11 16,MV 18 17,P1 19 18 false
 (.fldA 2) 2,P1 20 18 false (.load none) 19,P1 21 18 false (.fldA 2) 3,P1 22 18 false (.load none) 21,P2 23 18 false (.bin .neq) 20 22,PT 24 18 23,MV 25 24,P1 26 25 false
 (.fldA 3) 2,P1 27 25 false (.load none) 26,P1 28 25 false (.fldA 3) 3,P1 29 25 false (.load none) 28,P2 30 25 false (.bool true) 27 29,PT 31 25 30,MV 32 31,P1 33 32 false
 (.fldA 4) 2,P1 34 32 false (.load none) 33,P1 35 32 false (.fldA 4) 3,P1 36 32 false (.load none) 35,P2 37 32 false (.call 85 true) 34 36,P1 38 32 false (.un UnOp.not) 37,PT
 39 32 38,MV 40 39,P1 41 40 false (.fldA 5) 2,P1 42 40 false (.load none) 41,P1 43 40 false .len 42,P1 44 40 false (.fldA 5) 3,P1 45 40 false (.load none) 44,P1 46 40 false
 .len 45,P2 47 40 false (.bin .neq) 43 46,PT 48 40 47]).seq (C.cond (.t 48) ((C.ops [MC 4 (.bool false)]).seq C.ret) C.skip)).seq (((C.ops [MC 5 (i6 0)]).seq (C.block 0 (((C.ops
 [MV 49 5,O1 50 (.fldA 5) 2,LD 51 50,O1 52 .len 51,BI 53 .lss 49 52]).seq (C.cond (.t 53) C.skip (C.exit 0))).seq ((C.block 1 ((C.ops [O1 56 (.fldA 5) 2,LD 57 56,MV 58 5,O2
 59 (.idxA 2) 57 58,O1 60 (.fldA 0) 59,LD 61 60,O1 62 (.fldA 5) 3,LD 63 62,MV 64 5,O2 65 (.idxA 2) 63 64,O1 66 (.fldA 0) 65,LD 67 66,O2 68 (.call 85 true) 61 67,O1 69 (.un
 UnOp.not) 68,MV 70 69,P1 71 70 false (.fldA 5) 2,P1 72 70 false (.load none) 71,MG 73 70 false 5,P2 74 70 false (.idxA 2) 72 73,P1 75 70 false (.fldA 1) 74,P1 76 70 false
 (.load none) 75,P1 77 70 false (.fldA 5) 3,P1 78 70 false (.load none) 77,MG 79 70 false 5,P2 80 70 false (.idxA 2) 78 79,P1 81 70 false (.fldA 1) 80,P1 82 70 false (.load
 none) 81,P2 83 70 false (.call 85 true) 76 82,P1 84 70 false (.un UnOp.not) 83,PT 85 70 84]).seq (C.cond (.t 85) ((C.ops [MC 4 (.bool false)]).seq C.ret) C.skip))).seq (C.ops
 [MV 54 5,BC 55 .add 54 (i6 1),MV 5 55]))).loop)).seq ((C.ops [MC 4 (.bool true)]).seq
 C.ret))))
theorem qyi:qJ Tryz.prog 68 86 2 [RV.tmp 4] qzx:=fi Tryz.f68 [2,3] qt [] (by kernel_rfl) (by kernel_rfl) (by kernel_rfl) (by kernel_rfl)
theorem qvv:qJ Tryz.prog 69 19 0 [RV.tmp 4] (cIF 6 (some 6)):=fi Tryz.f69 [] qt [] (by kernel_rfl) (by kernel_rfl) (by kernel_rfl) (by kernel_rfl)
def qzy:C:=
 ((C.ops [ON 4 (.nilo 0 1 3) [],MC 5 (i6 0)]).seq (((C.ops [MV 8 0,MV 9 1,O2 10 (.call 110 true) 8 9]).seq (C.cond (.t 10) ((C.ops [ON 4 (.nilo 0 1 3) [],MC 5 (i6 1)]).seq
 C.ret) C.skip)).seq ((C.ops [⟨some 11,none,.bslc 1 1 0 3 [i6 0] [],[]⟩,MV 6 11]).seq (((C.ops [MC 7 (i6 0)]).seq (C.block 0 (((C.ops [MV 12 7,MV 13 0,O1 14 .len 13,BI 15
 .lss 12 14]).seq (C.cond (.t 15) C.skip (C.exit 0))).seq ((C.block 1 ((C.ops [MV 18 1,MV 19 0,MV 20 7,O2 21 (.idxA 1) 19 20,LD 22 21,O2 23 (.call 111 true) 18 22]).seq (C.cond
 (.t 23) (C.ops [MV 24 6,MV 25 0,MV 26 7,O2 27 (.idxA 1) 25 26,LD 28 27,⟨some 29,none,.bslc 2 1 1 3 [i6 0] [(0,1)],[.t 28]⟩,O2 30 (.app 3 1 3 8) 24 29,MV 6 30])
 C.skip))).seq (C.ops [MV 16 7,BC 17 .add 16 (i6 1),MV 7 17]))).loop)).seq ((C.ops [MV 31 6,MV 4 31,MC 5 (i6 0)]).seq
 C.ret)))))
theorem qyj:qJ Tryz.prog 70 32 4 [RV.tmp 4,RV.tmp 5] qzy:=fi Tryz.f70 [4,11,29,30] qt [] (by kernel_rfl) (by kernel_rfl) (by kernel_rfl) (by kernel_rfl)
def qzz:C:=
 ((C.ops [ON 4 (.nilo 0 1 3) [],MC 5 (i6 0)]).seq (((C.ops [MV 8 0,MV 9 1,O2 10 (.call 110 true) 8 9]).seq (C.cond (.t 10) ((C.ops [ON 4 (.nilo 0 1 3) [],MC 5 (i6 1)]).seq
 C.ret) C.skip)).seq ((C.ops [⟨some 11,none,.bslc 1 1 0 3 [i6 0] [],[]⟩,MV 6 11]).seq (((C.ops [MC 7 (i6 0)]).seq (C.block 0 (((C.ops [MV 12 7,BC 13 .lss 12 (i6 64)]).seq
 (C.cond (.t 13) C.skip (C.exit 0))).seq ((C.block 1 ((C.ops [MV 16 0,MV 17 7,O2 18 (.call 111 true) 16 17,MV 19 18,MG 20 19 false 1,MG 21 19 false 7,P2 22 19 false (.call 111
 true) 20 21,PT 23 19 22]).seq (C.cond (.t 23) (C.ops [MV 24 6,MV 25 7,⟨some 26,none,.bslc 2 1 1 3 [i6 0] [(0,1)],[.t 25]⟩,O2 27 (.app 3 1 3 8) 24 26,MV 6 27])
 C.skip))).seq (C.ops [MV 14 7,BC 15 .add 14 (i6 1),MV 7 15]))).loop)).seq ((C.ops [MV 28 6,MV 4 28,MC 5 (i6 0)]).seq
 C.ret)))))
theorem qyk:qJ Tryz.prog 71 29 4 [RV.tmp 4,RV.tmp 5] qzz:=fi Tryz.f71 [4,11,26,27] qt [] (by kernel_rfl) (by kernel_rfl) (by kernel_rfl) (by kernel_rfl)
def qzA:C:=
 ((C.ops [MC 4 (.bool false)]).seq (((C.ops [MC 5 (i6 0)]).seq (C.block 0 (((C.ops [MV 7 5,MV 8 0,O1 9 .len 8,BI 10 .lss 7 9]).seq (C.cond (.t 10) C.skip (C.exit 0))).seq
 ((C.block 1 ((C.ops [MV 13 0,MV 14 5,O2 15 (.idxA 1) 13 14,LD 16 15,O1 17 .slen 16,BC 18 .gtr 17 (i6 20)]).seq (C.cond (.t 18) ((C.ops [MC 4 (.bool true)]).seq C.ret)
 C.skip))).seq (C.ops [MV 11 5,BC 12 .add 11 (i6 1),MV 5 12]))).loop)).seq (((C.ops [MC 6 (i6 0)]).seq (C.block 2 (((C.ops [MV 19 6,MV 20 1,O1 21 .len 20,BI 22 .lss 19 21]).seq
 (C.cond (.t 22) C.skip (C.exit 2))).seq ((C.block 3 ((C.ops [MV 25 1,MV 26 6,O2 27 (.idxA 2) 25 26,O1 28 (.fldA 0) 27,LD 29 28,O1 30 .slen 29,BC 31 .gtr 30 (i6 20),MV 32 31,
 MG 33 32 false 1,MG 34 32 false 6,P2 35 32 false (.idxA 2) 33 34,P1 36 32 false (.fldA 1) 35,P1 37 32 false (.load none) 36,P1 38 32 false .len 37,PC 39 32 false (.bin .gtr)
 38 (i6 40),PT 40 32 39]).seq (C.cond (.t 40) ((C.ops [MC 4 (.bool true)]).seq C.ret) C.skip))).seq (C.ops [MV 23 6,BC 24 .add 23 (i6 1),MV 6 24]))).loop)).seq ((C.ops [MV 41 0,
 O1 42 .len 41,BC 43 .gtr 42 (i6 8),MV 44 43,MG 45 44 true 0,P1 46 44 true .len 45,PC 47 44 true (.bin .leq) 46 (i6 32),PF 48 44 47,MV 49 48,MG 50 49 false 0,P1 51 49 false
 .len 50,PC 52 49 false (.bin .gtr) 51 (i6 34),PT 53 49 52,MV 54 53,MG 55 54 false 1,P1 56 54 false .len 55,PC 57 54 false (.bin .gtr) 56 (i6 5),MG 58 54 false 57,MG 59 58
 true 1,P1 60 58 true .len 59,PC 61 58 true (.bin .leq) 60 (i6 16),QF 62 54 false 58 61,PT 63 54 62,MV 64 63,MG 65 64 false 1,P1 66 64 false .len 65,PC 67 64 false (.bin
 .gtr) 66 (i6 18),PT 68 64 67,MV 4 68]).seq
 C.ret))))
theorem qyl:qJ Tryz.prog 72 69 0 [RV.tmp 4] qzA:=fi Tryz.f72 [] qt [] (by kernel_rfl) (by kernel_rfl) (by kernel_rfl) (by kernel_rfl)
def qxH:C:=
 ((C.ops [MC 2 (.bool false)]).seq (((C.ops [MC 3 (i6 0)]).seq (C.block 0 (((C.ops [MV 4 3,MV 5 0,O1 6 .len 5,BI 7 .lss 4 6,MV 8 7,MG 9 8 true 0,P1 10 8 true .len 9,PC 11 8
 true (.bin .leq) 10 (i6 10),PF 12 8 11]).seq (C.cond (.t 12) C.skip (C.exit 0))).seq ((C.block 1 ((C.ops [MV 15 0,MV 16 3,O2 17 (.idxA 6) 15 16,O1 18 (.load (some 6)) 17,O1 19
 (.call 112 true) 18]).seq (C.cond (.t 19) ((C.ops [MC 2 (.bool true)]).seq C.ret) C.skip))).seq (C.ops [MV 13 3,BC 14 .add 13 (i6 1),MV 3 14]))).loop)).seq ((C.ops [MV 20 0,O1
 21 .len 20,BC 22 .gtr 21 (i6 10),MV 2 22]).seq
 C.ret)))
theorem qvw:qJ Tryz.prog 73 23 0 [RV.tmp 2] qxH:=fi Tryz.f73 [] qt [] (by kernel_rfl) (by kernel_rfl) (by kernel_rfl) (by kernel_rfl)
def qzB:C:=
 ((C.ops [MV 4 0,MV 5 0,O1 6 .nilchk 5,O1 7 (.fldA 2) 6,LD 8 7,MV 9 0,O1 10 .nilchk 9,O1 11 (.fldA 0) 10,LD 12 11,MV 13 0,O1 14 .nilchk 13,O1 15 (.fldA 1) 14,LD 16 15,
 MV 17 1,ON 18 (.slc 1 true true) [.t 12,.t 16,.t 17],O2 19 (.app 0 1 9 16) 8 18,O1 20 .nilchk 4,O1 21 (.fldA 2) 20,ST 1 21 19]).seq (C.ops [MV 22 0,MV 23 1,O1 24 .nilchk
 22,O1 25 (.fldA 1) 24,ST 1 25
 23]))
theorem qym:qJ Tryz.prog 74 26 1 [] qzB:=fi Tryz.f74 [19] qt [] (by kernel_rfl) (by kernel_rfl) (by kernel_rfl) (by kernel_rfl)
def qzC:C:=
 ((C.ops [O1 2 (.box 0 71) 0,O1 3 (.box 1 3) 1,MC 4 .nilfn]).seq ((C.ops [O2 5 (.mkfn (Fn.func 113) 0) 2 3,MV 4 5]).seq
 C.ret))
theorem qyn:qJ Tryz.prog 75 6 2 [RV.tmp 4] qzC:=fi Tryz.f75 [2,3] qt [] (by kernel_rfl) (by kernel_rfl) (by kernel_rfl) (by kernel_rfl)
def qzD:C:=
 ((C.ops [O1 6 (.box 0 49) 2,MC 8 (i6 0)]).seq (((C.ops [MC 9 (i6 0)]).seq (C.block 0 (((C.ops [MV 13 9,O1 14 (.fldA 5) 6,LD 15 14,O1 16 .len 15,BI 17 .lss 13 16]).seq (C.cond
 (.t 17) C.skip (C.exit 0))).seq ((C.block 1 ((C.ops [MV 21 0,MV 22 1,O1 23 (.fldA 5) 6,LD 24 23,MV 25 9,O2 26 (.idxA 2) 24 25,O1 27 (.fldA 1) 26,LD 28 27,ON 29 (.call 28
 true) [.t 21,.t 22,.t 28],MV 20 29,O1 30 (.ext 0) 20,O1 31 (.ext 1) 20,MV 10 30,MV 11 31]).seq ((C.ops [MC 12 (i6 0)]).seq (C.block 2 (((C.ops [MV 32 12,MV 33 10,O1 34
 .len 33,BI 35 .lss 32 34]).seq (C.cond (.t 35) C.skip (C.exit 2))).seq ((C.block 3 ((C.ops [MV 38 10,MV 39 12,O2 40 (.idxA 1) 38 39,LD 41 40,MV 42 3,BI 43 .eql 41 42]).seq
 (C.cond (.t 43) ((C.ops [MV 44 9,MV 8 44]).seq C.ret) C.skip))).seq (C.ops [MV 36 12,BC 37 .add 36 (i6 1),MV 12 37]))).loop)))).seq (C.ops [MV 18 9,BC 19 .add 18 (i6 1),MV 9
 19]))).loop)).seq ((C.ops [MC 8 (i6 (-1))]).seq
 C.ret)))
theorem qyo:qJ Tryz.prog 76 45 1 [RV.tmp 8] qzD:=fi Tryz.f76 [6] qt [] (by kernel_rfl) (by kernel_rfl) (by kernel_rfl) (by kernel_rfl)
def qxd:C:=
 ((C.ops [O1 2 (.box 0 49) 0,O1 3 (.box 1 49) 1,MC 4 (.bool false)]).seq ((C.ops [O1 5 (.fldA 1) 2,LD 6 5,O1 7 (.fldA 1) 3,LD 8 7,BI 9 .lss 6 8,MV 10 9,P1 11 10 false (.fldA
 1) 2,P1 12 10 false (.load none) 11,P1 13 10 false (.fldA 1) 3,P1 14 10 false (.load none) 13,P2 15 10 false (.bin .eql) 12 14,MG 16 10 false 15,P1 17 16 true (.fldA 2) 2,P1
 18 16 true (.load none) 17,P1 19 16 true (.fldA 2) 3,P1 20 16 true (.load none) 19,P2 21 16 true (.bin .lss) 18 20,QF 22 10 false 16 21,PT 23 10 22,MV 4 23]).seq
 C.ret))
theorem qrt:qJ Tryz.prog 77 24 2 [RV.tmp 4] qxd:=fi Tryz.f77 [2,3] qt [] (by kernel_rfl) (by kernel_rfl) (by kernel_rfl) (by kernel_rfl)
def qgR:C:=
 ((C.ops [O1 7 (.box 0 49) 3,MC 8 (i6 0)]).seq ((C.block 0 ((C.ops [MV 17 0,MV 18 1,O2 19 (.call 59 true) 17 18,BC 20 .neq 19 (i6 0),MV 16 20]).seq (C.cond (.t 16) ((C.ops [MC
 8 (i6 1)]).seq C.ret) ((C.ops [MV 22 2,O1 23 .len 22,BC 24 .gtr 23 (i6 4096),MV 21 24]).seq (C.cond (.t 21) ((C.ops [MC 8 (i6 4)]).seq C.ret) ((C.ops [MV 26 2,O1 27 (.call 116
 true) 26,BC 28 .neq 27 (i6 0),MV 25 28]).seq (C.cond (.t 25) ((C.ops [MC 8 (i6 11)]).seq C.ret) ((C.ops [O1 30 (.fldA 0) 7,LD 31 30,BC 32 .lss 31 (i6 0),MV 33 32,P1 34 33
 false (.fldA 0) 7,P1 35 33 false (.load none) 34,PC 36 33 false (.bin .geq) 35 (i6 16),PT 37 33 36,MV 38 37,P1 39 38 false (.fldA 1) 7,P1 40 38 false (.load none) 39,PC 41
 38 false (.bin .lss) 40 (i6 0),PT 42 38 41,MV 43 42,P1 44 43 false (.fldA 1) 7,P1 45 43 false (.load none) 44,P1 46 43 false (.fldA 2) 7,P1 47 43 false (.load none) 46,P2 48
 43 false (.bin .gtr) 45 47,PT 49 43 48,MV 50 49,P1 51 50 false (.fldA 2) 7,P1 52 50 false (.load none) 51,MG 53 50 false 2,P1 54 50 false .len 53,P2 55 50 false (.bin .gtr)
 52 54,PT 56 50 55,MV 29 56]).seq (C.cond (.t 29) ((C.ops [MC 8 (i6 2)]).seq C.ret) ((C.ops [O1 58 (.fldA 4) 7,LD 59 58,O1 60 .len 59,BC 61 .gtr 60 (i6 0),MV 62 61,P1 63 62
 true (.fldA 3) 7,P1 64 62 true (.load none) 63,P1 65 62 true (.un UnOp.not) 64,PF 66 62 65,MV 57 66]).seq (C.cond (.t 57) ((C.ops [MC 8 (i6 1)]).seq C.ret) ((C.ops [O1 68
 (.fldA 5) 7,LD 69 68,O1 70 .len 69,BC 71 .eql 70 (i6 0),MV 67 71]).seq (C.cond (.t 67) ((C.ops [MC 8 (i6 5)]).seq C.ret) C.skip))))))))))))).seq (((C.ops [O1 72 (.fldA 5) 7,LD
 73 72,O1 74 .len 73,MC 75 (i6 0)]).seq (C.block 1 ((C.ops [BI 76 .lss 75 74]).seq ((C.cond (.t 76) C.skip (C.exit 1)).seq ((C.block 2 ((C.ops [MV 77 75,O2 78 (.idxA 2) 73 75,O1
 79 (.load (some 2)) 78,⟨some 10,none,.alloc 1 51 [.nl,.nl],[]⟩,MV 9 77,ST 2 10 79]).seq (C.block 3 ((C.ops [O1 81 (.fldA 0) 10,LD 82 81,O1 83 (.call 116 true) 82,BC 84
 .neq 83 (i6 0),MV 80 84]).seq (C.cond (.t 80) ((C.ops [MC 8 (i6 11)]).seq C.ret) ((C.ops [O1 86 (.fldA 0) 10,LD 87 86,MV 88 2,O1 89 (.fldA 1) 7,LD 90 89,O1 91 (.fldA 2) 7,LD
 92 91,ON 93 (.slc 1 true true) [.t 88,.t 90,.t 92],O2 94 (.call 117 true) 87 93,MV 85 94]).seq (C.cond (.t 85) ((C.ops [MC 8 (i6 9)]).seq C.ret) ((C.ops [O1 96 (.fldA 5) 7,LD
 97 96,MV 98 9,O2 99 (.slc 2 false true) 97 98,O1 100 (.mkfn (Fn.func 119) 0) 10,O2 101 (.call 118 true) 99 100,MV 95 101]).seq (C.cond (.t 95) ((C.ops [MC 8 (i6 7)]).seq
 C.ret) ((C.ops [O1 103 (.fldA 1) 10,LD 104 103,O1 105 .len 104,BC 106 .eql 105 (i6 0),MV 102 106]).seq (C.cond (.t 102) ((C.ops [MC 8 (i6 5)]).seq C.ret) C.skip))))))))))).seq
 (C.ops [BC 107 .add 75 (i6 1),MV 75 107])))).loop)).seq ((C.ops [⟨some 11,none,.alloc 2 117 [i6 0,i6 0,i6 0,i6 0,i6 0,i6 0,i6 0,i6 0,i6 0,i6 0,i6 0,i6 0,i6 0,i6 0,
 i6 0,i6 0,i6 0,i6 0,i6 0,i6 0,i6 0,i6 0,i6 0,i6 0,i6 0,i6 0,i6 0,i6 0,i6 0,i6 0,i6 0,i6 0],[]⟩]).seq (((C.ops [MV 108 0,MV 109 1,O1 110 (.fldA 4) 7,LD 111 110,
 ON 112 (.call 93 false) [.t 108,.t 109,.t 111,.t 11],MV 12 112]).seq ((C.ops [MV 113 12,BC 114 .neq 113 (i6 0)]).seq (C.cond (.t 114) ((C.ops [MV 115 12,MV 8 115]).seq C.ret)
 C.skip))).seq (((C.ops [O1 116 (.fldA 5) 7,LD 117 116,O1 118 .len 117,MC 119 (i6 0)]).seq (C.block 4 ((C.ops [BI 120 .lss 119 118]).seq ((C.cond (.t 120) C.skip (C.exit 4)).seq
 ((C.block 5 ((C.ops [O2 121 (.idxA 2) 117 119,O1 122 (.load (some 2)) 121,⟨some 14,none,.alloc 3 51 [.nl,.nl],[]⟩,ST 2 14 122]).seq ((C.ops [MV 123 0,MV 124 1,O1 125
 (.fldA 1) 14,LD 126 125,ON 127 (.call 93 false) [.t 123,.t 124,.t 126,.t 11],MV 15 127]).seq ((C.ops [MV 128 15,BC 129 .neq 128 (i6 0)]).seq (C.cond (.t 129) ((C.ops [MV 130
 15,MV 8 130]).seq C.ret) C.skip))))).seq (C.ops [BC 131 .add 119 (i6 1),MV 119 131])))).loop)).seq (((C.ops [O1 132 (.load (some 32)) 11,O1 133 (.call 94 true) 132]).seq (C.cond
 (.t 133) ((C.ops [MC 8 (i6 17)]).seq C.ret) C.skip)).seq ((C.ops [MC 8 (i6 0)]).seq
 C.ret))))))))
theorem qbA:qJ Tryz.prog 78 134 4 [RV.tmp 8] qgR:=fi Tryz.f78 [7,10,11,14] qt [] (by kernel_rfl) (by kernel_rfl) (by kernel_rfl) (by kernel_rfl)
def qxI:C:=
 (C.ops [MV 4 0,MV 5 0,O1 6 .len 5,MV 7 1,ON 8 (.call 120 false) [.t 4,.t 6,.t
 7]])
theorem qvx:qJ Tryz.prog 79 9 0 [] qxI:=fi Tryz.f79 [] qt [] (by kernel_rfl) (by kernel_rfl) (by kernel_rfl) (by kernel_rfl)
def qzE:C:=
 ((C.ops [O1 2 (.box 0 49) 0,O1 3 (.box 1 49) 1,MC 4 (i6 0)]).seq ((C.ops [O1 5 (.fldA 1) 2,LD 6 5,O1 7 (.fldA 1) 3,LD 8 7,O2 9 (.call 122 true) 6 8,O1 10 (.fldA 2) 2,LD 11
 10,O1 12 (.fldA 2) 3,LD 13 12,O2 14 (.call 122 true) 11 13,⟨some 15,none,.bslc 2 1 2 3 [i6 0] [(0,1),(1,1)],[.t 9,.t 14]⟩,O1 16 (.call 121 true) 15,MV 4 16]).seq
 C.ret))
theorem qyp:qJ Tryz.prog 80 17 3 [RV.tmp 4] qzE:=fi Tryz.f80 [2,3,15] qt [] (by kernel_rfl) (by kernel_rfl) (by kernel_rfl) (by kernel_rfl)
def qt7:C:=
 ((C.ops [MC 2 (.bool false)]).seq (((C.ops [MV 4 0,O1 5 .slen 4,MV 3 5]).seq ((C.ops [MV 6 3,BC 7 .gtr 6 (i6 0),MV 8 7,MG 9 8 true 0,MG 10 8 true 3,PC 11 8 true (.bin .sub)
 10 (i6 1),P2 12 8 true .sidx 9 11,PC 13 8 true (.bin .eql) 12 (.int .u8 42),PF 14 8 13]).seq (C.cond (.t 14) ((C.ops [MV 15 3,BC 16 .leq 15 (i6 16),MV 17 16,MG 18 17 true 0,
 MG 19 17 true 3,PC 20 17 true (.bin .sub) 19 (i6 1),P2 21 17 true (.sslc false true) 18 20,P1 22 17 true (.call 82 true) 21,PF 23 17 22,MV 2 23]).seq C.ret) C.skip))).seq
 ((C.ops [MV 24 0,O1 25 (.call 82 true) 24,MV 2 25]).seq
 C.ret)))
theorem qnK:qJ Tryz.prog 81 26 0 [RV.tmp 2] qt7:=fi Tryz.f81 [] qt [] (by kernel_rfl) (by kernel_rfl) (by kernel_rfl) (by kernel_rfl)
def qzF:C:=
 ((C.ops [MC 4 (i6 0)]).seq (((C.ops [MC 5 (i6 0)]).seq (C.block 0 (((C.ops [MV 6 5,MV 7 1,O1 8 .len 7,BI 9 .lss 6 8]).seq (C.cond (.t 9) C.skip (C.exit 0))).seq ((C.block 1
 (((C.ops [MV 12 1,MV 13 5,O2 14 (.idxA 1) 12 13,LD 15 14,BC 16 .lss 15 (i6 0),MV 17 16,MG 18 17 false 1,MG 19 17 false 5,P2 20 17 false (.idxA 1) 18 19,P1 21 17 false
 (.load none) 20,MG 22 17 false 0,P2 23 17 false (.bin .geq) 21 22,PT 24 17 23]).seq (C.cond (.t 24) ((C.ops [MC 4 (i6 2)]).seq C.ret) C.skip)).seq ((C.ops [MV 25 5,BC 26 .gtr
 25 (i6 0),MV 27 26,MG 28 27 true 1,MG 29 27 true 5,P2 30 27 true (.idxA 1) 28 29,P1 31 27 true (.load none) 30,MG 32 27 true 1,MG 33 27 true 5,PC 34 27 true (.bin .sub) 33
 (i6 1),P2 35 27 true (.idxA 1) 32 34,P1 36 27 true (.load none) 35,P2 37 27 true (.bin .leq) 31 36,PF 38 27 37]).seq (C.cond (.t 38) ((C.ops [MC 4 (i6 10)]).seq C.ret)
 C.skip)))).seq (C.ops [MV 10 5,BC 11 .add 10 (i6 1),MV 5 11]))).loop)).seq ((C.ops [MC 4 (i6 0)]).seq
 C.ret)))
theorem qyq:qJ Tryz.prog 83 39 0 [RV.tmp 4] qzF:=fi Tryz.f83 [] qt [] (by kernel_rfl) (by kernel_rfl) (by kernel_rfl) (by kernel_rfl)
def qxJ:C:=
 ((C.ops [MC 2 (.bool false)]).seq ((C.ops [MV 3 0,⟨some 4,none,.build [.str [],.str [],i6 0] [(0,1)],[.t 3]⟩,O1 5 (.call 125 true) 4,BC 6 .eql 5 (i6 0),MV 2 6]).seq
 C.ret))
theorem qvy:qJ Tryz.prog 84 7 0 [RV.tmp 2] qxJ:=fi Tryz.f84 [] qt [] (by kernel_rfl) (by kernel_rfl) (by kernel_rfl) (by kernel_rfl)
def qxK:C:=
 ((C.ops [MC 4 (.bool false)]).seq (((C.ops [MV 6 0,O1 7 .len 6,MV 8 1,O1 9 .len 8,BI 10 .neq 7 9]).seq (C.cond (.t 10) ((C.ops [MC 4 (.bool false)]).seq C.ret) C.skip)).seq
 (((C.ops [MC 5 (i6 0)]).seq (C.block 0 (((C.ops [MV 11 5,MV 12 0,O1 13 .len 12,BI 14 .lss 11 13]).seq (C.cond (.t 14) C.skip (C.exit 0))).seq ((C.block 1 ((C.ops [MV 17 0,MV 18
 5,O2 19 (.idxA 1) 17 18,LD 20 19,MV 21 1,MV 22 5,O2 23 (.idxA 1) 21 22,LD 24 23,BI 25 .neq 20 24]).seq (C.cond (.t 25) ((C.ops [MC 4 (.bool false)]).seq C.ret) C.skip))).seq
 (C.ops [MV 15 5,BC 16 .add 15 (i6 1),MV 5 16]))).loop)).seq ((C.ops [MC 4 (.bool true)]).seq
 C.ret))))
theorem qvz:qJ Tryz.prog 85 26 0 [RV.tmp 4] qxK:=fi Tryz.f85 [] qt [] (by kernel_rfl) (by kernel_rfl) (by kernel_rfl) (by kernel_rfl)
def qt8:C:=
 ((C.ops [MC 2 (.bool false)]).seq ((C.ops [MV 6 0,OC 7 (.call 126 true) 6 (.str [42]),MV 5 7,O1 8 (.ext 0) 5,O1 9 (.ext 1) 5,MV 3 8,MV 4 9]).seq ((C.ops [MV 10 3,O1 11
 (.call 89 true) 10,MV 12 11,MG 13 12 true 4,P1 14 12 true (.un UnOp.not) 13,MG 15 12 true 14,MG 16 15 false 0,P1 17 15 false .slen 16,PC 18 15 false (.bin .leq) 17 (i6 16),
 QT 19 12 true 15 18,PF 20 12 19,MV 2 20]).seq
 C.ret)))
theorem qnL:qJ Tryz.prog 87 21 0 [RV.tmp 2] qt8:=fi Tryz.f87 [] qt [] (by kernel_rfl) (by kernel_rfl) (by kernel_rfl) (by kernel_rfl)
theorem qys:qJ Tryz.prog 88 9 0 [RV.tmp 4] (cCT 102):=fi Tryz.f88 [] qt [] (by kernel_rfl) (by kernel_rfl) (by kernel_rfl) (by kernel_rfl)
theorem qyt:qJ Tryz.prog 90 9 0 [RV.tmp 4] (cCT 103):=fi Tryz.f90 [] qt [] (by kernel_rfl) (by kernel_rfl) (by kernel_rfl) (by kernel_rfl)
def qzH:C:=
 ((C.ops [O1 2 (.box 0 85) 0,MC 3 (.bool false)]).seq ((C.ops [O1 4 (.fldA 0) 2,LD 5 4,O1 6 (.fldA 0) 1,LD 7 6,BI 8 .eql 5 7,MV 3 8]).seq
 C.ret))
theorem qyu:qJ Tryz.prog 91 9 1 [RV.tmp 3] qzH:=fi Tryz.f91 [2] qt [] (by kernel_rfl) (by kernel_rfl) (by kernel_rfl) (by kernel_rfl)
def qzI:C:=
 ((C.ops [MC 4 (i6 0)]).seq (((C.ops [MV 7 0,O1 8 .len 7,MC 9 (i6 0)]).seq (C.block 0 ((C.ops [BI 10 .lss 9 8]).seq ((C.cond (.t 10) C.skip (C.exit 0)).seq ((C.block 1 ((C.ops [MV
 11 9,O2 12 (.idxA 1) 7 9,LD 13 12,MV 5 11,MV 6 13]).seq (((C.ops [MV 14 6,BC 15 .lss 14 (i6 0),MV 16 15,MG 17 16 false 6,MG 18 16 false 1,P2 19 16 false (.bin .geq) 17 18,
 PT 20 16 19]).seq (C.cond (.t 20) ((C.ops [MC 4 (i6 2)]).seq C.ret) C.skip)).seq ((C.ops [MV 21 5,BC 22 .gtr 21 (i6 0),MV 23 22,MG 24 23 true 6,MG 25 23 true 0,MG 26 23 true
 5,PC 27 23 true (.bin .sub) 26 (i6 1),P2 28 23 true (.idxA 1) 25 27,P1 29 23 true (.load none) 28,P2 30 23 true (.bin .leq) 24 29,PF 31 23 30]).seq (C.cond (.t 31) ((C.ops [MC
 4 (i6 10)]).seq C.ret) C.skip))))).seq (C.ops [BC 32 .add 9 (i6 1),MV 9 32])))).loop)).seq ((C.ops [MC 4 (i6 0)]).seq
 C.ret)))
theorem qyv:qJ Tryz.prog 92 33 0 [RV.tmp 4] qzI:=fi Tryz.f92 [] qt [] (by kernel_rfl) (by kernel_rfl) (by kernel_rfl) (by kernel_rfl)
def qzJ:C:=
 ((C.ops [MC 8 (i6 0)]).seq ((C.ops [MV 14 0,MV 15 1,MV 16 2,ON 17 (.call 62 true) [.t 14,.t 15,.t 16],MV 13 17,O1 18 (.ext 0) 13,O1 19 (.ext 1) 13,MV 9 18,MV 10 19]).seq
 (((C.ops [MV 20 9,O1 21 .len 20,MC 22 (i6 0)]).seq (C.block 0 ((C.ops [BI 23 .lss 22 21]).seq ((C.cond (.t 23) C.skip (C.exit 0)).seq ((C.block 1 ((C.ops [O2 24 (.idxA 1) 20 22,
 LD 25 24,MV 12 25]).seq (C.ops [MV 26 3,MV 27 12,O1 28 .nilchk 26,O2 29 (.idxArr 32 1) 28 27,LD 30 29,BC 31 .add 30 (i6 1),O1 32 .nilchk 26,O2 33 (.idxArr 32 1) 32 27,ST 1
 33 31]))).seq (C.ops [BC 34 .add 22 (i6 1),MV 22 34])))).loop)).seq ((C.ops [MV 35 10,MV 8 35]).seq
 C.ret))))
theorem qyw:qJ Tryz.prog 93 36 0 [RV.tmp 8] qzJ:=fi Tryz.f93 [] qt [] (by kernel_rfl) (by kernel_rfl) (by kernel_rfl) (by kernel_rfl)
def qxL:C:=
 ((C.ops [MC 6 (i6 0)]).seq (((C.ops [MV 7 0,MV 8 1,O2 9 (.call 59 true) 7 8,BC 10 .neq 9 (i6 0)]).seq (C.cond (.t 10) ((C.ops [MC 6 (i6 1)]).seq C.ret) C.skip)).seq ((C.ops [MV
 11 2,MV 12 0,O1 13 .len 12,O2 14 (.call 92 true) 11 13,MV 6 14]).seq
 C.ret)))
theorem qvA:qJ Tryz.prog 95 15 0 [RV.tmp 6] qxL:=fi Tryz.f95 [] qt [] (by kernel_rfl) (by kernel_rfl) (by kernel_rfl) (by kernel_rfl)
def qzK:C:=
 ((C.ops [MC 2 (.int .u64 0)]).seq ((C.ops [MC 3 (.int .u64 0)]).seq (((C.ops [MV 6 0,O1 7 .len 6,MC 8 (i6 0)]).seq (C.block 0 ((C.ops [BI 9 .lss 8 7]).seq ((C.cond (.t 9) C.skip
 (C.exit 0)).seq ((C.block 1 ((C.ops [O2 10 (.idxA 1) 6 8,LD 11 10,MV 5 11]).seq (C.ops [MV 12 3,MV 13 5,ON 14 (.bin .shl) [.c (.int .u64 1),.t 13],BI 15 .or 12 14,MV 3
 15]))).seq (C.ops [BC 16 .add 8 (i6 1),MV 8 16])))).loop)).seq ((C.ops [MV 17 3,MV 2 17]).seq
 C.ret))))
theorem qyx:qJ Tryz.prog 96 18 0 [RV.tmp 2] qzK:=fi Tryz.f96 [] qt [] (by kernel_rfl) (by kernel_rfl) (by kernel_rfl) (by kernel_rfl)
def qzL:C:=
 ((C.ops [ON 4 (.nilo 0 1 3) []]).seq ((C.ops [ON 5 (.nilo 1 1 3) []]).seq (((C.ops [MV 8 0,O1 9 .len 8,MC 10 (i6 0)]).seq (C.block 0 ((C.ops [BI 11 .lss 10 9]).seq ((C.cond (.t
 11) C.skip (C.exit 0)).seq ((C.block 1 ((C.ops [MV 12 10,O2 13 (.idxA 2) 8 10,O1 14 (.load (some 2)) 13,⟨some 7,none,.alloc 2 85 [.str [],.nl],[]⟩,MV 6 12,ST 2 7 14]).seq
 ((C.ops [O1 15 (.fldA 1) 7,LD 16 15,O1 17 (.call 96 true) 16,MV 18 1,BI 19 .andNot 17 18,BC 20 .eql 19 (.int .u64 0)]).seq (C.cond (.t 20) (C.ops [MV 21 5,MV 22 6,⟨some 23,
 none,.bslc 3 1 1 3 [i6 0] [(0,1)],[.t 22]⟩,O2 24 (.app 4 1 3 8) 21 23,MV 5 24]) C.skip)))).seq (C.ops [BC 25 .add 10 (i6 1),MV 10 25])))).loop)).seq ((C.ops [MV 26 5,MV 4
 26]).seq
 C.ret))))
theorem qyy:qJ Tryz.prog 97 27 5 [RV.tmp 4] qzL:=fi Tryz.f97 [4,5,7,23,24] qt [] (by kernel_rfl) (by kernel_rfl) (by kernel_rfl) (by kernel_rfl)
def qzM:C:=
 ((C.ops [O1 1 (.box 0 125) 0,MC 2 .nilfn]).seq ((C.ops [O1 3 (.mkfn (Fn.func 130) 0) 1,MV 2 3]).seq
 C.ret))
theorem qyz:qJ Tryz.prog 98 4 1 [RV.tmp 2] qzM:=fi Tryz.f98 [1] qt [] (by kernel_rfl) (by kernel_rfl) (by kernel_rfl) (by kernel_rfl)
def qzN:C:=
 ((C.ops [MC 2 (i6 0)]).seq ((C.ops [MV 3 0,BC 4 .shr 3 (.int .u64 1),BC 5 .and 4 (.int .u64 6148914691236517205),MV 6 0,BC 7 .and 6 (.int .u64 6148914691236517205),BI 8 .add 5
 7,MV 0 8]).seq ((C.ops [MV 9 0,BC 10 .shr 9 (.int .u64 2),BC 11 .and 10 (.int .u64 3689348814741910323),MV 12 0,BC 13 .and 12 (.int .u64 3689348814741910323),BI 14 .add 11
 13,MV 0 14]).seq ((C.ops [MV 15 0,BC 16 .shr 15 (.int .u64 4),MV 17 0,BI 18 .add 16 17,BC 19 .and 18 (.int .u64 1085102592571150095),MV 0 19]).seq ((C.ops [MV 20 0,MV 21 0,
 BC 22 .shr 21 (.int .u64 8),BI 23 .add 20 22,MV 0 23]).seq ((C.ops [MV 24 0,MV 25 0,BC 26 .shr 25 (.int .u64 16),BI 27 .add 24 26,MV 0 27]).seq ((C.ops [MV 28 0,MV 29 0,BC
 30 .shr 29 (.int .u64 32),BI 31 .add 28 30,MV 0 31]).seq ((C.ops [MV 32 0,O1 33 (.conv .i64) 32,BC 34 .and 33 (i6 127),MV 2 34]).seq
 C.ret))))))))
theorem qyA:qJ Tryz.prog 99 35 0 [RV.tmp 2] qzN:=fi Tryz.f99 [] qt [] (by kernel_rfl) (by kernel_rfl) (by kernel_rfl) (by kernel_rfl)
def qtA:C:=
 ((C.ops [ON 2 (.nilo 0 1 3) []]).seq ((C.ops [ON 3 (.nilo 1 1 3) []]).seq (((C.ops [MC 5 (i6 0)]).seq (C.block 0 ((C.ops [BC 6 .lss 5 (i6 64)]).seq ((C.cond (.t 6) C.skip (C.exit
 0)).seq ((C.block 1 ((C.ops [MV 7 5,MV 4 7]).seq ((C.ops [MV 8 0,MV 9 4,BI 10 .shr 8 9,BC 11 .and 10 (.int .u64 1),BC 12 .eql 11 (.int .u64 1)]).seq (C.cond (.t 12) (C.ops [MV
 13 3,MV 14 4,⟨some 15,none,.bslc 2 1 1 3 [i6 0] [(0,1)],[.t 14]⟩,O2 16 (.app 3 1 3 8) 13 15,MV 3 16]) C.skip)))).seq (C.ops [BC 17 .add 5 (i6 1),MV 5 17])))).loop)).seq
 ((C.ops [MV 18 3,MV 2 18]).seq
 C.ret))))
theorem quC:qJ Tryz.prog 100 19 4 [RV.tmp 2] qtA:=fi Tryz.f100 [2,3,15,16] qt [] (by kernel_rfl) (by kernel_rfl) (by kernel_rfl) (by kernel_rfl)
def qtB:C:=
 ((C.ops [MC 4 (i6 0)]).seq (((C.ops [MV 9 0,O1 10 .len 9,MC 11 (i6 0)]).seq (C.block 0 ((C.ops [BI 12 .lss 11 10]).seq ((C.cond (.t 12) C.skip (C.exit 0)).seq ((C.block 1 ((C.ops
 [MV 13 11,O2 14 (.idxA 1) 9 11,LD 15 14,MV 5 13,MV 6 15]).seq (((C.ops [MV 16 5,MV 17 1,O1 18 .len 17,BI 19 .geq 16 18]).seq (C.cond (.t 19) ((C.ops [MC 4 (i6 1)]).seq
 C.ret) C.skip)).seq ((C.ops [MV 20 1,MV 21 5,O2 22 (.idxA 1) 20 21,LD 23 22,MV 7 23]).seq ((C.ops [MV 24 6,MV 25 7,O2 26 (.call 122 true) 24 25,MV 8 26]).seq ((C.ops [MV 27
 8,BC 28 .neq 27 (i6 0)]).seq (C.cond (.t 28) ((C.ops [MV 29 8,MV 4 29]).seq C.ret) C.skip))))))).seq (C.ops [BC 30 .add 11 (i6 1),MV 11 30])))).loop)).seq (((C.ops [MV 31 0,O1
 32 .len 31,MV 33 1,O1 34 .len 33,BI 35 .lss 32 34]).seq (C.cond (.t 35) ((C.ops [MC 4 (i6 (-1))]).seq C.ret) C.skip)).seq ((C.ops [MC 4 (i6 0)]).seq
 C.ret))))
theorem quD:qJ Tryz.prog 101 36 0 [RV.tmp 4] qtB:=fi Tryz.f101 [] qt [] (by kernel_rfl) (by kernel_rfl) (by kernel_rfl) (by kernel_rfl)
theorem quE:qJ Tryz.prog 102 19 0 [RV.tmp 4] cIX:=fi Tryz.f102 [] qt [] (by kernel_rfl) (by kernel_rfl) (by kernel_rfl) (by kernel_rfl)
theorem qpM:qJ Tryz.prog 103 19 0 [RV.tmp 4] (cIF 2 (some 2)):=fi Tryz.f103 [] qt [] (by kernel_rfl) (by kernel_rfl) (by kernel_rfl) (by kernel_rfl)
def qtC:C:=
 ((C.ops [O1 2 (.box 0 85) 0,MC 3 (.bool false)]).seq ((C.ops [O1 4 (.fldA 0) 2,LD 5 4,LD 6 1,BI 7 .eql 5 6,MV 3 7]).seq
 C.ret))
theorem quF:qJ Tryz.prog 104 8 1 [RV.tmp 3] qtC:=fi Tryz.f104 [2] qt [] (by kernel_rfl) (by kernel_rfl) (by kernel_rfl) (by kernel_rfl)
def qtD:C:=
 ((C.ops [MC 4 (.bool false)]).seq ((C.ops [MV 5 0,O1 6 (.call 143 true) 5,BC 7 .neq 6 (i6 0),MV 8 7,MG 9 8 false 1,P1 10 8 false (.call 143 true) 9,PC 11 8 false (.bin .neq)
 10 (i6 0),PT 12 8 11,MV 4 12]).seq
 C.ret))
theorem quG:qJ Tryz.prog 110 13 0 [RV.tmp 4] qtD:=fi Tryz.f110 [] qt [] (by kernel_rfl) (by kernel_rfl) (by kernel_rfl) (by kernel_rfl)
def qtE:C:=
 ((C.ops [MC 4 (.bool false)]).seq (((C.ops [MC 5 (i6 0)]).seq (C.block 0 (((C.ops [MV 6 5,MV 7 0,O1 8 .len 7,BI 9 .lss 6 8]).seq (C.cond (.t 9) C.skip (C.exit 0))).seq ((C.block
 1 ((C.ops [MV 12 0,MV 13 5,O2 14 (.idxA 1) 12 13,LD 15 14,MV 16 1,BI 17 .eql 15 16]).seq (C.cond (.t 17) ((C.ops [MC 4 (.bool true)]).seq C.ret) C.skip))).seq (C.ops [MV 10 5,
 BC 11 .add 10 (i6 1),MV 5 11]))).loop)).seq ((C.ops [MC 4 (.bool false)]).seq
 C.ret)))
theorem quH:qJ Tryz.prog 111 18 0 [RV.tmp 4] qtE:=fi Tryz.f111 [] qt [] (by kernel_rfl) (by kernel_rfl) (by kernel_rfl) (by kernel_rfl)
def qm1:C:=
 ((C.ops [O1 1 (.box 0 49) 0,MC 2 (.bool false)]).seq (((C.ops [O1 4 (.fldA 5) 1,LD 5 4,O1 6 .len 5,BC 7 .gtr 6 (i6 6),MV 8 7,P1 9 8 false (.fldA 4) 1,P1 10 8 false (.load
 none) 9,PC 11 8 false (.call 144 true) 10 (i6 8),PT 12 8 11]).seq (C.cond (.t 12) ((C.ops [MC 2 (.bool true)]).seq C.ret) C.skip)).seq (((C.ops [MC 3 (i6 0)]).seq (C.block 0
 (((C.ops [MV 13 3,O1 14 (.fldA 5) 1,LD 15 14,O1 16 .len 15,BI 17 .lss 13 16]).seq (C.cond (.t 17) C.skip (C.exit 0))).seq ((C.block 1 ((C.ops [O1 20 (.fldA 5) 1,LD 21 20,MV
 22 3,O2 23 (.idxA 2) 21 22,O1 24 (.fldA 0) 23,LD 25 24,OC 26 (.call 144 true) 25 (i6 8),MV 27 26,P1 28 27 false (.fldA 5) 1,P1 29 27 false (.load none) 28,MG 30 27 false 3,
 P2 31 27 false (.idxA 2) 29 30,P1 32 27 false (.fldA 1) 31,P1 33 27 false (.load none) 32,PC 34 27 false (.call 144 true) 33 (i6 8),PT 35 27 34]).seq (C.cond (.t 35) ((C.ops
 [MC 2 (.bool true)]).seq C.ret) C.skip))).seq (C.ops [MV 18 3,BC 19 .add 18 (i6 1),MV 3 19]))).loop)).seq ((C.ops [MC 2 (.bool false)]).seq
 C.ret))))
theorem qkb:qJ Tryz.prog 112 36 1 [RV.tmp 2] qm1:=fi Tryz.f112 [1] qt [] (by kernel_rfl) (by kernel_rfl) (by kernel_rfl) (by kernel_rfl)
def qtF:C:=
 ((C.ops [O1 7 (.fldA 3) 1,LD 8 7,O1 9 .len 8,MC 10 (i6 0)]).seq (C.block 0 ((C.ops [BI 11 .lss 10 9]).seq ((C.cond (.t 11) C.skip (C.exit 0)).seq ((C.block 1 ((C.ops [MV 12 10,
 O2 13 (.idxA 6) 8 10,O1 14 (.load (some 6)) 13,⟨some 5,none,.alloc 0 49 [i6 0,i6 0,i6 0,.bool false,.nl,.nl],[]⟩,MV 4 12,ST 6 5 14]).seq ((C.ops [O1 15 (.fldA 4) 1,LD
 16 15,MV 17 4,O2 18 (.idxA 1) 16 17,LD 19 18,O1 20 (.mkfn (Fn.func 115) 0) 2,O2 21 (.call 114 true) 19 20,MV 6 21]).seq ((C.ops [MV 22 6,BC 23 .geq 22 (i6 0),MV 24 23,MG
 25 24 true 0,P1 26 24 true (.load (some 6)) 5,P1 27 24 true (.fldA 5) 5,P1 28 24 true (.load none) 27,MG 29 24 true 6,P2 30 24 true (.idxA 2) 28 29,P1 31 24 true (.fldA 0)
 30,P1 32 24 true (.load none) 31,PN 33 24 true .callv [.t 25,.t 26,.t 32],P1 34 24 true (.un UnOp.not) 33,PF 35 24 34]).seq (C.cond (.t 35) C.ret C.skip))))).seq (C.ops [BC
 36 .add 10 (i6 1),MV 10
 36])))).loop))
theorem quI:qJ Tryz.prog 113 37 1 [] qtF:=fi Tryz.f113 [5] qt [] (by kernel_rfl) (by kernel_rfl) (by kernel_rfl) (by kernel_rfl)
theorem quJ:qJ Tryz.prog 114 19 0 [RV.tmp 4] (cIF 1 none):=fi Tryz.f114 [] qt [] (by kernel_rfl) (by kernel_rfl) (by kernel_rfl) (by kernel_rfl)
def qtG:C:=
 ((C.ops [MC 3 (.bool false)]).seq ((C.ops [MV 4 0,LD 5 1,O2 6 (.call 27 true) 4 5,MV 3 6]).seq
 C.ret))
theorem quK:qJ Tryz.prog 115 7 0 [RV.tmp 3] qtG:=fi Tryz.f115 [] qt [] (by kernel_rfl) (by kernel_rfl) (by kernel_rfl) (by kernel_rfl)
def qtH:C:=
 ((C.ops [MC 2 (i6 0)]).seq (((C.ops [MV 6 0,O1 7 .len 6,MC 8 (i6 0)]).seq (C.block 0 ((C.ops [BI 9 .lss 8 7]).seq ((C.cond (.t 9) C.skip (C.exit 0)).seq ((C.block 1 ((C.ops [O2
 10 (.idxA 1) 6 8,LD 11 10,MV 4 11]).seq ((C.ops [MV 12 4,⟨some 13,none,.build [.str [],.str [],i6 0] [(0,1)],[.t 12]⟩,O1 14 (.call 145 true) 13,MV 5 14]).seq ((C.ops [MV
 15 5,BC 16 .neq 15 (i6 0)]).seq (C.cond (.t 16) ((C.ops [MV 17 5,MV 2 17]).seq C.ret) C.skip))))).seq (C.ops [BC 18 .add 8 (i6 1),MV 8 18])))).loop)).seq ((C.ops [MC 2 (i6
 0)]).seq
 C.ret)))
theorem quL:qJ Tryz.prog 116 19 0 [RV.tmp 2] qtH:=fi Tryz.f116 [] qt [] (by kernel_rfl) (by kernel_rfl) (by kernel_rfl) (by kernel_rfl)
def qtI:C:=
 ((C.ops [MC 4 (.bool false)]).seq ((C.ops [MV 5 0,MV 6 1,O2 7 (.call 22 true) 5 6,MV 4 7]).seq
 C.ret))
theorem quM:qJ Tryz.prog 117 8 0 [RV.tmp 4] qtI:=fi Tryz.f117 [] qt [] (by kernel_rfl) (by kernel_rfl) (by kernel_rfl) (by kernel_rfl)
theorem quN:qJ Tryz.prog 118 9 0 [RV.tmp 4] (cCT 146):=fi Tryz.f118 [] qt [] (by kernel_rfl) (by kernel_rfl) (by kernel_rfl) (by kernel_rfl)
def qtJ:C:=
 ((C.ops [O1 2 (.box 0 51) 0,MC 3 (.bool false)]).seq ((C.ops [O1 4 (.fldA 0) 1,LD 5 4,O1 6 (.fldA 0) 2,LD 7 6,O2 8 (.call 117 true) 5 7,MV 3 8]).seq
 C.ret))
theorem quO:qJ Tryz.prog 119 9 1 [RV.tmp 3] qtJ:=fi Tryz.f119 [2] qt [] (by kernel_rfl) (by kernel_rfl) (by kernel_rfl) (by kernel_rfl)
def qqA:C:=
 ((C.ops [MC 6 (i6 20)]).seq ((C.ops [MV 10 6,MC 7 (i6 0),MV 8 10]).seq ((C.block 0 (((C.ops [MV 11 8,MV 12 1,BI 13 .leq 11 12]).seq (C.cond (.t 13) C.skip (C.exit 0))).seq
 (C.block 1 ((C.ops [MV 14 0,MV 15 7,MV 16 8,MV 17 2,ON 18 (.call 147 false) [.t 14,.t 15,.t 16,.t 17]]).seq ((C.ops [MV 19 8,MV 7 19]).seq (C.ops [MV 20 8,MV 21 6,BI 22
 .add 20 21,MV 8 22]))))).loop).seq ((C.ops [MV 23 0,MV 24 7,MV 25 1,MV 26 2,ON 27 (.call 147 false) [.t 23,.t 24,.t 25,.t 26]]).seq (C.block 2 (((C.ops [MV 28 6,MV 29 1,
 BI 30 .lss 28 29]).seq (C.cond (.t 30) C.skip (C.exit 2))).seq (C.block 3 ((C.ops [MV 31 6,ON 32 (.bin .mul) [.c (i6 2),.t 31],MC 7 (i6 0),MV 8 32]).seq ((C.block 4 (((C.ops
 [MV 33 8,MV 34 1,BI 35 .leq 33 34]).seq (C.cond (.t 35) C.skip (C.exit 4))).seq (C.block 5 ((C.ops [MV 36 0,MV 37 7,MV 38 7,MV 39 6,BI 40 .add 38 39,MV 41 8,MV 42 2,ON 43
 (.call 148 false) [.t 36,.t 37,.t 40,.t 41,.t 42]]).seq ((C.ops [MV 44 8,MV 7 44]).seq (C.ops [MV 45 8,MV 46 6,ON 47 (.bin .mul) [.c (i6 2),.t 46],BI 48 .add 45 47,MV 8
 48]))))).loop).seq (((C.ops [MV 49 7,MV 50 6,BI 51 .add 49 50,MV 9 51]).seq ((C.ops [MV 52 9,MV 53 1,BI 54 .lss 52 53]).seq (C.cond (.t 54) (C.ops [MV 55 0,MV 56 7,MV 57 9,
 MV 58 1,MV 59 2,ON 60 (.call 148 false) [.t 55,.t 56,.t 57,.t 58,.t 59]]) C.skip))).seq (C.ops [MV 61 6,BC 62 .mul 61 (i6 2),MV 6
 62])))))).loop)))))
theorem qpN:qJ Tryz.prog 120 63 0 [] qqA:=fi Tryz.f120 [] qt [] (by kernel_rfl) (by kernel_rfl) (by kernel_rfl) (by kernel_rfl)
def qtK:C:=
 ((C.ops [MC 2 (i6 0)]).seq ((C.ops [MC 3 (i6 0)]).seq (((C.ops [MV 6 0,O1 7 .len 6,MC 8 (i6 0)]).seq (C.block 0 ((C.ops [BI 9 .lss 8 7]).seq ((C.cond (.t 9) C.skip (C.exit
 0)).seq ((C.block 1 ((C.ops [O2 10 (.idxA 1) 6 8,LD 11 10,MV 5 11]).seq ((C.ops [MV 12 5,MV 13 3,BI 14 .neq 12 13]).seq (C.cond (.t 14) ((C.ops [MV 15 5,MV 2 15]).seq C.ret)
 C.skip)))).seq (C.ops [BC 16 .add 8 (i6 1),MV 8 16])))).loop)).seq ((C.ops [MV 17 3,MV 2 17]).seq
 C.ret))))
theorem quP:qJ Tryz.prog 121 18 0 [RV.tmp 2] qtK:=fi Tryz.f121 [] qt [] (by kernel_rfl) (by kernel_rfl) (by kernel_rfl) (by kernel_rfl)
def qm2:C:=
 ((C.ops [MC 4 (i6 0)]).seq ((C.ops [MV 7 0,O1 8 (.call 86 true) 7,MV 5 8]).seq ((C.ops [MV 9 1,O1 10 (.call 86 true) 9,MV 6 10]).seq (((C.ops [MV 11 5]).seq (C.cond (.t 11)
 (((C.ops [MV 12 6]).seq (C.cond (.t 12) ((C.ops [MC 4 (i6 0)]).seq C.ret) C.skip)).seq ((C.ops [MC 4 (i6 (-1))]).seq C.ret)) C.skip)).seq (((C.ops [MV 13 6]).seq (C.cond (.t 13)
 ((C.ops [MC 4 (i6 1)]).seq C.ret) C.skip)).seq (((C.ops [MV 14 0,MV 15 1,BI 16 .lss 14 15]).seq (C.cond (.t 16) ((C.ops [MC 4 (i6 (-1))]).seq C.ret) C.skip)).seq (((C.ops [MV 17
 0,MV 18 1,BI 19 .gtr 17 18]).seq (C.cond (.t 19) ((C.ops [MC 4 (i6 1)]).seq C.ret) C.skip)).seq ((C.ops [MC 4 (i6 0)]).seq
 C.ret))))))))
theorem qkc:qJ Tryz.prog 122 20 0 [RV.tmp 4] qm2:=fi Tryz.f122 [] qt [] (by kernel_rfl) (by kernel_rfl) (by kernel_rfl) (by kernel_rfl)
def qqB:C:=
 ((C.ops [O1 1 (.box 0 151) 0,MC 2 (i6 0)]).seq (((C.ops [O1 3 (.fldA 0) 1,LD 4 3,O1 5 (.call 151 true) 4,O1 6 (.un UnOp.not) 5,MV 7 6,P1 8 7 false (.fldA 1) 1,P1 9 7 false
 (.load none) 8,PC 10 7 false (.bin .neq) 9 (.str []),MG 11 7 false 10,P1 12 11 true (.fldA 1) 1,P1 13 11 true (.load none) 12,P1 14 11 true (.call 151 true) 13,P1 15 11 true
 (.un UnOp.not) 14,QF 16 7 false 11 15,PT 17 7 16]).seq (C.cond (.t 17) ((C.ops [MC 2 (i6 11)]).seq C.ret) C.skip)).seq (((C.ops [O1 18 (.fldA 2) 1,LD 19 18,BC 20 .lss 19 (i6
 0),MV 21 20,P1 22 21 false (.fldA 2) 1,P1 23 21 false (.load none) 22,PC 24 21 false (.bin .gtr) 23 (i6 65536),PT 25 21 24]).seq (C.cond (.t 25) ((C.ops [MC 2 (i6 2)]).seq
 C.ret) C.skip)).seq ((C.ops [MC 2 (i6 0)]).seq
 C.ret))))
theorem qpO:qJ Tryz.prog 125 26 1 [RV.tmp 2] qqB:=fi Tryz.f125 [1] qt [] (by kernel_rfl) (by kernel_rfl) (by kernel_rfl) (by kernel_rfl)
def qqC:C:=
 ((C.ops [MC 4 (.str []),MC 5 (.bool false)]).seq ((C.ops [MV 6 0,MV 7 1,O2 8 (.call 152 true) 6 7,O1 9 (.ext 0) 8,O1 10 (.ext 1) 8,MV 4 9,MV 5 10]).seq
 C.ret))
theorem qpP:qJ Tryz.prog 126 11 0 [RV.tmp 4,RV.tmp 5] qqC:=fi Tryz.f126 [] qt [] (by kernel_rfl) (by kernel_rfl) (by kernel_rfl) (by kernel_rfl)
theorem quS:qJ Tryz.prog 128 9 0 [RV.tmp 4] (cCT 154):=fi Tryz.f128 [] qt [] (by kernel_rfl) (by kernel_rfl) (by kernel_rfl) (by kernel_rfl)
def qtN:C:=
 ((C.ops [MC 2 (.bool false)]).seq ((C.ops [MV 3 0,BC 4 .gtr 3 (i6 1),MV 2 4]).seq
 C.ret))
theorem quT:qJ Tryz.prog 129 5 0 [RV.tmp 2] qtN:=fi Tryz.f129 [] qt [] (by kernel_rfl) (by kernel_rfl) (by kernel_rfl) (by kernel_rfl)
def qtP:C:=
 ((C.ops [LD 7 1,O1 8 .len 7,ON 9 (.bin .shl) [.c (.int .u64 1),.t 8],MC 10 (.int .u64 0)]).seq (C.block 0 ((C.ops [BI 11 .lss 10 9]).seq ((C.cond (.t 11) C.skip (C.exit 0)).seq
 ((C.block 1 ((C.ops [MV 12 10,MV 3 12]).seq ((C.ops [MC 4 (.int .u64 0)]).seq (((C.ops [LD 13 1,O1 14 .len 13,MC 15 (i6 0)]).seq (C.block 2 ((C.ops [BI 16 .lss 15 14]).seq
 ((C.cond (.t 16) C.skip (C.exit 2)).seq ((C.block 3 ((C.ops [MV 17 15,O2 18 (.idxA 1) 13 15,LD 19 18,MV 5 17,MV 6 19]).seq ((C.ops [MV 20 3,MV 21 5,BI 22 .shr 20 21,BC 23
 .and 22 (.int .u64 1),BC 24 .eql 23 (.int .u64 1)]).seq (C.cond (.t 24) (C.ops [MV 25 4,MV 26 6,BI 27 .or 25 26,MV 4 27]) C.skip)))).seq (C.ops [BC 28 .add 15 (i6 1),MV 15
 28])))).loop)).seq ((C.ops [MV 29 0,MV 30 3,MV 31 4,ON 32 .callv [.t 29,.t 30,.t 31],O1 33 (.un UnOp.not) 32]).seq (C.cond (.t 33) C.ret C.skip)))))).seq (C.ops [BC 34 .add
 10 (.int .u64 1),MV 10
 34])))).loop))
theorem quU:qJ Tryz.prog 130 35 0 [] qtP:=fi Tryz.f130 [] qt [] (by kernel_rfl) (by kernel_rfl) (by kernel_rfl) (by kernel_rfl)
def qtQ:C:=
 ((C.ops [MC 2 (i6 0)]).seq (((C.ops [MC 3 (i6 0)]).seq (C.block 0 (((C.ops [MV 4 3,MV 5 0,O1 6 .len 5,BI 7 .lss 4 6]).seq (C.cond (.t 7) C.skip (C.exit 0))).seq ((C.block 1
 (((C.ops [MV 10 0,MV 11 3,O2 12 (.idxA 1) 10 11,LD 13 12,BC 14 .lss 13 (i6 0),MV 15 14,MG 16 15 false 0,MG 17 15 false 3,P2 18 15 false (.idxA 1) 16 17,P1 19 15 false
 (.load none) 18,PC 20 15 false (.bin .gtr) 19 (i6 63),PT 21 15 20]).seq (C.cond (.t 21) ((C.ops [MC 2 (i6 2)]).seq C.ret) C.skip)).seq ((C.ops [MV 22 3,BC 23 .gtr 22 (i6 0),MV
 24 23,MG 25 24 true 0,MG 26 24 true 3,P2 27 24 true (.idxA 1) 25 26,P1 28 24 true (.load none) 27,MG 29 24 true 0,MG 30 24 true 3,PC 31 24 true (.bin .sub) 30 (i6 1),P2 32
 24 true (.idxA 1) 29 31,P1 33 24 true (.load none) 32,P2 34 24 true (.bin .leq) 28 33,PF 35 24 34]).seq (C.cond (.t 35) ((C.ops [MC 2 (i6 10)]).seq C.ret) C.skip)))).seq (C.ops
 [MV 8 3,BC 9 .add 8 (i6 1),MV 3 9]))).loop)).seq ((C.ops [MC 2 (i6 0)]).seq
 C.ret)))
theorem quV:qJ Tryz.prog 143 36 0 [RV.tmp 2] qtQ:=fi Tryz.f143 [] qt [] (by kernel_rfl) (by kernel_rfl) (by kernel_rfl) (by kernel_rfl)
def qtR:C:=
 ((C.ops [MC 4 (.bool false)]).seq (((C.ops [MC 5 (i6 0)]).seq (C.block 0 (((C.ops [MV 6 5,MV 7 0,O1 8 .len 7,BI 9 .lss 6 8]).seq (C.cond (.t 9) C.skip (C.exit 0))).seq ((C.block
 1 ((C.ops [MV 12 0,MV 13 5,O2 14 (.idxA 1) 12 13,LD 15 14,O1 16 .slen 15,BC 17 .gtr 16 (i6 20)]).seq (C.cond (.t 17) ((C.ops [MC 4 (.bool true)]).seq C.ret) C.skip))).seq
 (C.ops [MV 10 5,BC 11 .add 10 (i6 1),MV 5 11]))).loop)).seq ((C.ops [MV 18 0,O1 19 .len 18,MV 20 1,BI 21 .gtr 19 20,MV 4 21]).seq
 C.ret)))
theorem quW:qJ Tryz.prog 144 22 0 [RV.tmp 4] qtR:=fi Tryz.f144 [] qt [] (by kernel_rfl) (by kernel_rfl) (by kernel_rfl) (by kernel_rfl)
def qqD:C:=
 ((C.ops [O1 1 (.box 0 151) 0,MC 2 (i6 0)]).seq ((C.block 0 ((C.ops [O1 4 (.fldA 0) 1,LD 5 4,O1 6 (.call 160 true) 5,O1 7 (.un UnOp.not) 6,MV 8 7,P1 9 8 false (.fldA 1) 1,P1
 10 8 false (.load none) 9,PC 11 8 false (.bin .neq) 10 (.str []),MG 12 8 false 11,P1 13 12 true (.fldA 1) 1,P1 14 12 true (.load none) 13,P1 15 12 true (.call 160 true) 14,P1
 16 12 true (.un UnOp.not) 15,QF 17 8 false 12 16,PT 18 8 17,MV 3 18]).seq (C.cond (.t 3) ((C.ops [MC 2 (i6 11)]).seq C.ret) ((C.ops [O1 20 (.fldA 2) 1,LD 21 20,BC 22 .lss 21
 (i6 0),MV 23 22,P1 24 23 false (.fldA 2) 1,P1 25 23 false (.load none) 24,PC 26 23 false (.bin .gtr) 25 (i6 65536),PT 27 23 26,MV 19 27]).seq (C.cond (.t 19) ((C.ops [MC 2
 (i6 2)]).seq C.ret) C.skip))))).seq ((C.ops [MC 2 (i6 0)]).seq
 C.ret)))
theorem qpQ:qJ Tryz.prog 145 28 1 [RV.tmp 2] qqD:=fi Tryz.f145 [1] qt [] (by kernel_rfl) (by kernel_rfl) (by kernel_rfl) (by kernel_rfl)
theorem quX:qJ Tryz.prog 146 19 0 [RV.tmp 4] (cIF 2 (some 2)):=fi Tryz.f146 [] qt [] (by kernel_rfl) (by kernel_rfl) (by kernel_rfl) (by kernel_rfl)
def qgP:C:=
 ((C.ops [MC 2 (.bool false)]).seq (((C.ops [MV 4 0,O1 5 (.call 123 true) 4]).seq (C.cond (.t 5) ((C.ops [MC 2 (.bool true)]).seq C.ret) C.skip)).seq ((C.ops [MC 3 (i6 8)]).seq
 (((C.ops [MV 6 0,O1 7 .slen 6,BC 8 .gtr 7 (i6 1)]).seq (C.cond (.t 8) (C.ops [MC 3 (i6 2)]) C.skip)).seq ((C.ops [MV 9 0,MV 10 0,MV 11 3,⟨some 12,none,.build [.str [],.str
 [],.str [],i6 0,i6 0,.str []] [(0,1),(1,1),(4,1)],[.t 9,.t 10,.t 11]⟩,O1 13 (.call 163 true) 12,BC 14 .eql 13 (i6 0),MV 2 14]).seq
 C.ret)))))
theorem qdZ:qJ Tryz.prog 151 15 0 [RV.tmp 2] qgP:=fi Tryz.f151 [] qt [] (by kernel_rfl) (by kernel_rfl) (by kernel_rfl) (by kernel_rfl)
def qjm:C:=
 ((C.ops [MC 4 (.str []),MC 5 (.bool false)]).seq (((C.ops [MV 6 0,MV 7 1,O2 8 (.call 164 true) 6 7,O1 9 (.un UnOp.not) 8]).seq (C.cond (.t 9) ((C.ops [MV 10 0,MV 4 10,MC 5
 (.bool false)]).seq C.ret) C.skip)).seq ((C.ops [MV 11 0,MV 12 0,O1 13 .slen 12,MV 14 1,O1 15 .slen 14,BI 16 .sub 13 15,O2 17 (.sslc false true) 11 16,MV 4 17,MC 5 (.bool
 true)]).seq
 C.ret)))
theorem qf6:qJ Tryz.prog 152 18 0 [RV.tmp 4,RV.tmp 5] qjm:=fi Tryz.f152 [] qt [] (by kernel_rfl) (by kernel_rfl) (by kernel_rfl) (by kernel_rfl)
theorem qu1:qJ Tryz.prog 154 19 0 [RV.tmp 4] (cIF 1 none):=fi Tryz.f154 [] qt [] (by kernel_rfl) (by kernel_rfl) (by kernel_rfl) (by kernel_rfl)
def qm3:C:=
 ((C.ops [MC 2 (.bool false)]).seq (((C.ops [MV 9 0,O1 10 (.call 167 true) 9]).seq (C.cond (.t 10) ((C.ops [MC 2 (.bool true)]).seq C.ret) C.skip)).seq (((C.ops [MV 11 0,O1 12
 .slen 11,BC 13 .eql 12 (i6 1)]).seq (C.cond (.t 13) ((C.ops [MV 14 0,OC 15 .sidx 14 (i6 0),O1 16 (.call 153 true) 15,MV 3 16]).seq ((C.ops [MV 17 3,BC 18 .eql 17 (i6 5),MV 19
 18,MG 20 19 false 3,PC 21 19 false (.bin .eql) 20 (i6 4),PT 22 19 21,MV 2 22]).seq C.ret)) C.skip)).seq ((C.ops [MV 24 0,OC 25 (.call 168 true) 24 (.str [91]),MV 23 25,O1 26
 (.ext 0) 23,O1 27 (.ext 1) 23,MV 4 26,MV 5 27]).seq ((C.ops [MV 29 4,OC 30 (.call 126 true) 29 (.str [93]),MV 28 30,O1 31 (.ext 0) 28,O1 32 (.ext 1) 28,MV 4 31,MV 6
 32]).seq ((C.ops [MV 34 4,O1 35 (.call 169 true) 34,MV 33 35,O1 36 (.ext 0) 33,O1 37 (.ext 1) 33,MV 7 36,MV 8 37]).seq ((C.ops [MV 38 5,MV 39 38,MG 40 39 true 6,PF 41 39
 40,MV 42 41,MG 43 42 true 8,PF 44 42 43,MV 45 44,MG 46 45 true 7,PC 47 45 true (.bin .leq) 46 (i6 64),PF 48 45 47,MV 2 48]).seq
 C.ret)))))))
theorem qkd:qJ Tryz.prog 160 49 0 [RV.tmp 2] qm3:=fi Tryz.f160 [] qt [] (by kernel_rfl) (by kernel_rfl) (by kernel_rfl) (by kernel_rfl)
def qeS:C:=
 ((C.ops [O1 1 (.box 0 185) 0,MC 2 (i6 0)]).seq (((C.ops [O1 6 (.fldA 4) 1,LD 7 6,BC 8 .lss 7 (i6 0),MV 9 8,P1 10 9 false (.fldA 4) 1,P1 11 9 false (.load none) 10,PC 12 9
 false (.bin .gtr) 11 (i6 31),PT 13 9 12]).seq (C.cond (.t 13) ((C.ops [MC 2 (i6 2)]).seq C.ret) C.skip)).seq ((C.ops [O1 14 (.load (some 6)) 1,OC 15 (.call 171 true) 14 (i6 2),
 O1 16 (.load (some 6)) 1,OC 17 (.call 171 true) 16 (i6 8),MV 3 15,MV 4 17]).seq (((C.ops [MV 18 3,MV 19 18,MG 20 19 true 4,PF 21 19 20]).seq (C.cond (.t 21) ((C.ops [MC 2 (i6
 8)]).seq C.ret) C.skip)).seq ((C.block 0 ((C.ops [MV 51 3,MV 50 51]).seq (C.cond (.t 50) ((C.ops [O1 52 (.fldA 0) 1,LD 53 52,O1 54 (.call 172 true) 53,O1 55 (.un UnOp.not) 54,
 MV 56 55,P1 57 56 false (.fldA 1) 1,P1 58 56 false (.load none) 57,P1 59 56 false (.fldA 0) 1,P1 60 56 false (.load none) 59,P2 61 56 false (.bin .neq) 58 60,PT 62 56
 61]).seq (C.cond (.t 62) ((C.ops [MC 2 (i6 11)]).seq C.ret) C.skip)) ((C.ops [MV 64 4,MV 63 64]).seq (C.cond (.t 63) ((C.ops [O1 65 (.fldA 0) 1,LD 66 65,O1 67 .slen 66,BC 68
 .neq 67 (i6 1),MV 69 68,P1 70 69 false (.fldA 0) 1,P1 71 69 false (.load none) 70,PC 72 69 false .sidx 71 (i6 0),P1 73 69 false (.call 150 true) 72,PC 74 69 false (.bin .neq)
 73 (i6 5),MG 75 69 false 74,P1 76 75 true (.fldA 0) 1,P1 77 75 true (.load none) 76,PC 78 75 true .sidx 77 (i6 0),P1 79 75 true (.call 150 true) 78,PC 80 75 true (.bin .neq)
 79 (i6 4),QF 81 69 false 75 80,PT 82 69 81,MV 83 82,P1 84 83 false (.fldA 1) 1,P1 85 83 false (.load none) 84,P1 86 83 false (.fldA 0) 1,P1 87 83 false (.load none) 86,P2
 88 83 false (.bin .neq) 85 87,PT 89 83 88]).seq (C.cond (.t 89) ((C.ops [MC 2 (i6 11)]).seq C.ret) C.skip)) (((C.ops [O1 22 (.fldA 0) 1,LD 23 22,O1 24 (.call 123 true) 23,O1 25
 (.un UnOp.not) 24,MV 26 25,P1 27 26 false (.fldA 1) 1,P1 28 26 false (.load none) 27,PC 29 26 false (.bin .eql) 28 (.str []),PT 30 26 29,MV 31 30,P1 32 31 false (.fldA 1) 1,
 P1 33 31 false (.load none) 32,P1 34 31 false .slen 33,PC 35 31 false (.bin .gtr) 34 (i6 64),PT 36 31 35]).seq (C.cond (.t 36) ((C.ops [MC 2 (i6 11)]).seq C.ret) C.skip)).seq
 ((C.ops [MC 5 (i6 0)]).seq (C.block 1 (((C.ops [MV 37 5,O1 38 (.fldA 1) 1,LD 39 38,O1 40 .slen 39,BI 41 .lss 37 40]).seq (C.cond (.t 41) C.skip (C.exit 1))).seq ((C.block 2
 ((C.ops [O1 44 (.fldA 1) 1,LD 45 44,MV 46 5,O2 47 .sidx 45 46,O1 48 (.call 173 true) 47,O1 49 (.un UnOp.not) 48]).seq (C.cond (.t 49) ((C.ops [MC 2 (i6 11)]).seq C.ret)
 C.skip))).seq (C.ops [MV 42 5,BC 43 .add 42 (i6 1),MV 5 43]))).loop)))))))).seq (((C.ops [O1 90 (.fldA 2) 1,O1 91 (.fldA 1) 90,LD 92 91,BC 93 .lss 92 (i6 0)]).seq (C.cond (.t
 93) ((C.ops [MC 2 (i6 2)]).seq C.ret) C.skip)).seq (((C.ops [O1 94 (.fldA 2) 1,O1 95 (.fldA 0) 94,LD 96 95,O1 97 (.call 174 true) 96,O1 98 (.un UnOp.not) 97,MV 99 98,P1 100
 99 false (.fldA 5) 1,P1 101 99 false (.load none) 100,P1 102 99 false (.call 174 true) 101,P1 103 99 false (.un UnOp.not) 102,PT 104 99 103]).seq (C.cond (.t 104) ((C.ops [MC 2
 (i6 14)]).seq C.ret) C.skip)).seq ((C.ops [MC 2 (i6 0)]).seq
 C.ret))))))))
theorem qcJ:qJ Tryz.prog 163 105 1 [RV.tmp 2] qeS:=fi Tryz.f163 [1] qt [] (by kernel_rfl) (by kernel_rfl) (by kernel_rfl) (by kernel_rfl)
def qtW:C:=
 ((C.ops [MC 4 (.str []),MC 5 (.bool false)]).seq ((C.ops [MV 6 0,MV 7 1,O2 8 (.call 179 true) 6 7,O1 9 (.ext 0) 8,O1 10 (.ext 1) 8,MV 4 9,MV 5 10]).seq
 C.ret))
theorem qu4:qJ Tryz.prog 168 11 0 [RV.tmp 4,RV.tmp 5] qtW:=fi Tryz.f168 [] qt [] (by kernel_rfl) (by kernel_rfl) (by kernel_rfl) (by kernel_rfl)
def qgQ:C:=
 ((C.ops [MC 2 (i6 0),MC 3 (.bool false)]).seq ((C.ops [MV 7 0,O1 8 (.call 180 true) 7,MV 6 8,O1 9 (.ext 0) 6,O1 10 (.ext 1) 6,MV 4 9,MV 5 10]).seq ((C.ops [MV 11 4,MV 12 5,
 O1 13 (.isnil .iface false) 12,MV 14 13,MG 15 14 true 4,PC 16 14 true (.bin .geq) 15 (i6 1),PF 17 14 16,MV 18 17,MG 19 18 true 0,P1 20 18 true .slen 19,PC 21 18 true (.bin
 .leq) 20 (i6 9),PF 22 18 21,MV 23 22,MG 24 23 true 4,P1 25 23 true (.call 181 true) 24,MG 26 23 true 0,P2 27 23 true (.bin .eql) 25 26,PF 28 23 27,MV 2 11,MV 3 28]).seq
 C.ret)))
theorem qd0:qJ Tryz.prog 169 29 0 [RV.tmp 2,RV.tmp 3] qgQ:=fi Tryz.f169 [] qt [] (by kernel_rfl) (by kernel_rfl) (by kernel_rfl) (by kernel_rfl)
def qtY:C:=
 ((C.ops [O1 2 (.box 0 185) 0,MC 4 (.bool false)]).seq ((C.ops [O1 5 (.fldA 4) 2,LD 6 5,MV 7 1,BI 8 .quo 6 7,BC 9 .rem 8 (i6 2),BC 10 .eql 9 (i6 1),MV 4 10]).seq
 C.ret))
theorem qu5:qJ Tryz.prog 171 11 1 [RV.tmp 4] qtY:=fi Tryz.f171 [2] qt [] (by kernel_rfl) (by kernel_rfl) (by kernel_rfl) (by kernel_rfl)
def qtZ:C:=
 ((C.ops [MC 2 (.bool false)]).seq (((C.ops [MC 3 (i6 1)]).seq (C.block 0 (((C.ops [MV 4 3,BC 5 .leq 4 (i6 64)]).seq (C.cond (.t 5) C.skip (C.exit 0))).seq ((C.block 1 ((C.ops [MV
 8 0,MV 9 3,O1 10 (.call 181 true) 9,ON 11 (.bin .add) [.c (.str [91]),.t 10],BC 12 .add 11 (.str [93]),BI 13 .eql 8 12]).seq (C.cond (.t 13) ((C.ops [MC 2 (.bool true)]).seq
 C.ret) C.skip))).seq (C.ops [MV 6 3,BC 7 .add 6 (i6 1),MV 3 7]))).loop)).seq ((C.ops [MC 2 (.bool false)]).seq
 C.ret)))
theorem qu6:qJ Tryz.prog 172 14 0 [RV.tmp 2] qtZ:=fi Tryz.f172 [] qt [] (by kernel_rfl) (by kernel_rfl) (by kernel_rfl) (by kernel_rfl)
def qt0:C:=
 ((C.ops [MC 2 (.bool false)]).seq ((C.ops [MV 3 0,BC 4 .eql 3 (.str []),MV 5 4,MG 6 5 false 0,P1 7 5 false (.call 82 true) 6,PT 8 5 7,MV 2 8]).seq
 C.ret))
theorem qu7:qJ Tryz.prog 174 9 0 [RV.tmp 2] qt0:=fi Tryz.f174 [] qt [] (by kernel_rfl) (by kernel_rfl) (by kernel_rfl) (by kernel_rfl)
def qqH:C:=
 ((C.ops [MC 4 (.str []),MC 5 (.bool false)]).seq (((C.ops [MV 6 0,MV 7 1,O2 8 (.call 185 true) 6 7,O1 9 (.un UnOp.not) 8]).seq (C.cond (.t 9) ((C.ops [MV 10 0,MV 4 10,MC 5
 (.bool false)]).seq C.ret) C.skip)).seq ((C.ops [MV 11 0,MV 12 1,O1 13 .slen 12,O2 14 (.sslc true false) 11 13,MV 4 14,MC 5 (.bool true)]).seq
 C.ret)))
theorem qpU:qJ Tryz.prog 179 15 0 [RV.tmp 4,RV.tmp 5] qqH:=fi Tryz.f179 [] qt [] (by kernel_rfl) (by kernel_rfl) (by kernel_rfl) (by kernel_rfl)
end
section
open Go Go.Proofs AF HY LN
namespace RC
abbrev Str:=List UInt8
def ql (L:List Int):AV:= .sl L.length fun i=> [.int .i64 (L.getD i 0)]
def qfw (s:Str):Bool:=decide (1≤s.length)&&decide (s.drop (s.length-1)= [42])
def qoT (s:Str):Bool:=if qfw s=true then jV (s.take (s.length-1))&&decide (s.length≤16) else jV s
theorem qbD:((1:Nat):Int)=1:=rfl
theorem qpZ (s:Str) (h:List AObj) (hs:s.length≤1000000000):qm Tryz.prog 164 [.str s,.str [42]] h (.bool (qfw s)) h:=by
 unfold qfw
 by_cases g:1≤s.length
 ·have k1:((1:Int)≤s.length)=True:=eq_true (by omega)
  have k2:((s.length:Int)-1).toNat=s.length-1:=by omega
  have k3:(0≤(s.length:Int)-1)=True:=eq_true (by omega)
  have k4:((s.length:Int)-1≤s.length)=True:=eq_true (by omega)
  have k5:List.take (s.length-(s.length-1)) (List.drop (s.length-1) s)=s.drop (s.length-1):=List.take_of_length_le (by simp)
  rw [decide_eq_true g]
  refine acO qf7 ?_
  simp (disch:=omega) only [qjn,List.replicate,qbD,k1,k2,k3,k4,k5,go_sem]
  repeat' first
   |((first|apply qc|apply qb);exact rvk;simp only [go_sem];first|exact VLe.refl _|apply qd|apply qa|apply qe|skip)
   |with_reducible first|refine And.intro ?_ ?_|intro _
  all_goals try exact clz
 ·have k1:((1:Int)≤s.length)=False:=eq_false (by omega)
  rw [decide_eq_false g]
  refine acO qf7 ?_
  simp (disch:=omega) only [qjn,List.replicate,qbD,k1,go_sem]
  repeat' first
   |((first|apply qc|apply qb);exact rvk;simp only [go_sem];first|exact VLe.refl _|apply qd|apply qa|apply qe|skip)
   |with_reducible first|refine And.intro ?_ ?_|intro _
  all_goals try exact clz
theorem qqW (s:Str) (h:List AObj) (hs:s.length≤1000000000):qm Tryz.prog 152 [.str s,.str [42]] h (.tup [.str (if qfw s=true then s.take (s.length-1) else s),.bool (qfw s)]) h:=by
 have c1:=fun h=>qpZ s h hs
 cases g:qfw s with
 |true=>
  rw [g]at c1
  have g1:1≤s.length:=by unfold qfw at g;simp at g;omega
  have k2:((s.length:Int)-1).toNat=s.length-1:=by omega
  have k3:(0≤(s.length:Int)-1)=True:=eq_true (by omega)
  have k4:((s.length:Int)-1≤s.length)=True:=eq_true (by omega)
  refine acO qf6 ?_
  simp (disch:=omega) only [qjm,List.replicate,qbD,k2,k3,k4,go_sem]
  repeat' first
   |((first|refine cA (c1 _) ?_ ?_|refine cG (fun e=>c1 _) ?_ ?_|refine cU (fun _=>c1 _) ?_ ?_);(next=>exact flk);simp (disch:=omega) only [qbD,k2,k3,k4,Nat.sub_zero,go_sem])
   |((first|apply qc|apply qb);exact rvk;simp only [go_sem];first|exact VLe.refl _|apply qd|apply qa|apply qe|skip)
   |with_reducible first|refine And.intro ?_ ?_|intro _
  all_goals try exact clz
 |false=>
  rw [g]at c1
  refine acO qf6 ?_
  simp (disch:=omega) only [qjm,List.replicate,go_sem]
  repeat' first
   |((first|refine cA (c1 _) ?_ ?_|refine cG (fun e=>c1 _) ?_ ?_|refine cU (fun _=>c1 _) ?_ ?_);(next=>exact flk);simp (disch:=omega) only [go_sem])
   |((first|apply qc|apply qb);exact rvk;simp only [go_sem];first|exact VLe.refl _|apply qd|apply qa|apply qe|skip)
   |with_reducible first|refine And.intro ?_ ?_|intro _
  all_goals try exact clz
theorem quk (s:Str) (h:List AObj) (hs:s.length≤1000000000):qm Tryz.prog 126 [.str s,.str [42]] h (.tup [.str (if qfw s=true then s.take (s.length-1) else s),.bool (qfw s)]) h:=by
 have c1:=fun h=>qqW s h hs
 refine acO qpP ?_
 simp (disch:=omega) only [qqC,List.replicate,go_sem]
 repeat' first
  |((first|refine cA (c1 _) ?_ ?_|refine cG (fun e=>c1 _) ?_ ?_|refine cU (fun _=>c1 _) ?_ ?_);(next=>exact flk);simp (disch:=omega) only [go_sem])
  |((first|apply qc|apply qb);exact rvk;simp only [go_sem];first|exact VLe.refl _|apply qd|apply qa|apply qe|skip)
  |with_reducible first|refine And.intro ?_ ?_|intro _
 all_goals try exact clz
theorem qyU (s:Str) (h:List AObj) (hs:s.length≤1000000000):qm Tryz.prog 87 [.str s] h (.bool (qoT s)) h:=by
 have c1:=fun h=>quk s h hs
 unfold qoT
 cases g:qfw s with
 |true=>
  rw [g]at c1
  simp only [if_true]at c1
  have c2:=fun h=>t44 (s.take (s.length-1)) h (by simp;omega)
  rw [if_pos rfl]
  cases g2:jV (s.take (s.length-1))with
  |true=>
   rw [g2]at c2
   have k7:decide ((s.length:Int)≤16)=decide (s.length≤16):=decide_eq_decide.2 (by omega)
   refine acO qnL ?_
   simp (disch:=omega) only [qt8,List.replicate,go_sem]
   repeat' first
    |((first|refine cA (c1 _) ?_ ?_|refine cG (fun e=>c1 _) ?_ ?_|refine cA (c2 _) ?_ ?_|refine cG (fun e=>c2 _) ?_ ?_|refine cU (fun _=>c1 _) ?_ ?_|refine cU (fun _=>c2 _) ?_ ?_);(next=>exact flk);simp (disch:=omega) only [k7,go_sem])
    |((first|apply qc|apply qb);exact rvk;simp only [go_sem];first|exact VLe.refl _|apply qd|apply qa|apply qe|skip)
    |with_reducible first|refine And.intro ?_ ?_|intro _
   all_goals try exact clz
  |false=>
   rw [g2]at c2
   refine acO qnL ?_
   simp (disch:=omega) only [qt8,List.replicate,go_sem]
   repeat' first
    |((first|refine cA (c1 _) ?_ ?_|refine cG (fun e=>c1 _) ?_ ?_|refine cA (c2 _) ?_ ?_|refine cG (fun e=>c2 _) ?_ ?_|refine cU (fun _=>c1 _) ?_ ?_|refine cU (fun _=>c2 _) ?_ ?_);(next=>exact flk);simp (disch:=omega) only [go_sem])
    |((first|apply qc|apply qb);exact rvk;simp only [go_sem];first|exact VLe.refl _|apply qd|apply qa|apply qe|skip)
    |with_reducible first|refine And.intro ?_ ?_|intro _
   all_goals try exact clz
 |false=>
  rw [g]at c1
  rw [if_neg (by simp)]at c1 ⊢
  have c2:=fun h=>t44 s h hs
  cases g2:jV s with
  |true=>
   rw [g2]at c2
   refine acO qnL ?_
   simp (disch:=omega) only [qt8,List.replicate,go_sem]
   repeat' first
    |((first|refine cA (c1 _) ?_ ?_|refine cG (fun e=>c1 _) ?_ ?_|refine cA (c2 _) ?_ ?_|refine cG (fun e=>c2 _) ?_ ?_|refine cU (fun _=>c1 _) ?_ ?_|refine cU (fun _=>c2 _) ?_ ?_);(next=>exact flk);simp (disch:=omega) only [go_sem])
    |((first|apply qc|apply qb);exact rvk;simp only [go_sem];first|exact VLe.refl _|apply qd|apply qa|apply qe|skip)
    |with_reducible first|refine And.intro ?_ ?_|intro _
   all_goals try exact clz
  |false=>
   rw [g2]at c2
   refine acO qnL ?_
   simp (disch:=omega) only [qt8,List.replicate,go_sem]
   repeat' first
    |((first|refine cA (c1 _) ?_ ?_|refine cG (fun e=>c1 _) ?_ ?_|refine cA (c2 _) ?_ ?_|refine cG (fun e=>c2 _) ?_ ?_|refine cU (fun _=>c1 _) ?_ ?_|refine cU (fun _=>c2 _) ?_ ?_);(next=>exact flk);simp (disch:=omega) only [go_sem])
    |((first|apply qc|apply qb);exact rvk;simp only [go_sem];first|exact VLe.refl _|apply qd|apply qa|apply qe|skip)
    |with_reducible first|refine And.intro ?_ ?_|intro _
   all_goals try exact clz
theorem qo3 (s:Str) (h:1≤s.length):qfw s=decide (((s[s.length-1]?).getD 0).toNat=42):=by
 unfold qfw
 rw [decide_eq_true h,Bool.true_and]
 have e:s.drop (s.length-1)= [(s[s.length-1]?).getD 0]:=by
  rw [List.drop_eq_getElem_cons (show s.length-1<s.length by omega),qR (show s.length-1<s.length by omega),List.drop_eq_nil_of_le (by omega)]
  rfl
 rw [e]
 congr 1
 simp only [List.cons.injEq,and_true,eq_iff_iff]
 exact ⟨fun h=>by rw [h];rfl,fun h=>UInt8.toNat_inj.1 (by rw [h];rfl)⟩
theorem qyV (s:Str) (h:List AObj) (hs:s.length≤1000000000):qm Tryz.prog 81 [.str s] h (.bool (qoT s)) h:=by
 unfold qoT
 have c1:=fun h=>t53 s h hs
 by_cases g:1≤s.length
 ·rw [qo3 s g]
  have k0:((0:Int)<s.length)=True:=eq_true (by omega)
  have k2:((s.length:Int)-1).toNat=s.length-1:=by omega
  have k3:(0≤(s.length:Int)-1)=True:=eq_true (by omega)
  have k4:((s.length:Int)-1≤s.length)=True:=eq_true (by omega)
  have k5:((s.length:Int)-1<s.length)=True:=eq_true (by omega)
  obtain ⟨b,hb⟩: ∃b,b=(s[s.length-1]?).getD 0:=⟨_,rfl⟩
  have eb:=hb.symm
  rw [eb]
  have c2:=fun h=>t53 (s.take (s.length-1)) h (by simp;omega)
  by_cases g2:b.toNat=42
  ·have k6:((b.toNat:Int)=42)=True:=eq_true (by omega)
   rw [if_pos (by simpa using g2)]
   by_cases g3:s.length≤16
   ·have k7:((s.length:Int)≤16)=True:=eq_true (by omega)
    rw [decide_eq_true g3]
    refine acO qnK ?_
    simp (disch:=omega) only [qt7,List.replicate,k0,k2,k3,k4,k5,eb,k6,k7,go_sem]
    repeat' first
     |((first|refine cA (c2 _) ?_ ?_|refine cG (fun e=>c2 _) ?_ ?_|refine cU (fun _=>c2 _) ?_ ?_);(next=>exact flk);simp (disch:=omega) only [k0,k2,k3,k4,k5,eb,k6,k7,go_sem])
     |((first|apply qc|apply qb);exact rvk;simp only [go_sem];first|exact VLe.refl _|apply qd|apply qa|apply qe|skip)
     |with_reducible first|refine And.intro ?_ ?_|intro _
    all_goals try exact clz
   ·have k7:((s.length:Int)≤16)=False:=eq_false (by omega)
    rw [decide_eq_false g3]
    refine acO qnK ?_
    simp (disch:=omega) only [qt7,List.replicate,k0,k2,k3,k4,k5,eb,k6,k7,go_sem]
    repeat' first
     |(refine qo ( .bool false) ?_;simp (disch:=omega) only [k0,k2,k3,k4,k5,eb,k6,k7,go_sem])
     |((first|refine cA (c2 _) ?_ ?_|refine cG (fun e=>c2 _) ?_ ?_|refine cU (fun _=>c2 _) ?_ ?_);(next=>exact flk);simp (disch:=omega) only [k0,k2,k3,k4,k5,eb,k6,k7,go_sem])
     |((first|apply qc|apply qb);exact rvk;simp only [go_sem];first|exact VLe.refl _|apply qd|apply qa|apply qe|skip)
     |with_reducible first|refine And.intro ?_ ?_|intro _
    all_goals try exact clz
  ·have k6:((b.toNat:Int)=42)=False:=eq_false (by omega)
   rw [if_neg (by simpa using g2)]
   refine acO qnK ?_
   simp (disch:=omega) only [qt7,List.replicate,k0,k2,k3,k4,k5,eb,k6,go_sem]
   repeat' first
    |((first|refine cA (c1 _) ?_ ?_|refine cG (fun e=>c1 _) ?_ ?_|refine cU (fun _=>c1 _) ?_ ?_);(next=>exact flk);simp (disch:=omega) only [k0,k2,k3,k4,k5,eb,k6,go_sem])
    |((first|apply qc|apply qb);exact rvk;simp only [go_sem];first|exact VLe.refl _|apply qd|apply qa|apply qe|skip)
    |with_reducible first|refine And.intro ?_ ?_|intro _
   all_goals try exact clz
 ·have e:s= []:=List.eq_nil_of_length_eq_zero (by omega)
  subst e
  rw [if_neg (by decide)]
  refine acO qnK ?_
  simp (disch:=omega) only [qt7,List.replicate,go_sem]
  repeat' first
   |((first|refine cA (c1 _) ?_ ?_|refine cG (fun e=>c1 _) ?_ ?_|refine cU (fun _=>c1 _) ?_ ?_);(next=>exact flk);simp (disch:=omega) only [go_sem])
   |((first|apply qc|apply qb);exact rvk;simp only [go_sem];first|exact VLe.refl _|apply qd|apply qa|apply qe|skip)
   |with_reducible first|refine And.intro ?_ ?_|intro _
  all_goals try exact clz
end RC
end
section
open Go Go.Proofs AF HY LN
namespace RC
def qab (f:Nat→Int):Nat→Nat→Int
 |_,0=>0
 |i,k+1=>if f i≠0 then f i else qab f (i+1) k
theorem qd1 {f:Nat→Int} {n i:Nat} (hi:i≤n) (h: ∀j,j<i→f j=0):qab f 0 n=qab f i (n-i):=by
 induction i with
 |zero=>rfl
 |succ i ih=>
  rw [ih (by omega) (fun j hj=>h j (by omega)),show n-i=(n-(i+1))+1 by omega]
  simp only [qab,h i (by omega),ne_eq,not_true_eq_false,if_false]
theorem qP {f:Nat→Int} {n i:Nat} (hi:i<n) (h: ∀j,j<i→f j=0) (hp:f i≠0):qab f 0 n=f i:=by
 rw [qd1 (by omega) h,show n-i=(n-i-1)+1 by omega]
 simp only [qab]
 rw [if_pos hp]
theorem qC {f:Nat→Int} {n:Nat} (h: ∀j,j<n→f j=0):qab f 0 n=0:=by
 rw [qd1 (Nat.le_refl n) h,Nat.sub_self];rfl
theorem kg {f:Nat→Int} {n:Nat}:qab f 0 n=0↔ ∀j,j<n→f j=0:=by
 refine ⟨fun h=> ?_,qC⟩
 intro j
 induction j using Nat.strongRecOn with
 |_ j ih=>
  intro hj
  by_cases e:f j=0
  ·exact e
  ·rw [qP hj (fun k hk=>ih k hk (by omega)) e]at h;exact absurd h e
def qbE (b:Int) (l:List Int) (i:Nat):Int:=if l.getD i 0<0∨b≤l.getD i 0 then 2 else if 0<i∧l.getD i 0≤l.getD (i-1) 0 then 10 else 0
def qae (b:Int) (l:List Int):Int:=qab (qbE b l) 0 l.length
theorem qzW (l:List Int) (b:Int) (h:List AObj) (hl:l.length≤1000000000):qm Tryz.prog 92 [ql l,.int .i64 b] h (.int .i64 (qae b l)) h:=by
 obtain ⟨R,hR⟩: ∃R,R=qae b l:=⟨_,rfl⟩
 rw [←hR]
 unfold qae at hR
 refine acO qyv ?_
 simp (disch:=omega) only [qzI,List.replicate,ql,go_sem]
 repeat' first
  |((first|apply qc|apply qb);exact rvk;simp only [go_sem];first|exact VLe.refl _|apply qd|apply qa|apply qe|skip)
  |with_reducible first|refine And.intro ?_ ?_|intro _
 all_goals try exact clz
 refine qn (T:=fun i:Nat=>qI 33 [(0,ql l),(1,.int .i64 b),(7,ql l),(8,.int .i64 l.length),(9,.int .i64 i)]) (H:=fun _=>h) (inv:=fun i=>i≤l.length∧ ∀j,j<i→qbE b l j=0) (m:=fun i=>l.length-i) 0 ⟨Nat.zero_le _,fun j hj=>by omega⟩ (Wk.temps ?_) ?_
 ·(simp only [ql,List.replicate,go_sem,qj,qh,qg,qi];try (repeat' first|(with_reducible refine And.intro ?_ ?_)|(apply qd;omega)|(apply qa;rfl)|exact VLe.refl _))
 rintro i ⟨i1,i2⟩ K hK
 by_cases hi:i<l.length
 ·have k1:((i:Int)<l.length)=True:=eq_true (by omega)
  have hE:=qP (n:=l.length) hi i2
  rw [←hR]at hE
  unfold qbE at hE
  have hs:qbE b l i=if l.getD i 0<0∨b≤l.getD i 0 then 2 else if 0<i∧l.getD i 0≤l.getD (i-1) 0 then 10 else 0:=rfl
  obtain ⟨v,hv⟩: ∃v,v=l.getD i 0:=⟨_,rfl⟩
  obtain ⟨u,hu⟩: ∃u,u=l.getD (i-1) 0:=⟨_,rfl⟩
  have ev:=hv.symm
  have eu:=hu.symm
  rw [ev,eu]at hE hs
  by_cases g1:v<0
  ·have q1:(v<0)=True:=eq_true g1
   have hV:R=2:=by rw [hE]<;>rw [if_pos (.inl g1)];decide
   rw [hV]
   simp (disch:=omega) only [List.replicate,ql,k1,ev,q1,go_sem]
   repeat' first
    |(refine qo ( .bool false) ?_;simp (disch:=omega) only [ql,k1,ev,q1,go_sem])
    |((first|apply qc|apply qb);exact rvk;simp only [go_sem];first|exact VLe.refl _|apply qd|apply qa|apply qe|skip)
    |with_reducible first|refine And.intro ?_ ?_|intro _
   all_goals try exact clz
  have q1:(v<0)=False:=eq_false g1
  by_cases g2:b≤v
  ·have q2:(b≤v)=True:=eq_true g2
   have hV:R=2:=by rw [hE]<;>rw [if_pos (.inr g2)];decide
   rw [hV]
   simp (disch:=omega) only [List.replicate,ql,k1,ev,q1,q2,go_sem]
   repeat' first
    |((first|apply qc|apply qb);exact rvk;simp only [go_sem];first|exact VLe.refl _|apply qd|apply qa|apply qe|skip)
    |with_reducible first|refine And.intro ?_ ?_|intro _
   all_goals try exact clz
  have q2:(b≤v)=False:=eq_false g2
  rw [if_neg (by rintro (h|h)<;>contradiction)]at hE hs
  by_cases g3:0<i
  ·have q3:((0:Int)<i)=True:=eq_true (by omega)
   have q4:((i:Int)-1).toNat=i-1:=by omega
   have q5:(0≤(i:Int)-1)=True:=eq_true (by omega)
   have q6:((i:Int)-1<l.length)=True:=eq_true (by omega)
   by_cases g4:v≤u
   ·have q7:(v≤u)=True:=eq_true g4
    have hV:R=10:=by rw [hE]<;>rw [if_pos ⟨g3,g4⟩];decide
    rw [hV]
    simp (disch:=omega) only [List.replicate,ql,k1,ev,eu,q1,q2,q3,q4,q5,q6,q7,go_sem]
    repeat' first
     |((first|apply qc|apply qb);exact rvk;simp only [go_sem];first|exact VLe.refl _|apply qd|apply qa|apply qe|skip)
     |with_reducible first|refine And.intro ?_ ?_|intro _
    all_goals try exact clz
   ·have q7:(v≤u)=False:=eq_false g4
    rw [if_neg (fun hc=>g4 hc.2)]at hs
    simp (disch:=omega) only [List.replicate,ql,k1,ev,eu,q1,q2,q3,q4,q5,q6,q7,go_sem]
    repeat' first
     |((first|apply qc|apply qb);exact rvk;simp only [go_sem];first|exact VLe.refl _|apply qd|apply qa|apply qe|skip)
     |with_reducible first|refine And.intro ?_ ?_|intro _
    all_goals try exact clz
    refine hK _ _ (i+1) ⟨hi,fun j hj=> ?_⟩ (by omega) (Wk.temps ?_)
    ·by_cases e:j=i
     ·subst e;exact hs
     ·exact i2 j (by omega)
    ·(simp only [ql,List.replicate,go_sem,qj,qh,qg,qi];try (repeat' first|(with_reducible refine And.intro ?_ ?_)|(apply qd;omega)|(apply qa;rfl)|exact VLe.refl _))
  ·have q3:((0:Int)<i)=False:=eq_false (by omega)
   rw [if_neg (fun hc=>g3 hc.1)]at hs
   simp (disch:=omega) only [List.replicate,ql,k1,ev,q1,q2,q3,go_sem]
   repeat' first
    |(refine qo ( .bool false) ?_;simp (disch:=omega) only [ql,k1,ev,q1,q2,q3,go_sem])
    |((first|apply qc|apply qb);exact rvk;simp only [go_sem];first|exact VLe.refl _|apply qd|apply qa|apply qe|skip)
    |with_reducible first|refine And.intro ?_ ?_|intro _
   all_goals try exact clz
   refine hK _ _ (i+1) ⟨hi,fun j hj=> ?_⟩ (by omega) (Wk.temps ?_)
   ·by_cases e:j=i
    ·subst e;exact hs
    ·exact i2 j (by omega)
   ·(simp only [ql,List.replicate,go_sem,qj,qh,qg,qi];try (repeat' first|(with_reducible refine And.intro ?_ ?_)|(apply qd;omega)|(apply qa;rfl)|exact VLe.refl _))
 ·have k1:((i:Int)<l.length)=False:=eq_false (by omega)
  have hV:R=0:=by rw [hR,qC (fun j hj=>i2 j (by omega))]
  rw [hV]
  simp (disch:=omega) only [List.replicate,ql,k1,go_sem]
  repeat' first
   |((first|apply qc|apply qb);exact rvk;simp only [go_sem];first|exact VLe.refl _|apply qd|apply qa|apply qe|skip)
   |with_reducible first|refine And.intro ?_ ?_|intro _
  all_goals try exact clz
theorem qAS (l:List Int) (b:Int) (h:List AObj) (hl:l.length≤1000000000):qm Tryz.prog 83 [.int .i64 b,ql l] h (.int .i64 (qae b l)) h:=by
 obtain ⟨R,hR⟩: ∃R,R=qae b l:=⟨_,rfl⟩
 rw [←hR]
 unfold qae at hR
 refine acO qyq ?_
 simp (disch:=omega) only [qzF,List.replicate,ql,go_sem]
 repeat' first
  |((first|apply qc|apply qb);exact rvk;simp only [go_sem];first|exact VLe.refl _|apply qd|apply qa|apply qe|skip)
  |with_reducible first|refine And.intro ?_ ?_|intro _
 all_goals try exact clz
 refine qn (T:=fun i:Nat=>qI 39 [(0,.int .i64 b),(1,ql l),(5,.int .i64 i)]) (H:=fun _=>h) (inv:=fun i=>i≤l.length∧ ∀j,j<i→qbE b l j=0) (m:=fun i=>l.length-i) 0 ⟨Nat.zero_le _,fun j hj=>by omega⟩ (Wk.temps ?_) ?_
 ·(simp only [ql,List.replicate,go_sem,qj,qh,qg,qi];try (repeat' first|(with_reducible refine And.intro ?_ ?_)|(apply qd;omega)|(apply qa;rfl)|exact VLe.refl _))
 rintro i ⟨i1,i2⟩ K hK
 by_cases hi:i<l.length
 ·have k1:((i:Int)<l.length)=True:=eq_true (by omega)
  have hE:=qP (n:=l.length) hi i2
  rw [←hR]at hE
  unfold qbE at hE
  have hs:qbE b l i=if l.getD i 0<0∨b≤l.getD i 0 then 2 else if 0<i∧l.getD i 0≤l.getD (i-1) 0 then 10 else 0:=rfl
  obtain ⟨v,hv⟩: ∃v,v=l.getD i 0:=⟨_,rfl⟩
  obtain ⟨u,hu⟩: ∃u,u=l.getD (i-1) 0:=⟨_,rfl⟩
  have ev:=hv.symm
  have eu:=hu.symm
  rw [ev,eu]at hE hs
  by_cases g1:v<0
  ·have q1:(v<0)=True:=eq_true g1
   have hV:R=2:=by rw [hE]<;>rw [if_pos (.inl g1)];decide
   rw [hV]
   simp (disch:=omega) only [List.replicate,ql,k1,ev,q1,go_sem]
   repeat' first
    |(refine qo ( .bool false) ?_;simp (disch:=omega) only [ql,k1,ev,q1,go_sem])
    |((first|apply qc|apply qb);exact rvk;simp only [go_sem];first|exact VLe.refl _|apply qd|apply qa|apply qe|skip)
    |with_reducible first|refine And.intro ?_ ?_|intro _
   all_goals try exact clz
  have q1:(v<0)=False:=eq_false g1
  by_cases g2:b≤v
  ·have q2:(b≤v)=True:=eq_true g2
   have hV:R=2:=by rw [hE]<;>rw [if_pos (.inr g2)];decide
   rw [hV]
   simp (disch:=omega) only [List.replicate,ql,k1,ev,q1,q2,go_sem]
   repeat' first
    |((first|apply qc|apply qb);exact rvk;simp only [go_sem];first|exact VLe.refl _|apply qd|apply qa|apply qe|skip)
    |with_reducible first|refine And.intro ?_ ?_|intro _
   all_goals try exact clz
  have q2:(b≤v)=False:=eq_false g2
  rw [if_neg (by rintro (h|h)<;>contradiction)]at hE hs
  by_cases g3:0<i
  ·have q3:((0:Int)<i)=True:=eq_true (by omega)
   have q4:((i:Int)-1).toNat=i-1:=by omega
   have q5:(0≤(i:Int)-1)=True:=eq_true (by omega)
   have q6:((i:Int)-1<l.length)=True:=eq_true (by omega)
   by_cases g4:v≤u
   ·have q7:(v≤u)=True:=eq_true g4
    have hV:R=10:=by rw [hE]<;>rw [if_pos ⟨g3,g4⟩];decide
    rw [hV]
    simp (disch:=omega) only [List.replicate,ql,k1,ev,eu,q1,q2,q3,q4,q5,q6,q7,go_sem]
    repeat' first
     |((first|apply qc|apply qb);exact rvk;simp only [go_sem];first|exact VLe.refl _|apply qd|apply qa|apply qe|skip)
     |with_reducible first|refine And.intro ?_ ?_|intro _
    all_goals try exact clz
   ·have q7:(v≤u)=False:=eq_false g4
    rw [if_neg (fun hc=>g4 hc.2)]at hs
    simp (disch:=omega) only [List.replicate,ql,k1,ev,eu,q1,q2,q3,q4,q5,q6,q7,go_sem]
    repeat' first
     |((first|apply qc|apply qb);exact rvk;simp only [go_sem];first|exact VLe.refl _|apply qd|apply qa|apply qe|skip)
     |with_reducible first|refine And.intro ?_ ?_|intro _
    all_goals try exact clz
    refine hK _ _ (i+1) ⟨hi,fun j hj=> ?_⟩ (by omega) (Wk.temps ?_)
    ·by_cases e:j=i
     ·subst e;exact hs
     ·exact i2 j (by omega)
    ·(simp only [ql,List.replicate,go_sem,qj,qh,qg,qi];try (repeat' first|(with_reducible refine And.intro ?_ ?_)|(apply qd;omega)|(apply qa;rfl)|exact VLe.refl _))
  ·have q3:((0:Int)<i)=False:=eq_false (by omega)
   rw [if_neg (fun hc=>g3 hc.1)]at hs
   simp (disch:=omega) only [List.replicate,ql,k1,ev,q1,q2,q3,go_sem]
   repeat' first
    |(refine qo ( .bool false) ?_;simp (disch:=omega) only [ql,k1,ev,q1,q2,q3,go_sem])
    |((first|apply qc|apply qb);exact rvk;simp only [go_sem];first|exact VLe.refl _|apply qd|apply qa|apply qe|skip)
    |with_reducible first|refine And.intro ?_ ?_|intro _
   all_goals try exact clz
   refine hK _ _ (i+1) ⟨hi,fun j hj=> ?_⟩ (by omega) (Wk.temps ?_)
   ·by_cases e:j=i
    ·subst e;exact hs
    ·exact i2 j (by omega)
   ·(simp only [ql,List.replicate,go_sem,qj,qh,qg,qi];try (repeat' first|(with_reducible refine And.intro ?_ ?_)|(apply qd;omega)|(apply qa;rfl)|exact VLe.refl _))
 ·have k1:((i:Int)<l.length)=False:=eq_false (by omega)
  have hV:R=0:=by rw [hR,qC (fun j hj=>i2 j (by omega))]
  rw [hV]
  simp (disch:=omega) only [List.replicate,ql,k1,go_sem]
  repeat' first
   |((first|apply qc|apply qb);exact rvk;simp only [go_sem];first|exact VLe.refl _|apply qd|apply qa|apply qe|skip)
   |with_reducible first|refine And.intro ?_ ?_|intro _
  all_goals try exact clz
end RC
end
section
open Go Go.Proofs AF HY LN
namespace RC
structure Gr where
 name:Str
 mem:List Int
 deriving Inhabited
def grC (g:Gr):List AV:= [.str g.name,ql g.mem]
def qu (gs:List Gr):AV:= .sl gs.length fun i=>grC (gs.getD i default)
def kp (names:List Str) (i:Nat):Int:=if qoT (names.getD i [])=false then 14 else if zS (fun j=>decide (names.getD i []=names.getD j [])) i=true then 7 else 0
def qb7 (names:List Str) (gs:List Gr) (i:Nat):Int:=
 if jV (gs.getD i default).name=false then 14 else if zS (fun j=>decide ((gs.getD i default).name=names.getD j [])) names.length=true then 7 else
  if zS (fun j=>decide ((gs.getD i default).name=(gs.getD j default).name)) i=true then 7 else if (gs.getD i default).mem.length=0 then 5 else qae names.length (gs.getD i default).mem
def sgE (names:List Str) (gs:List Gr):Int:=
 if 32<names.length then 4 else if qab (kp names) 0 names.length≠0 then qab (kp names) 0 names.length else if 16<gs.length then 4 else qab (qb7 names gs) 0 gs.length
theorem qvU (n:Nat) (g:Nat→Str) (x:Str) (h:List AObj) (hn:n≤1000000000):qm Tryz.prog 102 [.sl n (fun j=> [.str (g j)]),.str x] h (.int .i64 (qbB (fun j=>decide (x=g j)) n 0)) h:=by
 have:=qvP quE n (fun j=> .s (g j)) (.s x) h (fun _ _=>rfl) (by omega)
 simpa only [At.v,At.s.injEq] using this
theorem qqS (n:Nat) (g:Nat→Str) (x:Str) (h:List AObj) (hn:n≤1000000000):qm Tryz.prog 88 [.sl n (fun j=> [.str (g j)]),.str x] h (.bool (zS (fun j=>decide (x=g j)) n)) h:=
 qqR qys ⟨rfl,rfl⟩ ⟨rfl,rfl⟩ (qvU n g x h hn)
theorem qhB (n:Nat) (g:Nat→Str) (x:Str) (h:List AObj) (hn:n≤1000000000):qm Tryz.prog 54 [.sl n (fun j=> [.str (g j)]),.str x] h (.int .i64 (qbB (fun j=>decide (x=g j)) n 0)) h:=by
 obtain ⟨p,hp⟩: ∃p:Nat→Bool,p=fun j=>decide (x=g j):=⟨_,rfl⟩
 have ep: ∀j,p j=decide (x=g j):=fun j=>by rw [hp]
 rw [←hp]
 refine acO qyf ?_
 simp (disch:=omega) only [qzu,List.replicate,go_sem]
 repeat' first
  |((first|apply qc|apply qb);exact rvk;simp only [go_sem];first|exact VLe.refl _|apply qd|apply qa|apply qe|skip)
  |with_reducible first|refine And.intro ?_ ?_|intro _
 all_goals try exact clz
 refine qn (T:=fun i:Nat=>qI 19 [(0,.sl n (fun j=> [.str (g j)])),(1,.str x),(5,.int .i64 i)]) (H:=fun _=>h) (inv:=fun i=>i≤n∧ ∀j,j<i→p j=false) (m:=fun i=>n-i) 0 ⟨Nat.zero_le _,fun j hj=>by omega⟩ (Wk.temps ?_) ?_
 ·exact tmq
 rintro i ⟨i1,i2⟩ K hK
 by_cases hi:i<n
 ·have k1:((i:Int)<n)=True:=eq_true (by omega)
  by_cases g0:x=g i
  ·have k2:(g i=x)=True:=eq_true g0.symm
   rw [kQ hi i2 (by rw [ep,decide_eq_true g0])]
   simp (disch:=omega) only [List.replicate,k1,k2,go_sem]
   repeat' first
    |((first|apply qc|apply qb);exact rvk;simp only [go_sem];first|exact VLe.refl _|apply qd|apply qa|apply qe|skip)
    |with_reducible first|refine And.intro ?_ ?_|intro _
   all_goals try exact clz
  ·have k2:(g i=x)=False:=eq_false (fun e=>g0 e.symm)
   simp (disch:=omega) only [List.replicate,k1,k2,go_sem]
   repeat' first
    |((first|apply qc|apply qb);exact rvk;simp only [go_sem];first|exact VLe.refl _|apply qd|apply qa|apply qe|skip)
    |with_reducible first|refine And.intro ?_ ?_|intro _
   all_goals try exact clz
   refine hK _ _ (i+1) ⟨hi,fun j hj=> ?_⟩ (by omega) (Wk.temps ?_)
   ·by_cases e:j=i
    ·subst e;rw [ep,decide_eq_false g0]
    ·exact i2 j (by omega)
   ·exact tmq
 ·have k1:((i:Int)<n)=False:=eq_false (by omega)
  rw [kG (p:=p) (n:=n) (fun j hj=>i2 j (by omega))]
  simp (disch:=omega) only [List.replicate,k1,go_sem]
  repeat' first
   |((first|apply qc|apply qb);exact rvk;simp only [go_sem];first|exact VLe.refl _|apply qd|apply qa|apply qe|skip)
   |with_reducible first|refine And.intro ?_ ?_|intro _
  all_goals try exact clz
theorem qAi (x:Gr) (y:Str) (c:AV) (h:List AObj):qm Tryz.prog 91 [.agg (grC x),.ip [.str y,c]] h (.bool (decide (y=x.name))) h:=by
 have k:decide (x.name=y)=decide (y=x.name):=decide_eq_decide.2 ⟨Eq.symm,Eq.symm⟩
 refine acO qyu ?_
 simp (disch:=omega) only [qzH,List.replicate,grC,go_sem]
 repeat' first
  |((first|apply qc|apply qb);exact rvk;simp only [go_sem];first|exact VLe.refl _|apply qd|apply qa|apply qe|skip)
  |with_reducible first|refine And.intro ?_ ?_|intro _
 all_goals try exact clz
end RC
end
section
namespace AF
open Go
theorem Wk.kill {t:List AV} {h:List AObj} {k v:Nat} {ty:TypeId} {cs:List AV} (hk:qA k h=some (.mem v ty cs)):Wk t h t (qE k h (.emp (v+1))):=by
 intro N w σ a H
 have hkl:k<σ.length:=by rw [H.hr.len];exact zN hk
 have ho:=qR hkl
 obtain ⟨m1,_⟩:=H.hr.obj k _ _ hk ho
 obtain ⟨g1,g2⟩:=H.hr.kill ho
 rw [m1]at g1 g2
 exact ⟨_,⟨g1,H.sz,fun i c x hc hx=>(H.tm i c x hc hx).ext g2,qay g2 H.df⟩,g2⟩
theorem Wk.kill0 {t:List AV} {h l:List AObj} {v:Nat} {ty:TypeId} {cs:List AV}:Wk t (h++ .mem v ty cs::l) t (h++ .emp (v+1)::l):=by
 have:=Wk.kill (t:=t) (h:=h++ .mem v ty cs::l) (k:=h.length) (v:=v) (ty:=ty) (cs:=cs) (by rw [getO_app0];rfl)
 rwa [setO_app0]at this
end AF
end
section
open Go Go.Proofs AF HY LN
namespace RC
theorem qAe (n:Nat) (gs:List Gr) (y:Str) (k v:Nat) (c:AV) (h:List AObj) (hk:qA k h=some (.mem v 85 [.str y,c])) (hn:n≤gs.length) (hl:gs.length≤1000000000):
  qm Tryz.prog 90 [.sl n (fun j=>grC (gs.getD j default)),.fn (.func 91) [] [.op k v 0]] h (.bool (zS (fun j=>decide (y=(gs.getD j default).name)) n)) h:=by
 have hc:=zJ hk
 refine qqR qyt ⟨rfl,rfl⟩ ⟨rfl,rfl⟩ (qe9 qpM n (fun j=>grC (gs.getD j default)) (fun j=> .agg (grC (gs.getD j default))) _ [] [.op k v 0] _ h (fun i _=>⟨rfl,by simp [jv,grC],rfl,rfl,rfl⟩) (fun i _=> ?_) (by omega))
 refine qm.borrow ?_ rfl
 have e:([AV.agg (grC (gs.getD i default))]++ [AV.op k v 0]).map (rei (fun _=>true) h 8)= [.agg (grC (gs.getD i default)),.ip [rei (fun _=>true) h 7 (.str y),rei (fun _=>true) h 7 c]]:=by
  simp only [List.cons_append,List.nil_append,List.map_cons,List.map_nil,rei_op,if_true,hc,ipOf_some,List.drop_zero,rei_agg]
  rfl
 rw [List.nil_append,e]
 exact qAi _ y _ _
end RC
end
