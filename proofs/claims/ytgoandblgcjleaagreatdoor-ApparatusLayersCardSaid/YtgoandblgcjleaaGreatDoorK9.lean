import Derived.Test.YtgoandblgcjleaaGreatDoorK8
import Derived.Test.YtgoandblgcjleaaGreatDoorK3
import Derived.Test.YtgoandblgcjleaaGreatDoorK5
import Derived.Test.YtgoandblgcjleaaGreatDoorProg
import Derived.Test.YtgoandblgcjleaaGreatDoorK4
import Derived.Below
import Derived.Test.YtgoandblgcjleaaGreatDoorK1
import Derived.Lib.AppendIntMem
import Derived.Stop.LaidErr
import Derived.Lib.ItoaLen
set_option linter.all false
set_option linter.unusedSimpArgs false
set_option linter.unusedVariables false
set_option linter.unusedSectionVars false
set_option maxRecDepth 100000
section
open Go Go.Proofs AF HY
namespace HY
theorem qCo (c:UInt8) (h:List AObj):ACalls Tryz.prog 290 [.int .u8 (c.toNat:Int)] h (.bool (spc c)) h:=by
 refine qz qxt (by simp) ?_
 simp only [List.length_cons,List.length_nil,Nat.reduceAdd,Nat.reduceSub,List.replicate,List.cons_append,List.nil_append,List.append_nil]
 simp (disch:=omega) only [qv7,go_sem,qh,dvP,mdP]
 repeat' first
  |((first|refine qq (jK c _) ?_ ?_);(next=>exact flk);simp (disch:=omega) only [go_sem,qh,dvP,mdP])
  |((first|refine qU (fun _=>jK c _) ?_ ?_);(next=>exact flk);simp (disch:=omega) only [go_sem,qh,dvP,mdP])
  |((first|refine qr (fun e=>⟨?_,jK c _⟩) ?_);(next=>exact flk);simp (disch:=omega) only [go_sem,qh,dvP,mdP])
  |((first|apply qd|apply qb);exact rvk;simp only [go_sem];(first|exact VLe.refl _|apply qe|apply qa|apply qf|skip))
  |with_reducible first|intro _|apply And.intro
 all_goals try exact clz
def jO (s:List UInt8):AV:= .sl s.length fun i=> [.int .u8 ((s.getD i 0).toNat:Int)]
def qb2 (p:UInt8→Bool):List UInt8→Nat→Int
 | [],_=> -1
 |c::r,i=>if p c=true then i else qb2 p r (i+1)
theorem qkR (p:UInt8→Bool): ∀(s:List UInt8) (i:Nat),(0≤qb2 p s i↔s.any p=true)∧ -1≤qb2 p s i:=by
 intro s
 induction s with
 |nil=>intro i;simp [qb2]
 |cons c r ih=>
  intro i
  by_cases hc:p c=true
  ·have e:qb2 p (c::r) i=i:=if_pos hc
   rw [e,List.any_cons,hc]
   simp
   try omega
  ·have e:qb2 p (c::r) i=qb2 p r (i+1):=if_neg hc
   rw [e,List.any_cons]
   have hc':p c=false:=by simpa using hc
   rw [hc',Bool.false_or]
   exact ih (i+1)
theorem qkQ (p:UInt8→Bool) (s:List UInt8) (i:Nat):decide (0≤qb2 p s i)=s.any p:=by
 rw [Bool.eq_iff_iff,decide_eq_true_eq];exact (qkR p s i).1
theorem qCq (s:List UInt8) (p:UInt8→Bool) (F:Nat) (h:List AObj) (hs:s.length≤1000000000) (hp: ∀(c:UInt8) (h:List AObj),ACalls Tryz.prog F [.int .u8 (c.toNat:Int)] h (.bool (p c)) h):ACalls Tryz.prog 308 [jO s,.fn (.func F) [] []] h (.int .i64 (qb2 p s 0)) h:=by
 refine qz qxz (by simp) ?_
 simp only [List.length_cons,List.length_nil,Nat.reduceAdd,Nat.reduceSub,List.replicate,List.cons_append,List.nil_append,List.append_nil]
 simp (disch:=omega) only [qwc,jO,go_sem,qh,dvP,mdP]
 repeat' first
  |((first|apply qd|apply qb);exact rvk;simp only [go_sem];(first|exact VLe.refl _|apply qe|apply qa|apply qf|skip))
  |with_reducible first|intro _|apply And.intro
 all_goals try exact clz
 refine qt (T:=fun i:Nat=>qY 19 [(0,jO s),(1,.fn (.func F) [] []),(6,jO s),(7,.int .i64 s.length),(8,.int .i64 i)]) (H:=fun _=>h) (inv:=fun i=>i≤s.length∧qb2 p s 0=qb2 p (s.drop i) i) (m:=fun i=>s.length-i) 0 ⟨by omega,by simp⟩ (Wk.temps ?_) ?_
 ·(simp only [jO,qY,List.foldl,List.replicate,go_sem,qk,qi,qg,qj];try (repeat' first|(with_reducible apply And.intro)|(apply qe;omega)|(apply qa;rfl)|exact VLe.refl _))
 ·rintro i ⟨i1,i2⟩ K hK
  rw [i2]
  by_cases hi:i<s.length
  ·have e:s.drop i=s.getD i 0::s.drop (i+1):=by rw [List.drop_eq_getElem_cons hi];simp [gdqA,hi]
   rw [e]at i2 ⊢
   simp only [qb2]at i2 ⊢
   have hpc:=fun h=>hp (s.getD i 0) h
   cases hb:p (s.getD i 0)with
   |true=>
    rw [hb]at hpc
    simp (disch:=omega) only [qY,List.foldl,List.replicate,jO,go_sem,qh,dvP,mdP]
    repeat' first
     |(refine qy (hpc _) ?_;simp (disch:=omega) only [jO,go_sem,qh,dvP,mdP])
     |((first|apply qd|apply qb);exact rvk;simp only [go_sem];(first|exact VLe.refl _|apply qe|apply qa|apply qf|skip))
     |with_reducible first|intro _|apply And.intro
    all_goals try exact clz
   |false=>
    rw [hb]at hpc i2
    simp (disch:=omega) only [qY,List.foldl,List.replicate,jO,go_sem,qh,dvP,mdP]
    repeat' first
     |(refine qy (hpc _) ?_;simp (disch:=omega) only [jO,go_sem,qh,dvP,mdP])
     |((first|apply qd|apply qb);exact rvk;simp only [go_sem];(first|exact VLe.refl _|apply qe|apply qa|apply qf|skip))
     |with_reducible first|intro _|apply And.intro
    all_goals try exact clz
    refine hK _ _ (i+1) ⟨by omega,by rw [i2];simp⟩ (by omega) (Wk.temps ?_)
    (simp only [jO,qY,List.foldl,List.replicate,go_sem,qk,qi,qg,qj];try (repeat' first|(with_reducible apply And.intro)|(apply qe;omega)|(apply qa;rfl)|exact VLe.refl _))
  ·have e:i=s.length:=by omega
   subst e
   rw [List.drop_length]
   simp (disch:=omega) only [qY,List.foldl,List.replicate,jO,go_sem,qh,dvP,mdP]
   repeat' first
    |((first|apply qd|apply qb);exact rvk;simp only [go_sem];(first|exact VLe.refl _|apply qe|apply qa|apply qf|skip))
    |with_reducible first|intro _|apply And.intro
   all_goals try exact clz
theorem qCn (s:List UInt8) (p:UInt8→Bool) (F:Nat) (h:List AObj) (hs:s.length≤1000000000) (hp: ∀(c:UInt8) (h:List AObj),ACalls Tryz.prog F [.int .u8 (c.toNat:Int)] h (.bool (p c)) h):ACalls Tryz.prog 289 [jO s,.fn (.func F) [] []] h (.bool (s.any p)) h:=by
 rw [←qkQ p s 0]
 refine qz qxs (by simp) ?_
 simp only [List.length_cons,List.length_nil,Nat.reduceAdd,Nat.reduceSub,List.replicate,List.cons_append,List.nil_append,List.append_nil]
 simp (disch:=omega) only [qv6,jO,go_sem,qh,dvP,mdP]
 repeat' first
  |((first|refine qq (qCq s p F _ hs hp) ?_ ?_);(next=>exact flk);simp (disch:=omega) only [jO,go_sem,qh,dvP,mdP])
  |((first|refine qr (fun e=>⟨?_,qCq s p F _ hs hp⟩) ?_);(next=>exact flk);simp (disch:=omega) only [jO,go_sem,qh,dvP,mdP])
  |((first|apply qd|apply qb);exact rvk;simp only [go_sem];(first|exact VLe.refl _|apply qe|apply qa|apply qf|skip))
  |with_reducible first|intro _|apply And.intro
 all_goals try exact clz
theorem t88 (s:List UInt8) (h:List AObj) (hs:s.length≤1000000000):ACalls Tryz.prog 247 [.str s] h (.bool (qaJ s)) h:=by
 obtain ⟨c,hc⟩: ∃c,c=qaH s:=⟨_,rfl⟩
 have h104: ∀h:List AObj,ACalls Tryz.prog 288 [.str s] h (.int .i64 c) h:=fun h=>by rw [hc];exact qDp s h hs
 have hw:qaJ s=(decide (0<s.length)&&decide (s.length≤64)&&decide (c=0)&&(decide (jb (ch s 0)=1)||decide (jb (ch s 0)=3))&& !(s.any spc)):=by rw [hc];rfl
 rw [hw]
 by_cases g1:0<s.length
 ·have k1:(s= [])=False:=eq_false (by intro e;rw [e]at g1;simp at g1)
  by_cases g2:s.length≤64
  ·have k2:(64<(s.length:Int))=False:=eq_false (by omega)
   by_cases g3:c=0
   ·refine qz qgK (by simp) ?_
    simp only [List.length_cons,List.length_nil,Nat.reduceAdd,Nat.reduceSub,List.replicate,List.cons_append,List.nil_append,List.append_nil]
    simp (disch:=omega) only [qj6,k1,k2,g3,go_sem,qh,dvP,mdP]
    repeat' first
     |((first|refine qq (h104 _) ?_ ?_|refine qq (jK _ _) ?_ ?_|refine qq (qCn s spc 290 _ hs qCo) ?_ ?_);(next=>exact flk);simp (disch:=omega) only [k1,k2,g3,zq,go_sem,qh,dvP,mdP])
     |((first|refine qU (fun _=>h104 _) ?_ ?_|refine qU (fun _=>jK _ _) ?_ ?_);(next=>exact flk);simp (disch:=omega) only [k1,k2,g3,zq,go_sem,qh,dvP,mdP])
     |((first|refine qr (fun e=>⟨?_,h104 _⟩) ?_|refine qr (fun e=>⟨?_,jK _ _⟩) ?_|refine qr (fun e=>⟨?_,qCn s spc 290 _ hs qCo⟩) ?_);(next=>exact flk);simp (disch:=omega) only [k1,k2,g3,zq,go_sem,qh,dvP,mdP])
     |((first|apply qd|apply qb);exact rvk;simp only [go_sem];(first|exact VLe.refl _|apply qe|apply qa|apply qf|skip))
     |with_reducible first|intro _|apply And.intro
    all_goals try exact clz
    all_goals (generalize s.any spc=b;grind)
   ·refine qz qgK (by simp) ?_
    simp only [List.length_cons,List.length_nil,Nat.reduceAdd,Nat.reduceSub,List.replicate,List.cons_append,List.nil_append,List.append_nil]
    simp (disch:=omega) only [qj6,k1,k2,go_sem,qh,dvP,mdP]
    repeat' first
     |((first|refine qq (h104 _) ?_ ?_|refine qq (jK _ _) ?_ ?_);(next=>exact flk);simp (disch:=omega) only [k1,k2,g3,zq,go_sem,qh,dvP,mdP])
     |((first|refine qU (fun _=>h104 _) ?_ ?_|refine qU (fun _=>jK _ _) ?_ ?_);(next=>exact flk);simp (disch:=omega) only [k1,k2,g3,zq,go_sem,qh,dvP,mdP])
     |((first|refine qr (fun e=>⟨?_,h104 _⟩) ?_|refine qr (fun e=>⟨?_,jK _ _⟩) ?_);(next=>exact flk);simp (disch:=omega) only [k1,k2,g3,zq,go_sem,qh,dvP,mdP])
     |((first|apply qd|apply qb);exact rvk;simp only [go_sem];(first|exact VLe.refl _|apply qe|apply qa|apply qf|skip))
     |with_reducible first|intro _|apply And.intro
    all_goals try exact clz
    all_goals (generalize s.any spc=b;grind)
  ·have k2:(64<(s.length:Int))=True:=eq_true (by omega)
   refine qz qgK (by simp) ?_
   simp only [List.length_cons,List.length_nil,Nat.reduceAdd,Nat.reduceSub,List.replicate,List.cons_append,List.nil_append,List.append_nil]
   simp (disch:=omega) only [qj6,k1,k2,go_sem,qh,dvP,mdP]
   repeat' first
    |(refine ql ((.int .i64 0)) ?_;simp (disch:=omega) only [k1,k2,go_sem,qh,dvP,mdP])
    |((first|apply qd|apply qb);exact rvk;simp only [go_sem];(first|exact VLe.refl _|apply qe|apply qa|apply qf|skip))
    |with_reducible first|intro _|apply And.intro
   all_goals try exact clz
   all_goals (generalize s.any spc=b;grind)
 ·have e:s= []:=List.eq_nil_of_length_eq_zero (by omega)
  subst e
  refine qz qgK (by simp) ?_
  simp only [List.length_cons,List.length_nil,Nat.reduceAdd,Nat.reduceSub,List.replicate,List.cons_append,List.nil_append,List.append_nil]
  simp (disch:=omega) only [qj6,go_sem,qh,dvP,mdP]
  repeat' first
   |(refine ql ((.int .i64 0)) ?_;simp (disch:=omega) only [go_sem,qh,dvP,mdP])
   |((first|apply qd|apply qb);exact rvk;simp only [go_sem];(first|exact VLe.refl _|apply qe|apply qa|apply qf|skip))
   |with_reducible first|intro _|apply And.intro
  all_goals try exact clz
  all_goals (generalize List.any _ spc=b;grind)
end HY
end
section
open Go Go.Proofs AF
def zD:List Nat:= [132,109,174,220,68]
theorem qAE:qR Tryz.prog 53 26 0 [RV.tmp 4] cEQ:=fi Tryz.f53 [] zD [] (by kernel_rfl) (by kernel_rfl) (by kernel_rfl) (by kernel_rfl)
theorem qAA:qR Tryz.prog 40 26 0 [RV.tmp 4] cEQ:=fi Tryz.f40 [] zD [] (by kernel_rfl) (by kernel_rfl) (by kernel_rfl) (by kernel_rfl)
def qBU:C:=
 ((C.ops [MC 4 (.bool false)]).seq (((C.ops [MV 6 0,O1 7 .len 6,MV 8 1,O1 9 .len 8,BI 10 .neq 7 9]).seq (C.cond (.t 10) ((C.ops [MC 4 (.bool false)]).seq C.ret) C.skip)).seq
 (((C.ops [MC 5 (i6 0)]).seq (C.block 0 (((C.ops [MV 11 5,MV 12 0,O1 13 .len 12,BI 14 .lss 11 13]).seq (C.cond (.t 14) C.skip (C.exit 0))).seq ((C.block 1 ((C.ops [MV 17 0,MV 18
 5,O2 19 (.idxA 6) 17 18,O1 20 (.load (some 6)) 19,MV 21 1,MV 22 5,O2 23 (.idxA 6) 21 22,O1 24 (.load (some 6)) 23,O2 25 (.call 30 true) 20 24,O1 26 (.un UnOp.not) 25]).seq
 (C.cond (.t 26) ((C.ops [MC 4 (.bool false)]).seq C.ret) C.skip))).seq (C.ops [MV 15 5,BC 16 .add 15 (i6 1),MV 5 16]))).loop)).seq ((C.ops [MC 4 (.bool true)]).seq
 C.ret))))
theorem qAy:qR Tryz.prog 29 27 0 [RV.tmp 4] qBU:=fi Tryz.f29 [] zD [] (by kernel_rfl) (by kernel_rfl) (by kernel_rfl) (by kernel_rfl)
theorem qAD:qR Tryz.prog 46 9 0 [RV.tmp 4] (cCT 121):=fi Tryz.f46 [] zD [] (by kernel_rfl) (by kernel_rfl) (by kernel_rfl) (by kernel_rfl)
def qsp:C:=
 ((C.ops [MC 4 (i6 0)]).seq (((C.ops [MV 10 0,O1 11 .len 10,BC 12 .gtr 11 (i6 32)]).seq (C.cond (.t 12) ((C.ops [MC 4 (i6 4)]).seq C.ret) C.skip)).seq (((C.ops [MV 13 0,O1 14
 .len 13,MC 15 (i6 0)]).seq (C.block 0 ((C.ops [BI 16 .lss 15 14]).seq ((C.cond (.t 16) C.skip (C.exit 0)).seq ((C.block 1 ((C.ops [MV 17 15,O2 18 (.idxA 1) 13 15,LD 19 18,MV 5
 17,MV 6 19]).seq (((C.ops [MV 20 6,O1 21 (.call 185 true) 20,O1 22 (.un UnOp.not) 21]).seq (C.cond (.t 22) ((C.ops [MC 4 (i6 14)]).seq C.ret) C.skip)).seq ((C.ops [MV 23 0,MV
 24 5,O2 25 (.slc 1 false true) 23 24,MV 26 6,O2 27 (.call 43 true) 25 26]).seq (C.cond (.t 27) ((C.ops [MC 4 (i6 7)]).seq C.ret) C.skip))))).seq (C.ops [BC 28 .add 15 (i6 1),MV
 15 28])))).loop)).seq (((C.ops [MV 29 1,O1 30 .len 29,BC 31 .gtr 30 (i6 16)]).seq (C.cond (.t 31) ((C.ops [MC 4 (i6 4)]).seq C.ret) C.skip)).seq (((C.ops [MV 32 1,O1 33 .len 32,
 MC 34 (i6 0)]).seq (C.block 2 ((C.ops [BI 35 .lss 34 33]).seq ((C.cond (.t 35) C.skip (C.exit 2)).seq ((C.block 3 ((C.ops [MV 36 34,O2 37 (.idxA 2) 32 34,O1 38 (.load (some 2))
 37,⟨some 8,none,.alloc 0 167 [.str [],.nl],[]⟩,MV 7 36,ST 2 8 38]).seq ((C.block 4 ((C.ops [O1 40 (.fldA 0) 8,LD 41 40,O1 42 (.call 186 true) 41,O1 43 (.un UnOp.not) 42,
 MV 39 43]).seq (C.cond (.t 39) ((C.ops [MC 4 (i6 14)]).seq C.ret) ((C.ops [MV 45 0,O1 46 (.fldA 0) 8,LD 47 46,O2 48 (.call 43 true) 45 47,MV 49 48,MG 50 49 false 1,MG 51 49
 false 7,P2 52 49 false (.slc 2 false true) 50 51,P1 53 49 false (.mkfn (Fn.func 188) 0) 8,P2 54 49 false (.call 187 true) 52 53,PT 55 49 54,MV 44 55]).seq (C.cond (.t 44)
 ((C.ops [MC 4 (i6 7)]).seq C.ret) ((C.ops [O1 57 (.fldA 1) 8,LD 58 57,O1 59 .len 58,BC 60 .eql 59 (i6 0),MV 56 60]).seq (C.cond (.t 56) ((C.ops [MC 4 (i6 5)]).seq C.ret)
 C.skip))))))).seq ((C.ops [O1 61 (.fldA 1) 8,LD 62 61,MV 63 0,O1 64 .len 63,O2 65 (.call 189 true) 62 64,MV 9 65]).seq ((C.ops [MV 66 9,BC 67 .neq 66 (i6 0)]).seq (C.cond (.t
 67) ((C.ops [MV 68 9,MV 4 68]).seq C.ret) C.skip)))))).seq (C.ops [BC 69 .add 34 (i6 1),MV 34 69])))).loop)).seq ((C.ops [MC 4 (i6 0)]).seq
 C.ret))))))
theorem qrk:qR Tryz.prog 122 70 1 [RV.tmp 4] qsp:=fi Tryz.f122 [8] zD [] (by kernel_rfl) (by kernel_rfl) (by kernel_rfl) (by kernel_rfl)
def qBV:C:=
 ((C.ops [O1 2 (.box 0 58) 0,O1 3 (.box 1 58) 1,MC 4 (.bool false)]).seq (((C.ops [O1 6 (.fldA 0) 2,LD 7 6,O1 8 (.fldA 0) 3,LD 9 8,BI 10 .neq 7 9,MV 11 10,P1 12 11 false
 (.fldA 1) 2,P1 13 11 false (.load none) 12,P1 14 11 false (.fldA 1) 3,P1 15 11 false (.load none) 14,P2 16 11 false (.bin .neq) 13 15,PT 17 11 16,MV 18 17,P1 19 18 false
 (.fldA 2) 2,P1 20 18 false (.load none) 19,P1 21 18 false (.fldA 2) 3,P1 22 18 false (.load none) 21,P2 23 18 false (.bin .neq) 20 22,PT 24 18 23,MV 25 24,P1 26 25 false
 (.fldA 3) 2,P1 27 25 false (.load none) 26,P1 28 25 false (.fldA 3) 3,P1 29 25 false (.load none) 28,P2 30 25 false (.bool true) 27 29,PT 31 25 30,MV 32 31,P1 33 32 false
 (.fldA 4) 2,P1 34 32 false (.load none) 33,P1 35 32 false (.fldA 4) 3,P1 36 32 false (.load none) 35,P2 37 32 false (.call 103 true) 34 36,P1 38 32 false (.un UnOp.not) 37,PT
 39 32 38,MV 40 39,P1 41 40 false (.fldA 5) 2,P1 42 40 false (.load none) 41,P1 43 40 false .len 42,P1 44 40 false (.fldA 5) 3,P1 45 40 false (.load none) 44,P1 46 40 false
 .len 45,P2 47 40 false (.bin .neq) 43 46,PT 48 40 47]).seq (C.cond (.t 48) ((C.ops [MC 4 (.bool false)]).seq C.ret) C.skip)).seq (((C.ops [MC 5 (i6 0)]).seq (C.block 0 (((C.ops
 [MV 49 5,O1 50 (.fldA 5) 2,LD 51 50,O1 52 .len 51,BI 53 .lss 49 52]).seq (C.cond (.t 53) C.skip (C.exit 0))).seq ((C.block 1 ((C.ops [O1 56 (.fldA 5) 2,LD 57 56,MV 58 5,O2
 59 (.idxA 2) 57 58,O1 60 (.fldA 0) 59,LD 61 60,O1 62 (.fldA 5) 3,LD 63 62,MV 64 5,O2 65 (.idxA 2) 63 64,O1 66 (.fldA 0) 65,LD 67 66,O2 68 (.call 103 true) 61 67,O1 69
 (.un UnOp.not) 68,MV 70 69,P1 71 70 false (.fldA 5) 2,P1 72 70 false (.load none) 71,MG 73 70 false 5,P2 74 70 false (.idxA 2) 72 73,P1 75 70 false (.fldA 1) 74,P1 76 70
 false (.load none) 75,P1 77 70 false (.fldA 5) 3,P1 78 70 false (.load none) 77,MG 79 70 false 5,P2 80 70 false (.idxA 2) 78 79,P1 81 70 false (.fldA 1) 80,P1 82 70 false
 (.load none) 81,P2 83 70 false (.call 103 true) 76 82,P1 84 70 false (.un UnOp.not) 83,PT 85 70 84]).seq (C.cond (.t 85) ((C.ops [MC 4 (.bool false)]).seq C.ret) C.skip))).seq
 (C.ops [MV 54 5,BC 55 .add 54 (i6 1),MV 5 55]))).loop)).seq ((C.ops [MC 4 (.bool true)]).seq
 C.ret))))
theorem qAz:qR Tryz.prog 30 86 2 [RV.tmp 4] qBV:=fi Tryz.f30 [2,3] zD [] (by kernel_rfl) (by kernel_rfl) (by kernel_rfl) (by kernel_rfl)
theorem qk4:qR Tryz.prog 121 19 0 [RV.tmp 4] (cIF 6 (some 6)):=fi Tryz.f121 [] zD [] (by kernel_rfl) (by kernel_rfl) (by kernel_rfl) (by kernel_rfl)
def qBY:C:=
 ((C.ops [MC 4 (.bool false)]).seq (((C.ops [MC 5 (i6 0)]).seq (C.block 0 (((C.ops [MV 7 5,MV 8 0,O1 9 .len 8,BI 10 .lss 7 9]).seq (C.cond (.t 10) C.skip (C.exit 0))).seq
 ((C.block 1 ((C.ops [MV 13 0,MV 14 5,O2 15 (.idxA 1) 13 14,LD 16 15,O1 17 .slen 16,BC 18 .gtr 17 (i6 20)]).seq (C.cond (.t 18) ((C.ops [MC 4 (.bool true)]).seq C.ret)
 C.skip))).seq (C.ops [MV 11 5,BC 12 .add 11 (i6 1),MV 5 12]))).loop)).seq (((C.ops [MC 6 (i6 0)]).seq (C.block 2 (((C.ops [MV 19 6,MV 20 1,O1 21 .len 20,BI 22 .lss 19 21]).seq
 (C.cond (.t 22) C.skip (C.exit 2))).seq ((C.block 3 ((C.ops [MV 25 1,MV 26 6,O2 27 (.idxA 2) 25 26,O1 28 (.fldA 0) 27,LD 29 28,O1 30 .slen 29,BC 31 .gtr 30 (i6 20),MV 32 31,
 MG 33 32 false 1,MG 34 32 false 6,P2 35 32 false (.idxA 2) 33 34,P1 36 32 false (.fldA 1) 35,P1 37 32 false (.load none) 36,P1 38 32 false .len 37,PC 39 32 false (.bin .gtr)
 38 (i6 40),PT 40 32 39]).seq (C.cond (.t 40) ((C.ops [MC 4 (.bool true)]).seq C.ret) C.skip))).seq (C.ops [MV 23 6,BC 24 .add 23 (i6 1),MV 6 24]))).loop)).seq ((C.ops [MV 41 0,
 O1 42 .len 41,BC 43 .gtr 42 (i6 8),MV 44 43,MG 45 44 true 0,P1 46 44 true .len 45,PC 47 44 true (.bin .leq) 46 (i6 32),PF 48 44 47,MV 49 48,MG 50 49 false 0,P1 51 49 false
 .len 50,PC 52 49 false (.bin .gtr) 51 (i6 34),PT 53 49 52,MV 54 53,MG 55 54 false 1,P1 56 54 false .len 55,PC 57 54 false (.bin .gtr) 56 (i6 5),MG 58 54 false 57,MG 59 58
 true 1,P1 60 58 true .len 59,PC 61 58 true (.bin .leq) 60 (i6 16),QF 62 54 false 58 61,PT 63 54 62,MV 64 63,MG 65 64 false 1,P1 66 64 false .len 65,PC 67 64 false (.bin
 .gtr) 66 (i6 18),PT 68 64 67,MV 4 68]).seq
 C.ret))))
theorem qAH:qR Tryz.prog 69 69 0 [RV.tmp 4] qBY:=fi Tryz.f69 [] zD [] (by kernel_rfl) (by kernel_rfl) (by kernel_rfl) (by kernel_rfl)
def qsk:C:=
 ((C.ops [MC 4 (.bool false)]).seq (((C.ops [MV 6 0,O1 7 .len 6,MV 8 1,O1 9 .len 8,BI 10 .neq 7 9]).seq (C.cond (.t 10) ((C.ops [MC 4 (.bool false)]).seq C.ret) C.skip)).seq
 (((C.ops [MC 5 (i6 0)]).seq (C.block 0 (((C.ops [MV 11 5,MV 12 0,O1 13 .len 12,BI 14 .lss 11 13]).seq (C.cond (.t 14) C.skip (C.exit 0))).seq ((C.block 1 ((C.ops [MV 17 0,MV 18
 5,O2 19 (.idxA 1) 17 18,LD 20 19,MV 21 1,MV 22 5,O2 23 (.idxA 1) 21 22,LD 24 23,BI 25 .neq 20 24]).seq (C.cond (.t 25) ((C.ops [MC 4 (.bool false)]).seq C.ret) C.skip))).seq
 (C.ops [MV 15 5,BC 16 .add 15 (i6 1),MV 5 16]))).loop)).seq ((C.ops [MC 4 (.bool true)]).seq
 C.ret))))
theorem qrf:qR Tryz.prog 103 26 0 [RV.tmp 4] qsk:=fi Tryz.f103 [] zD [] (by kernel_rfl) (by kernel_rfl) (by kernel_rfl) (by kernel_rfl)
def qj3:C:=
 ((C.ops [MC 2 (.bool false)]).seq ((C.ops [MV 6 0,OC 7 (.call 241 true) 6 (.str [42]),MV 5 7,O1 8 (.ext 0) 5,O1 9 (.ext 1) 5,MV 3 8,MV 4 9]).seq ((C.ops [MV 10 3,O1 11
 (.call 186 true) 10,MV 12 11,MG 13 12 true 4,P1 14 12 true (.un UnOp.not) 13,MG 15 12 true 14,MG 16 15 false 0,P1 17 15 false .slen 16,PC 18 15 false (.bin .leq) 17 (i6 16),
 QT 19 12 true 15 18,PF 20 12 19,MV 2 20]).seq
 C.ret)))
theorem qgH:qR Tryz.prog 185 21 0 [RV.tmp 2] qj3:=fi Tryz.f185 [] zD [] (by kernel_rfl) (by kernel_rfl) (by kernel_rfl) (by kernel_rfl)
theorem qAB:qR Tryz.prog 43 9 0 [RV.tmp 4] (cCT 117):=fi Tryz.f43 [] zD [] (by kernel_rfl) (by kernel_rfl) (by kernel_rfl) (by kernel_rfl)
theorem qwX:qR Tryz.prog 187 9 0 [RV.tmp 4] (cCT 123):=fi Tryz.f187 [] zD [] (by kernel_rfl) (by kernel_rfl) (by kernel_rfl) (by kernel_rfl)
def qvF:C:=
 ((C.ops [O1 2 (.box 0 167) 0,MC 3 (.bool false)]).seq ((C.ops [O1 4 (.fldA 0) 2,LD 5 4,O1 6 (.fldA 0) 1,LD 7 6,BI 8 .eql 5 7,MV 3 8]).seq
 C.ret))
theorem qwY:qR Tryz.prog 188 9 1 [RV.tmp 3] qvF:=fi Tryz.f188 [2] zD [] (by kernel_rfl) (by kernel_rfl) (by kernel_rfl) (by kernel_rfl)
def qvG:C:=
 ((C.ops [MC 4 (i6 0)]).seq (((C.ops [MV 7 0,O1 8 .len 7,MC 9 (i6 0)]).seq (C.block 0 ((C.ops [BI 10 .lss 9 8]).seq ((C.cond (.t 10) C.skip (C.exit 0)).seq ((C.block 1 ((C.ops [MV
 11 9,O2 12 (.idxA 1) 7 9,LD 13 12,MV 5 11,MV 6 13]).seq (((C.ops [MV 14 6,BC 15 .lss 14 (i6 0),MV 16 15,MG 17 16 false 6,MG 18 16 false 1,P2 19 16 false (.bin .geq) 17 18,
 PT 20 16 19]).seq (C.cond (.t 20) ((C.ops [MC 4 (i6 2)]).seq C.ret) C.skip)).seq ((C.ops [MV 21 5,BC 22 .gtr 21 (i6 0),MV 23 22,MG 24 23 true 6,MG 25 23 true 0,MG 26 23 true
 5,PC 27 23 true (.bin .sub) 26 (i6 1),P2 28 23 true (.idxA 1) 25 27,P1 29 23 true (.load none) 28,P2 30 23 true (.bin .leq) 24 29,PF 31 23 30]).seq (C.cond (.t 31) ((C.ops [MC
 4 (i6 10)]).seq C.ret) C.skip))))).seq (C.ops [BC 32 .add 9 (i6 1),MV 9 32])))).loop)).seq ((C.ops [MC 4 (i6 0)]).seq
 C.ret)))
theorem qwZ:qR Tryz.prog 189 33 0 [RV.tmp 4] qvG:=fi Tryz.f189 [] zD [] (by kernel_rfl) (by kernel_rfl) (by kernel_rfl) (by kernel_rfl)
def qst:C:=
 ((C.ops [MC 6 (i6 0)]).seq (((C.ops [MV 7 0,MV 8 1,O2 9 (.call 122 true) 7 8,BC 10 .neq 9 (i6 0)]).seq (C.cond (.t 10) ((C.ops [MC 6 (i6 1)]).seq C.ret) C.skip)).seq ((C.ops [MV
 11 2,MV 12 0,O1 13 .len 12,O2 14 (.call 189 true) 11 13,MV 6 14]).seq
 C.ret)))
theorem qrq:qR Tryz.prog 196 15 0 [RV.tmp 6] qst:=fi Tryz.f196 [] zD [] (by kernel_rfl) (by kernel_rfl) (by kernel_rfl) (by kernel_rfl)
def qvv:C:=
 ((C.ops [MC 2 (.int .u64 0)]).seq ((C.ops [MC 3 (.int .u64 0)]).seq (((C.ops [MV 6 0,O1 7 .len 6,MC 8 (i6 0)]).seq (C.block 0 ((C.ops [BI 9 .lss 8 7]).seq ((C.cond (.t 9) C.skip
 (C.exit 0)).seq ((C.block 1 ((C.ops [O2 10 (.idxA 1) 6 8,LD 11 10,MV 5 11]).seq (C.ops [MV 12 3,MV 13 5,ON 14 (.bin .shl) [.c (.int .u64 1),.t 13],BI 15 .or 12 14,MV 3
 15]))).seq (C.ops [BC 16 .add 8 (i6 1),MV 8 16])))).loop)).seq ((C.ops [MV 17 3,MV 2 17]).seq
 C.ret))))
theorem qwM:qR Tryz.prog 125 18 0 [RV.tmp 2] qvv:=fi Tryz.f125 [] zD [] (by kernel_rfl) (by kernel_rfl) (by kernel_rfl) (by kernel_rfl)
def qvI:C:=
 ((C.ops [ON 4 (.nilo 0 1 3) []]).seq ((C.ops [ON 5 (.nilo 1 1 3) []]).seq (((C.ops [MV 8 0,O1 9 .len 8,MC 10 (i6 0)]).seq (C.block 0 ((C.ops [BI 11 .lss 10 9]).seq ((C.cond (.t
 11) C.skip (C.exit 0)).seq ((C.block 1 ((C.ops [MV 12 10,O2 13 (.idxA 2) 8 10,O1 14 (.load (some 2)) 13,⟨some 7,none,.alloc 2 167 [.str [],.nl],[]⟩,MV 6 12,ST 2 7 14]).seq
 ((C.ops [O1 15 (.fldA 1) 7,LD 16 15,O1 17 (.call 125 true) 16,MV 18 1,BI 19 .andNot 17 18,BC 20 .eql 19 (.int .u64 0)]).seq (C.cond (.t 20) (C.ops [MV 21 5,MV 22 6,⟨some 23,
 none,.bslc 3 1 1 3 [i6 0] [(0,1)],[.t 22]⟩,O2 24 (.app 4 1 3 8) 21 23,MV 5 24]) C.skip)))).seq (C.ops [BC 25 .add 10 (i6 1),MV 10 25])))).loop)).seq ((C.ops [MV 26 5,MV 4
 26]).seq
 C.ret))))
theorem qw1:qR Tryz.prog 197 27 5 [RV.tmp 4] qvI:=fi Tryz.f197 [4,5,7,23,24] zD [] (by kernel_rfl) (by kernel_rfl) (by kernel_rfl) (by kernel_rfl)
def qvJ:C:=
 ((C.ops [O1 1 (.box 0 224) 0,MC 2 .nilfn]).seq ((C.ops [O1 3 (.mkfn (Fn.func 245) 0) 1,MV 2 3]).seq
 C.ret))
theorem qw2:qR Tryz.prog 198 4 1 [RV.tmp 2] qvJ:=fi Tryz.f198 [1] zD [] (by kernel_rfl) (by kernel_rfl) (by kernel_rfl) (by kernel_rfl)
def qvK:C:=
 ((C.ops [MC 2 (i6 0)]).seq ((C.ops [MV 3 0,BC 4 .shr 3 (.int .u64 1),BC 5 .and 4 (.int .u64 6148914691236517205),MV 6 0,BC 7 .and 6 (.int .u64 6148914691236517205),BI 8 .add 5
 7,MV 0 8]).seq ((C.ops [MV 9 0,BC 10 .shr 9 (.int .u64 2),BC 11 .and 10 (.int .u64 3689348814741910323),MV 12 0,BC 13 .and 12 (.int .u64 3689348814741910323),BI 14 .add 11
 13,MV 0 14]).seq ((C.ops [MV 15 0,BC 16 .shr 15 (.int .u64 4),MV 17 0,BI 18 .add 16 17,BC 19 .and 18 (.int .u64 1085102592571150095),MV 0 19]).seq ((C.ops [MV 20 0,MV 21 0,
 BC 22 .shr 21 (.int .u64 8),BI 23 .add 20 22,MV 0 23]).seq ((C.ops [MV 24 0,MV 25 0,BC 26 .shr 25 (.int .u64 16),BI 27 .add 24 26,MV 0 27]).seq ((C.ops [MV 28 0,MV 29 0,BC
 30 .shr 29 (.int .u64 32),BI 31 .add 28 30,MV 0 31]).seq ((C.ops [MV 32 0,O1 33 (.conv .i64) 32,BC 34 .and 33 (i6 127),MV 2 34]).seq
 C.ret))))))))
theorem qw3:qR Tryz.prog 199 35 0 [RV.tmp 2] qvK:=fi Tryz.f199 [] zD [] (by kernel_rfl) (by kernel_rfl) (by kernel_rfl) (by kernel_rfl)
def qvw:C:=
 ((C.ops [ON 2 (.nilo 0 1 3) []]).seq ((C.ops [ON 3 (.nilo 1 1 3) []]).seq (((C.ops [MC 5 (i6 0)]).seq (C.block 0 ((C.ops [BC 6 .lss 5 (i6 64)]).seq ((C.cond (.t 6) C.skip (C.exit
 0)).seq ((C.block 1 ((C.ops [MV 7 5,MV 4 7]).seq ((C.ops [MV 8 0,MV 9 4,BI 10 .shr 8 9,BC 11 .and 10 (.int .u64 1),BC 12 .eql 11 (.int .u64 1)]).seq (C.cond (.t 12) (C.ops [MV
 13 3,MV 14 4,⟨some 15,none,.bslc 2 1 1 3 [i6 0] [(0,1)],[.t 14]⟩,O2 16 (.app 3 1 3 8) 13 15,MV 3 16]) C.skip)))).seq (C.ops [BC 17 .add 5 (i6 1),MV 5 17])))).loop)).seq
 ((C.ops [MV 18 3,MV 2 18]).seq
 C.ret))))
theorem qwN:qR Tryz.prog 126 19 4 [RV.tmp 2] qvw:=fi Tryz.f126 [2,3,15,16] zD [] (by kernel_rfl) (by kernel_rfl) (by kernel_rfl) (by kernel_rfl)
def qBX:C:=
 ((C.ops [MC 4 (i6 0)]).seq (((C.ops [MV 9 0,O1 10 .len 9,MC 11 (i6 0)]).seq (C.block 0 ((C.ops [BI 12 .lss 11 10]).seq ((C.cond (.t 12) C.skip (C.exit 0)).seq ((C.block 1 ((C.ops
 [MV 13 11,O2 14 (.idxA 1) 9 11,LD 15 14,MV 5 13,MV 6 15]).seq (((C.ops [MV 16 5,MV 17 1,O1 18 .len 17,BI 19 .geq 16 18]).seq (C.cond (.t 19) ((C.ops [MC 4 (i6 1)]).seq
 C.ret) C.skip)).seq ((C.ops [MV 20 1,MV 21 5,O2 22 (.idxA 1) 20 21,LD 23 22,MV 7 23]).seq ((C.ops [MV 24 6,MV 25 7,O2 26 (.call 141 true) 24 25,MV 8 26]).seq ((C.ops [MV 27
 8,BC 28 .neq 27 (i6 0)]).seq (C.cond (.t 28) ((C.ops [MV 29 8,MV 4 29]).seq C.ret) C.skip))))))).seq (C.ops [BC 30 .add 11 (i6 1),MV 11 30])))).loop)).seq (((C.ops [MV 31 0,O1
 32 .len 31,MV 33 1,O1 34 .len 33,BI 35 .lss 32 34]).seq (C.cond (.t 35) ((C.ops [MC 4 (i6 (-1))]).seq C.ret) C.skip)).seq ((C.ops [MC 4 (i6 0)]).seq
 C.ret))))
theorem qAG:qR Tryz.prog 66 36 0 [RV.tmp 4] qBX:=fi Tryz.f66 [] zD [] (by kernel_rfl) (by kernel_rfl) (by kernel_rfl) (by kernel_rfl)
theorem qwJ:qR Tryz.prog 117 19 0 [RV.tmp 4] cIX:=fi Tryz.f117 [] zD [] (by kernel_rfl) (by kernel_rfl) (by kernel_rfl) (by kernel_rfl)
theorem qwL:qR Tryz.prog 123 19 0 [RV.tmp 4] (cIF 2 (some 2)):=fi Tryz.f123 [] zD [] (by kernel_rfl) (by kernel_rfl) (by kernel_rfl) (by kernel_rfl)
def qvx:C:=
 ((C.ops [MC 4 (.bool false)]).seq ((C.ops [MV 5 0,MV 6 1,O2 7 (.call 53 true) 5 6,MV 4 7]).seq
 C.ret))
theorem qwO:qR Tryz.prog 139 8 0 [RV.tmp 4] qvx:=fi Tryz.f139 [] zD [] (by kernel_rfl) (by kernel_rfl) (by kernel_rfl) (by kernel_rfl)
def qor:C:=
 ((C.ops [MC 4 (i6 0)]).seq ((C.ops [MV 7 0,O1 8 (.call 195 true) 7,MV 5 8]).seq ((C.ops [MV 9 1,O1 10 (.call 195 true) 9,MV 6 10]).seq (((C.ops [MV 11 5]).seq (C.cond (.t 11)
 (((C.ops [MV 12 6]).seq (C.cond (.t 12) ((C.ops [MC 4 (i6 0)]).seq C.ret) C.skip)).seq ((C.ops [MC 4 (i6 (-1))]).seq C.ret)) C.skip)).seq (((C.ops [MV 13 6]).seq (C.cond (.t 13)
 ((C.ops [MC 4 (i6 1)]).seq C.ret) C.skip)).seq (((C.ops [MV 14 0,MV 15 1,BI 16 .lss 14 15]).seq (C.cond (.t 16) ((C.ops [MC 4 (i6 (-1))]).seq C.ret) C.skip)).seq (((C.ops [MV 17
 0,MV 18 1,BI 19 .gtr 17 18]).seq (C.cond (.t 19) ((C.ops [MC 4 (i6 1)]).seq C.ret) C.skip)).seq ((C.ops [MC 4 (i6 0)]).seq
 C.ret))))))))
theorem qk5:qR Tryz.prog 141 20 0 [RV.tmp 4] qor:=fi Tryz.f141 [] zD [] (by kernel_rfl) (by kernel_rfl) (by kernel_rfl) (by kernel_rfl)
def qvT:C:=
 ((C.ops [MC 4 (.str []),MC 5 (.bool false)]).seq ((C.ops [MV 6 0,MV 7 1,O2 8 (.call 284 true) 6 7,O1 9 (.ext 0) 8,O1 10 (.ext 1) 8,MV 4 9,MV 5 10]).seq
 C.ret))
theorem qxd:qR Tryz.prog 241 11 0 [RV.tmp 4,RV.tmp 5] qvT:=fi Tryz.f241 [] zD [] (by kernel_rfl) (by kernel_rfl) (by kernel_rfl) (by kernel_rfl)
def qvV:C:=
 ((C.ops [LD 7 1,O1 8 .len 7,ON 9 (.bin .shl) [.c (.int .u64 1),.t 8],MC 10 (.int .u64 0)]).seq (C.block 0 ((C.ops [BI 11 .lss 10 9]).seq ((C.cond (.t 11) C.skip (C.exit 0)).seq
 ((C.block 1 ((C.ops [MV 12 10,MV 3 12]).seq ((C.ops [MC 4 (.int .u64 0)]).seq (((C.ops [LD 13 1,O1 14 .len 13,MC 15 (i6 0)]).seq (C.block 2 ((C.ops [BI 16 .lss 15 14]).seq
 ((C.cond (.t 16) C.skip (C.exit 2)).seq ((C.block 3 ((C.ops [MV 17 15,O2 18 (.idxA 1) 13 15,LD 19 18,MV 5 17,MV 6 19]).seq ((C.ops [MV 20 3,MV 21 5,BI 22 .shr 20 21,BC 23
 .and 22 (.int .u64 1),BC 24 .eql 23 (.int .u64 1)]).seq (C.cond (.t 24) (C.ops [MV 25 4,MV 26 6,BI 27 .or 25 26,MV 4 27]) C.skip)))).seq (C.ops [BC 28 .add 15 (i6 1),MV 15
 28])))).loop)).seq ((C.ops [MV 29 0,MV 30 3,MV 31 4,ON 32 .callv [.t 29,.t 30,.t 31],O1 33 (.un UnOp.not) 32]).seq (C.cond (.t 33) C.ret C.skip)))))).seq (C.ops [BC 34 .add
 10 (.int .u64 1),MV 10
 34])))).loop))
theorem qxf:qR Tryz.prog 245 35 0 [] qvV:=fi Tryz.f245 [] zD [] (by kernel_rfl) (by kernel_rfl) (by kernel_rfl) (by kernel_rfl)
def qBZ:C:=
 ((C.ops [MC 4 (.bool false)]).seq (((C.ops [MC 5 (i6 0)]).seq (C.block 0 (((C.ops [MV 6 5,MV 7 0,O1 8 .len 7,BI 9 .lss 6 8]).seq (C.cond (.t 9) C.skip (C.exit 0))).seq ((C.block
 1 ((C.ops [MV 12 0,MV 13 5,O2 14 (.idxA 1) 12 13,LD 15 14,O1 16 .slen 15,BC 17 .gtr 16 (i6 20)]).seq (C.cond (.t 17) ((C.ops [MC 4 (.bool true)]).seq C.ret) C.skip))).seq
 (C.ops [MV 10 5,BC 11 .add 10 (i6 1),MV 5 11]))).loop)).seq ((C.ops [MV 18 0,O1 19 .len 18,MV 20 1,BI 21 .gtr 19 20,MV 4 21]).seq
 C.ret)))
theorem qAI:qR Tryz.prog 70 22 0 [RV.tmp 4] qBZ:=fi Tryz.f70 [] zD [] (by kernel_rfl) (by kernel_rfl) (by kernel_rfl) (by kernel_rfl)
def qsz:C:=
 ((C.ops [MC 4 (.str []),MC 5 (.bool false)]).seq (((C.ops [MV 6 0,MV 7 1,O2 8 (.call 304 true) 6 7,O1 9 (.un UnOp.not) 8]).seq (C.cond (.t 9) ((C.ops [MV 10 0,MV 4 10,MC 5
 (.bool false)]).seq C.ret) C.skip)).seq ((C.ops [MV 11 0,MV 12 0,O1 13 .slen 12,MV 14 1,O1 15 .slen 14,BI 16 .sub 13 15,O2 17 (.sslc false true) 11 16,MV 4 17,MC 5 (.bool
 true)]).seq
 C.ret)))
theorem qrw:qR Tryz.prog 284 18 0 [RV.tmp 4,RV.tmp 5] qsz:=fi Tryz.f284 [] zD [] (by kernel_rfl) (by kernel_rfl) (by kernel_rfl) (by kernel_rfl)
end
section
open Go Go.Proofs AF HY LN
namespace RC
abbrev Str:=List UInt8
def qp (L:List Int):AV:= .sl L.length fun i=> [.int .i64 (L.getD i 0)]
def qhc (s:Str):Bool:=decide (1≤s.length)&&decide (s.drop (s.length-1)= [42])
def qqj (s:Str):Bool:=if qhc s=true then jF (s.take (s.length-1))&&decide (s.length≤16) else jF s
theorem qpT:((1:Nat):Int)=1:=rfl
theorem qrH (s:Str) (h:List AObj) (hs:s.length≤1000000000):ACalls Tryz.prog 304 [.str s,.str [42]] h (.bool (qhc s)) h:=by
 unfold qhc
 by_cases g:1≤s.length
 ·have k1:((1:Int)≤s.length)=True:=eq_true (by omega)
  have k2:((s.length:Int)-1).toNat=s.length-1:=by omega
  have k3:(0≤(s.length:Int)-1)=True:=eq_true (by omega)
  have k4:((s.length:Int)-1≤s.length)=True:=eq_true (by omega)
  have k5:List.take (s.length-(s.length-1)) (List.drop (s.length-1) s)=s.drop (s.length-1):=List.take_of_length_le (by simp)
  rw [decide_eq_true g]
  refine acO qrz ?_
  simp (disch:=omega) only [qsC,List.replicate,qpT,k1,k2,k3,k4,k5,go_sem]
  repeat' first
   |((first|apply qd|apply qb);exact rvk;simp only [go_sem];first|exact VLe.refl _|apply qe|apply qa|apply qf|skip)
   |with_reducible first|apply And.intro|intro _
  all_goals try exact clz
 ·have k1:((1:Int)≤s.length)=False:=eq_false (by omega)
  rw [decide_eq_false g]
  refine acO qrz ?_
  simp (disch:=omega) only [qsC,List.replicate,qpT,k1,go_sem]
  repeat' first
   |((first|apply qd|apply qb);exact rvk;simp only [go_sem];first|exact VLe.refl _|apply qe|apply qa|apply qf|skip)
   |with_reducible first|apply And.intro|intro _
  all_goals try exact clz
theorem qsP (s:Str) (h:List AObj) (hs:s.length≤1000000000):ACalls Tryz.prog 284 [.str s,.str [42]] h (.tup [.str (if qhc s=true then s.take (s.length-1) else s),.bool (qhc s)]) h:=by
 have c1:=fun h=>qrH s h hs
 cases g:qhc s with
 |true=>
  rw [g]at c1
  have g1:1≤s.length:=by unfold qhc at g;simp at g;omega
  have k2:((s.length:Int)-1).toNat=s.length-1:=by omega
  have k3:(0≤(s.length:Int)-1)=True:=eq_true (by omega)
  have k4:((s.length:Int)-1≤s.length)=True:=eq_true (by omega)
  refine acO qrw ?_
  simp (disch:=omega) only [qsz,List.replicate,qpT,k2,k3,k4,go_sem]
  repeat' first
   |((first|refine cA (c1 _) ?_ ?_|refine cG (fun e=>c1 _) ?_ ?_|refine cU (fun _=>c1 _) ?_ ?_);(next=>exact flk);simp (disch:=omega) only [qpT,k2,k3,k4,Nat.sub_zero,go_sem])
   |((first|apply qd|apply qb);exact rvk;simp only [go_sem];first|exact VLe.refl _|apply qe|apply qa|apply qf|skip)
   |with_reducible first|apply And.intro|intro _
  all_goals try exact clz
 |false=>
  rw [g]at c1
  refine acO qrw ?_
  simp (disch:=omega) only [qsz,List.replicate,go_sem]
  repeat' first
   |((first|refine cA (c1 _) ?_ ?_|refine cG (fun e=>c1 _) ?_ ?_|refine cU (fun _=>c1 _) ?_ ?_);(next=>exact flk);simp (disch:=omega) only [go_sem])
   |((first|apply qd|apply qb);exact rvk;simp only [go_sem];first|exact VLe.refl _|apply qe|apply qa|apply qf|skip)
   |with_reducible first|apply And.intro|intro _
  all_goals try exact clz
theorem qre (s:Str) (h:List AObj) (hs:s.length≤1000000000):ACalls Tryz.prog 241 [.str s,.str [42]] h (.tup [.str (if qhc s=true then s.take (s.length-1) else s),.bool (qhc s)]) h:=by
 have c1:=fun h=>qsP s h hs
 refine acO qxd ?_
 simp (disch:=omega) only [qvT,List.replicate,go_sem]
 repeat' first
  |((first|refine cA (c1 _) ?_ ?_|refine cG (fun e=>c1 _) ?_ ?_|refine cU (fun _=>c1 _) ?_ ?_);(next=>exact flk);simp (disch:=omega) only [go_sem])
  |((first|apply qd|apply qb);exact rvk;simp only [go_sem];first|exact VLe.refl _|apply qe|apply qa|apply qf|skip)
  |with_reducible first|apply And.intro|intro _
 all_goals try exact clz
theorem qBf (s:Str) (h:List AObj) (hs:s.length≤1000000000):ACalls Tryz.prog 185 [.str s] h (.bool (qqj s)) h:=by
 have c1:=fun h=>qre s h hs
 unfold qqj
 cases g:qhc s with
 |true=>
  rw [g]at c1
  simp only [if_true]at c1
  have c2:=fun h=>t44 (s.take (s.length-1)) h (by simp;omega)
  rw [if_pos rfl]
  cases g2:jF (s.take (s.length-1))with
  |true=>
   rw [g2]at c2
   have k7:decide ((s.length:Int)≤16)=decide (s.length≤16):=decide_eq_decide.2 (by omega)
   refine acO qgH ?_
   simp (disch:=omega) only [qj3,List.replicate,go_sem]
   repeat' first
    |((first|refine cA (c1 _) ?_ ?_|refine cG (fun e=>c1 _) ?_ ?_|refine cA (c2 _) ?_ ?_|refine cG (fun e=>c2 _) ?_ ?_|refine cU (fun _=>c1 _) ?_ ?_|refine cU (fun _=>c2 _) ?_ ?_);(next=>exact flk);simp (disch:=omega) only [k7,go_sem])
    |((first|apply qd|apply qb);exact rvk;simp only [go_sem];first|exact VLe.refl _|apply qe|apply qa|apply qf|skip)
    |with_reducible first|apply And.intro|intro _
   all_goals try exact clz
  |false=>
   rw [g2]at c2
   refine acO qgH ?_
   simp (disch:=omega) only [qj3,List.replicate,go_sem]
   repeat' first
    |((first|refine cA (c1 _) ?_ ?_|refine cG (fun e=>c1 _) ?_ ?_|refine cA (c2 _) ?_ ?_|refine cG (fun e=>c2 _) ?_ ?_|refine cU (fun _=>c1 _) ?_ ?_|refine cU (fun _=>c2 _) ?_ ?_);(next=>exact flk);simp (disch:=omega) only [go_sem])
    |((first|apply qd|apply qb);exact rvk;simp only [go_sem];first|exact VLe.refl _|apply qe|apply qa|apply qf|skip)
    |with_reducible first|apply And.intro|intro _
   all_goals try exact clz
 |false=>
  rw [g]at c1
  rw [if_neg (by simp)]at c1 ⊢
  have c2:=fun h=>t44 s h hs
  cases g2:jF s with
  |true=>
   rw [g2]at c2
   refine acO qgH ?_
   simp (disch:=omega) only [qj3,List.replicate,go_sem]
   repeat' first
    |((first|refine cA (c1 _) ?_ ?_|refine cG (fun e=>c1 _) ?_ ?_|refine cA (c2 _) ?_ ?_|refine cG (fun e=>c2 _) ?_ ?_|refine cU (fun _=>c1 _) ?_ ?_|refine cU (fun _=>c2 _) ?_ ?_);(next=>exact flk);simp (disch:=omega) only [go_sem])
    |((first|apply qd|apply qb);exact rvk;simp only [go_sem];first|exact VLe.refl _|apply qe|apply qa|apply qf|skip)
    |with_reducible first|apply And.intro|intro _
   all_goals try exact clz
  |false=>
   rw [g2]at c2
   refine acO qgH ?_
   simp (disch:=omega) only [qj3,List.replicate,go_sem]
   repeat' first
    |((first|refine cA (c1 _) ?_ ?_|refine cG (fun e=>c1 _) ?_ ?_|refine cA (c2 _) ?_ ?_|refine cG (fun e=>c2 _) ?_ ?_|refine cU (fun _=>c1 _) ?_ ?_|refine cU (fun _=>c2 _) ?_ ?_);(next=>exact flk);simp (disch:=omega) only [go_sem])
    |((first|apply qd|apply qb);exact rvk;simp only [go_sem];first|exact VLe.refl _|apply qe|apply qa|apply qf|skip)
    |with_reducible first|apply And.intro|intro _
   all_goals try exact clz
end RC
end
section
open Go Go.Proofs AF HY LN
namespace RC
def qbq (f:Nat→Int):Nat→Nat→Int
 |_,0=>0
 |i,k+1=>if f i≠0 then f i else qbq f (i+1) k
theorem qeu {f:Nat→Int} {n i:Nat} (hi:i≤n) (h: ∀j,j<i→f j=0):qbq f 0 n=qbq f i (n-i):=by
 induction i with
 |zero=>rfl
 |succ i ih=>
  rw [ih (by omega) (fun j hj=>h j (by omega)),show n-i=(n-(i+1))+1 by omega]
  simp only [qbq,h i (by omega),ne_eq,not_true_eq_false,if_false]
theorem jI {f:Nat→Int} {n i:Nat} (hi:i<n) (h: ∀j,j<i→f j=0) (hp:f i≠0):qbq f 0 n=f i:=by
 rw [qeu (by omega) h,show n-i=(n-i-1)+1 by omega]
 simp only [qbq]
 rw [if_pos hp]
theorem zN {f:Nat→Int} {n:Nat} (h: ∀j,j<n→f j=0):qbq f 0 n=0:=by
 rw [qeu (Nat.le_refl n) h,Nat.sub_self];rfl
theorem km {f:Nat→Int} {n:Nat}:qbq f 0 n=0↔ ∀j,j<n→f j=0:=by
 refine ⟨fun h=> ?_,zN⟩
 intro j
 induction j using Nat.strongRecOn with
 |_ j ih=>
  intro hj
  by_cases e:f j=0
  ·exact e
  ·rw [jI hj (fun k hk=>ih k hk (by omega)) e]at h;exact absurd h e
def qfZ (b:Int) (l:List Int) (i:Nat):Int:=if l.getD i 0<0∨b≤l.getD i 0 then 2 else if 0<i∧l.getD i 0≤l.getD (i-1) 0 then 10 else 0
def qik (b:Int) (l:List Int):Int:=qbq (qfZ b l) 0 l.length
theorem qCi (l:List Int) (b:Int) (h:List AObj) (hl:l.length≤1000000000):ACalls Tryz.prog 189 [qp l,.int .i64 b] h (.int .i64 (qik b l)) h:=by
 obtain ⟨R,hR⟩: ∃R,R=qik b l:=⟨_,rfl⟩
 rw [←hR]
 unfold qik at hR
 refine acO qwZ ?_
 simp (disch:=omega) only [qvG,List.replicate,qp,go_sem]
 repeat' first
  |((first|apply qd|apply qb);exact rvk;simp only [go_sem];first|exact VLe.refl _|apply qe|apply qa|apply qf|skip)
  |with_reducible first|apply And.intro|intro _
 all_goals try exact clz
 refine qt (T:=fun i:Nat=>qY 33 [(0,qp l),(1,.int .i64 b),(7,qp l),(8,.int .i64 l.length),(9,.int .i64 i)]) (H:=fun _=>h) (inv:=fun i=>i≤l.length∧ ∀j,j<i→qfZ b l j=0) (m:=fun i=>l.length-i) 0 ⟨Nat.zero_le _,fun j hj=>by omega⟩ (Wk.temps ?_) ?_
 ·(simp only [qp,List.replicate,go_sem,qk,qi,qg,qj];try (repeat' first|(with_reducible apply And.intro)|(apply qe;omega)|(apply qa;rfl)|exact VLe.refl _))
 rintro i ⟨i1,i2⟩ K hK
 by_cases hi:i<l.length
 ·have k1:((i:Int)<l.length)=True:=eq_true (by omega)
  have hE:=jI (n:=l.length) hi i2
  rw [←hR]at hE
  unfold qfZ at hE
  have hs:qfZ b l i=if l.getD i 0<0∨b≤l.getD i 0 then 2 else if 0<i∧l.getD i 0≤l.getD (i-1) 0 then 10 else 0:=rfl
  obtain ⟨v,hv⟩: ∃v,v=l.getD i 0:=⟨_,rfl⟩
  obtain ⟨u,hu⟩: ∃u,u=l.getD (i-1) 0:=⟨_,rfl⟩
  have ev:=hv.symm
  have eu:=hu.symm
  rw [ev,eu]at hE hs
  by_cases g1:v<0
  ·have q1:(v<0)=True:=eq_true g1
   have hV:R=2:=by rw [hE]<;>rw [if_pos (.inl g1)];decide
   rw [hV]
   simp (disch:=omega) only [List.replicate,qp,k1,ev,q1,go_sem]
   repeat' first
    |(refine ql ( .bool false) ?_;simp (disch:=omega) only [qp,k1,ev,q1,go_sem])
    |((first|apply qd|apply qb);exact rvk;simp only [go_sem];first|exact VLe.refl _|apply qe|apply qa|apply qf|skip)
    |with_reducible first|apply And.intro|intro _
   all_goals try exact clz
  have q1:(v<0)=False:=eq_false g1
  by_cases g2:b≤v
  ·have q2:(b≤v)=True:=eq_true g2
   have hV:R=2:=by rw [hE]<;>rw [if_pos (.inr g2)];decide
   rw [hV]
   simp (disch:=omega) only [List.replicate,qp,k1,ev,q1,q2,go_sem]
   repeat' first
    |((first|apply qd|apply qb);exact rvk;simp only [go_sem];first|exact VLe.refl _|apply qe|apply qa|apply qf|skip)
    |with_reducible first|apply And.intro|intro _
   all_goals try exact clz
  have q2:(b≤v)=False:=eq_false g2
  rw [if_neg (by rintro (h|h)<;>contradiction)]at hE hs
  by_cases g3:0<i
  ·have q3:((0:Int)<i)=True:=eq_true (by omega)
   have q4:((i:Int)-1).toNat=i-1:=by omega
   have q5:(0≤(i:Int)-1)=True:=eq_true (by omega)
   have q6:((i:Int)-1<l.length)=True:=eq_true (by omega)
   by_cases g4:v≤u
   ·have q7:(v≤u)=True:=eq_true g4
    have hV:R=10:=by rw [hE]<;>rw [if_pos ⟨g3,g4⟩];decide
    rw [hV]
    simp (disch:=omega) only [List.replicate,qp,k1,ev,eu,q1,q2,q3,q4,q5,q6,q7,go_sem]
    repeat' first
     |((first|apply qd|apply qb);exact rvk;simp only [go_sem];first|exact VLe.refl _|apply qe|apply qa|apply qf|skip)
     |with_reducible first|apply And.intro|intro _
    all_goals try exact clz
   ·have q7:(v≤u)=False:=eq_false g4
    rw [if_neg (fun hc=>g4 hc.2)]at hs
    simp (disch:=omega) only [List.replicate,qp,k1,ev,eu,q1,q2,q3,q4,q5,q6,q7,go_sem]
    repeat' first
     |((first|apply qd|apply qb);exact rvk;simp only [go_sem];first|exact VLe.refl _|apply qe|apply qa|apply qf|skip)
     |with_reducible first|apply And.intro|intro _
    all_goals try exact clz
    refine hK _ _ (i+1) ⟨hi,fun j hj=> ?_⟩ (by omega) (Wk.temps ?_)
    ·by_cases e:j=i
     ·subst e;exact hs
     ·exact i2 j (by omega)
    ·(simp only [qp,List.replicate,go_sem,qk,qi,qg,qj];try (repeat' first|(with_reducible apply And.intro)|(apply qe;omega)|(apply qa;rfl)|exact VLe.refl _))
  ·have q3:((0:Int)<i)=False:=eq_false (by omega)
   rw [if_neg (fun hc=>g3 hc.1)]at hs
   simp (disch:=omega) only [List.replicate,qp,k1,ev,q1,q2,q3,go_sem]
   repeat' first
    |(refine ql ( .bool false) ?_;simp (disch:=omega) only [qp,k1,ev,q1,q2,q3,go_sem])
    |((first|apply qd|apply qb);exact rvk;simp only [go_sem];first|exact VLe.refl _|apply qe|apply qa|apply qf|skip)
    |with_reducible first|apply And.intro|intro _
   all_goals try exact clz
   refine hK _ _ (i+1) ⟨hi,fun j hj=> ?_⟩ (by omega) (Wk.temps ?_)
   ·by_cases e:j=i
    ·subst e;exact hs
    ·exact i2 j (by omega)
   ·(simp only [qp,List.replicate,go_sem,qk,qi,qg,qj];try (repeat' first|(with_reducible apply And.intro)|(apply qe;omega)|(apply qa;rfl)|exact VLe.refl _))
 ·have k1:((i:Int)<l.length)=False:=eq_false (by omega)
  have hV:R=0:=by rw [hR,zN (fun j hj=>i2 j (by omega))]
  rw [hV]
  simp (disch:=omega) only [List.replicate,qp,k1,go_sem]
  repeat' first
   |((first|apply qd|apply qb);exact rvk;simp only [go_sem];first|exact VLe.refl _|apply qe|apply qa|apply qf|skip)
   |with_reducible first|apply And.intro|intro _
  all_goals try exact clz
end RC
end
section
open Go Go.Proofs AF HY LN
namespace RC
structure Gr where
 name:Str
 mem:List Int
 deriving Inhabited
def grC (g:Gr):List AV:= [.str g.name,qp g.mem]
def qG (gs:List Gr):AV:= .sl gs.length fun i=>grC (gs.getD i default)
def jV (names:List Str) (i:Nat):Int:=if qqj (names.getD i [])=false then 14 else if zH (fun j=>decide (names.getD i []=names.getD j [])) i=true then 7 else 0
def qhV (names:List Str) (gs:List Gr) (i:Nat):Int:=
 if jF (gs.getD i default).name=false then 14 else if zH (fun j=>decide ((gs.getD i default).name=names.getD j [])) names.length=true then 7 else
  if zH (fun j=>decide ((gs.getD i default).name=(gs.getD j default).name)) i=true then 7 else if (gs.getD i default).mem.length=0 then 5 else qik names.length (gs.getD i default).mem
def sgE (names:List Str) (gs:List Gr):Int:=
 if 32<names.length then 4 else if qbq (jV names) 0 names.length≠0 then qbq (jV names) 0 names.length else if 16<gs.length then 4 else qbq (qhV names gs) 0 gs.length
theorem qA0 (n:Nat) (g:Nat→Str) (x:Str) (h:List AObj) (hn:n≤1000000000):ACalls Tryz.prog 117 [.sl n (fun j=> [.str (g j)]),.str x] h (.int .i64 (qac (fun j=>decide (x=g j)) n 0)) h:=by
 have:=qAW qwJ n (fun j=> .s (g j)) (.s x) h (fun _ _=>rfl) (by omega)
 simpa only [At.v,At.s.injEq] using this
theorem qoG (n:Nat) (g:Nat→Str) (x:Str) (h:List AObj) (hn:n≤1000000000):ACalls Tryz.prog 43 [.sl n (fun j=> [.str (g j)]),.str x] h (.bool (zH (fun j=>decide (x=g j)) n)) h:=
 qky qAB ⟨rfl,rfl⟩ ⟨rfl,rfl⟩ (qA0 n g x h hn)
theorem qCH (x:Gr) (y:Str) (c:AV) (h:List AObj):ACalls Tryz.prog 188 [.agg (grC x),.ip [.str y,c]] h (.bool (decide (y=x.name))) h:=by
 have k:decide (x.name=y)=decide (y=x.name):=decide_eq_decide.2 ⟨Eq.symm,Eq.symm⟩
 refine acO qwY ?_
 simp (disch:=omega) only [qvF,List.replicate,grC,go_sem]
 repeat' first
  |((first|apply qd|apply qb);exact rvk;simp only [go_sem];first|exact VLe.refl _|apply qe|apply qa|apply qf|skip)
  |with_reducible first|apply And.intro|intro _
 all_goals try exact clz
end RC
end
section
namespace AF
open Go
theorem Wk.kill {t:List AV} {h:List AObj} {k v:Nat} {ty:TypeId} {cs:List AV} (hk:qF k h=some (.mem v ty cs)):Wk t h t (qJ k h (.emp (v+1))):=by
 intro N w σ a H
 have hkl:k<σ.length:=by rw [H.hr.len];exact jn hk
 have ho:=zU hkl
 obtain ⟨m1,_⟩:=H.hr.obj k _ _ hk ho
 obtain ⟨g1,g2⟩:=H.hr.kill ho
 rw [m1]at g1 g2
 exact ⟨_,⟨g1,H.sz,fun i c x hc hx=>(H.tm i c x hc hx).ext g2,qaI g2 H.df⟩,g2⟩
theorem Wk.kill0 {t:List AV} {h l:List AObj} {v:Nat} {ty:TypeId} {cs:List AV}:Wk t (h++ .mem v ty cs::l) t (h++ .emp (v+1)::l):=by
 have:=Wk.kill (t:=t) (h:=h++ .mem v ty cs::l) (k:=h.length) (v:=v) (ty:=ty) (cs:=cs) (by rw [getO_app0];rfl)
 rwa [setO_app0]at this
end AF
end
section
open Go Go.Proofs AF HY LN
namespace RC
theorem qCC (n:Nat) (gs:List Gr) (y:Str) (k v:Nat) (c:AV) (h:List AObj) (hk:qF k h=some (.mem v 167 [.str y,c])) (hn:n≤gs.length) (hl:gs.length≤1000000000):
  ACalls Tryz.prog 187 [.sl n (fun j=>grC (gs.getD j default)),.fn (.func 188) [] [.op k v 0]] h (.bool (zH (fun j=>decide (y=(gs.getD j default).name)) n)) h:=by
 have hc:=qV hk
 refine qky qwX ⟨rfl,rfl⟩ ⟨rfl,rfl⟩ (qaC qwL n (fun j=>grC (gs.getD j default)) (fun j=> .agg (grC (gs.getD j default))) _ [] [.op k v 0] _ h (fun i _=>⟨rfl,by simp [ji,grC],rfl,rfl,rfl⟩) (fun i _=> ?_) (by omega))
 refine ACalls.borrow ?_ rfl
 have e:([AV.agg (grC (gs.getD i default))]++ [AV.op k v 0]).map (rei (fun _=>true) h 8)= [.agg (grC (gs.getD i default)),.ip [rei (fun _=>true) h 7 (.str y),rei (fun _=>true) h 7 c]]:=by
  simp only [List.cons_append,List.nil_append,List.map_cons,List.map_nil,rei_op,if_true,hc,ipOf_some,List.drop_zero,rei_agg]
  rfl
 rw [List.nil_append,e]
 exact qCH _ y _ _
end RC
end
section
open Go Go.Proofs AF HY LN
namespace RC
theorem qho {p q:Nat→Bool} {n:Nat} (h: ∀i,i<n→p i=q i):zH p n=zH q n:=by
 cases e:zH q n with
 |true=>obtain ⟨i,h1,h2⟩:=qL.1 e;exact qL.2 ⟨i,h1,by rw [h i h1,h2]⟩
 |false=>exact qo.2 fun i hi=>by rw [h i hi];exact qo.1 e i hi
structure Szs (names:List Str) (gs:List Gr):Prop where
 n:names.length≤1000000000
 g:gs.length≤1000000000
 ns: ∀i,(names.getD i []).length≤1000000000
 gn: ∀i,(gs.getD i default).name.length≤1000000000
 gm: ∀i,(gs.getD i default).mem.length≤1000000000
set_option maxHeartbeats 4000000 in
theorem sgP (names:List Str) (gs:List Gr) (h:List AObj) (hz:Szs names gs):ACalls Tryz.prog 122 [strs names,qG gs] h (.int .i64 (sgE names gs)) h:=by
 obtain ⟨z1,z2,z3,z4,z5⟩:=hz
 obtain ⟨R,hR⟩: ∃R,R=sgE names gs:=⟨_,rfl⟩
 rw [←hR]
 unfold sgE at hR
 by_cases g0:32<names.length
 ·have k0:((32:Int)<names.length)=True:=eq_true (by omega)
  rw [if_pos g0]at hR
  rw [hR]
  refine acO qrk ?_
  simp (disch:=omega) only [qsp,List.replicate,strs,qG,k0,go_sem]
  repeat' first
   |((first|apply qd|apply qb);exact rvk;simp only [go_sem];first|exact VLe.refl _|apply qe|apply qa|apply qf|skip)
   |with_reducible first|apply And.intro|intro _
  all_goals try exact clz
 have k0:((32:Int)<names.length)=False:=eq_false (by omega)
 rw [if_neg g0]at hR
 refine acO qrk ?_
 simp (disch:=omega) only [qsp,List.replicate,strs,qG,k0,go_sem]
 repeat' first
  |((first|apply qd|apply qb);exact rvk;simp only [go_sem];first|exact VLe.refl _|apply qe|apply qa|apply qf|skip)
  |with_reducible first|apply And.intro|intro _
 all_goals try exact clz
 refine qt (T:=fun i:Nat=>qY 70 [(0,strs names),(1,qG gs),(13,strs names),(14,.int .i64 names.length),(15,.int .i64 i)]) (H:=fun _=>h++ [.emp 0]) (inv:=fun i=>i≤names.length∧ ∀j,j<i→jV names j=0) (m:=fun i=>names.length-i) 0 ⟨Nat.zero_le _,fun j hj=>by omega⟩ (Wk.temps ?_) ?_
 ·(simp only [strs,qG,List.replicate,go_sem,qk,qi,qg,qj];try (repeat' first|(with_reducible apply And.intro)|(apply qe;omega)|(apply qa;rfl)|exact VLe.refl _))
 rintro i ⟨i1,i2⟩ K hK
 by_cases hi:i<names.length
 ·have k1:((i:Int)<names.length)=True:=eq_true (by omega)
  have k2:((i:Int)≤names.length)=True:=eq_true (by omega)
  have hE:=jI (f:=jV names) hi i2
  have hs:jV names i=if qqj (names.getD i [])=false then 14 else if zH (fun j=>decide (names.getD i []=names.getD j [])) i=true then 7 else 0:=rfl
  have c87:=fun h=>qBf (names.getD i []) h (z3 i)
  have c88:=fun h=>qoG i (fun j=>names.getD j []) (names.getD i []) h (by omega)
  obtain ⟨s,hsx⟩: ∃s,s=names.getD i []:=⟨_,rfl⟩
  have es:=hsx.symm
  rw [es]at hs c87
  simp only [es]at hs c88
  cases g1:qqj s with
  |false=>
   rw [g1]at c87
   rw [if_pos g1]at hs
   have hV:R=14:=by rw [hR,hE (by rw [hs];decide),hs];rfl
   rw [hV]
   simp (disch:=omega) only [List.replicate,strs,qG,k1,k2,es,go_sem]
   repeat' first
    |((first|refine cA (c87 _) ?_ ?_|refine cG (fun e=>c87 _) ?_ ?_|refine cU (fun _=>c87 _) ?_ ?_);(next=>exact flk);simp (disch:=omega) only [strs,qG,k1,k2,es,go_sem])
    |((first|apply qd|apply qb);exact rvk;simp only [go_sem];first|exact VLe.refl _|apply qe|apply qa|apply qf|skip)
    |with_reducible first|apply And.intro|intro _
   all_goals try exact clz
  |true=>
  rw [g1]at c87
  rw [if_neg (by rw [g1];simp)]at hs
  cases g2:zH (fun j=>decide (s=names.getD j [])) i with
  |true=>
   rw [g2]at c88
   rw [if_pos g2]at hs
   have hV:R=7:=by rw [hR,hE (by rw [hs];decide),hs];rfl
   rw [hV]
   simp (disch:=omega) only [List.replicate,strs,qG,k1,k2,es,Nat.sub_zero,go_sem]
   repeat' first
    |((first|refine cA (c87 _) ?_ ?_|refine cG (fun e=>c87 _) ?_ ?_|refine cA (c88 _) ?_ ?_|refine cG (fun e=>c88 _) ?_ ?_|refine cU (fun _=>c87 _) ?_ ?_|refine cU (fun _=>c88 _) ?_ ?_);(next=>exact flk);simp (disch:=omega) only [strs,qG,k1,k2,es,Nat.sub_zero,go_sem])
    |((first|apply qd|apply qb);exact rvk;simp only [go_sem];first|exact VLe.refl _|apply qe|apply qa|apply qf|skip)
    |with_reducible first|apply And.intro|intro _
   all_goals try exact clz
  |false=>
   rw [g2]at c88
   rw [if_neg (by rw [g2];simp)]at hs
   simp (disch:=omega) only [List.replicate,strs,qG,k1,k2,es,Nat.sub_zero,go_sem]
   repeat' first
    |((first|refine cA (c87 _) ?_ ?_|refine cG (fun e=>c87 _) ?_ ?_|refine cA (c88 _) ?_ ?_|refine cG (fun e=>c88 _) ?_ ?_|refine cU (fun _=>c87 _) ?_ ?_|refine cU (fun _=>c88 _) ?_ ?_);(next=>exact flk);simp (disch:=omega) only [strs,qG,k1,k2,es,Nat.sub_zero,go_sem])
    |((first|apply qd|apply qb);exact rvk;simp only [go_sem];first|exact VLe.refl _|apply qe|apply qa|apply qf|skip)
    |with_reducible first|apply And.intro|intro _
   all_goals try exact clz
   refine hK _ _ (i+1) ⟨hi,fun j hj=> ?_⟩ (by omega) (Wk.temps ?_)
   ·by_cases e:j=i
    ·subst e;exact hs
    ·exact i2 j (by omega)
   ·(simp only [strs,qG,List.replicate,go_sem,qk,qi,qg,qj];try (repeat' first|(with_reducible apply And.intro)|(apply qe;omega)|(apply qa;rfl)|exact VLe.refl _))
 have k1:((i:Int)<names.length)=False:=eq_false (by omega)
 have hn0:=zN (f:=jV names) (fun j (hj:j<names.length)=>i2 j (by omega))
 rw [if_neg (fun hc=>hc hn0)]at hR
 by_cases g1:16<gs.length
 ·have k2:((16:Int)<gs.length)=True:=eq_true (by omega)
  rw [if_pos g1]at hR
  rw [hR]
  simp (disch:=omega) only [List.replicate,strs,qG,k1,k2,go_sem]
  repeat' first
   |((first|apply qd|apply qb);exact rvk;simp only [go_sem];first|exact VLe.refl _|apply qe|apply qa|apply qf|skip)
   |with_reducible first|apply And.intro|intro _
  all_goals try exact clz
 have k2:((16:Int)<gs.length)=False:=eq_false (by omega)
 rw [if_neg g1]at hR
 simp (disch:=omega) only [List.replicate,strs,qG,k1,k2,go_sem]
 repeat' first
  |((first|apply qd|apply qb);exact rvk;simp only [go_sem];first|exact VLe.refl _|apply qe|apply qa|apply qf|skip)
  |with_reducible first|apply And.intro|intro _
 all_goals try exact clz
 refine qt (T:=fun i:Nat×Nat=>qY 70 [(0,strs names),(1,qG gs),(32,qG gs),(33,.int .i64 gs.length),(34,.int .i64 i.1)]) (H:=fun i=>h++ [.emp i.2]) (inv:=fun i=>i.1≤gs.length∧ ∀j,j<i.1→qhV names gs j=0) (m:=fun i=>gs.length-i.1) (0,0) ⟨Nat.zero_le _,fun j hj=>absurd hj (Nat.not_lt_zero j)⟩ (Wk.temps ?_) ?_
 ·(simp only [strs,qG,List.replicate,go_sem,qk,qi,qg,qj];try (repeat' first|(with_reducible apply And.intro)|(apply qe;omega)|(apply qa;rfl)|exact VLe.refl _))
 rintro ⟨i,v⟩ ⟨i1,i2⟩ K hK
 simp only at i1 i2 hK
 by_cases hi:i<gs.length
 ·have k3:((i:Int)<gs.length)=True:=eq_true (by omega)
  have k4:((i:Int)≤gs.length)=True:=eq_true (by omega)
  have hE:=jI (f:=qhV names gs) hi i2
  have hs:qhV names gs i=if jF (gs.getD i default).name=false then 14 else if zH (fun j=>decide ((gs.getD i default).name=names.getD j [])) names.length=true then 7 else
   if zH (fun j=>decide ((gs.getD i default).name=(gs.getD j default).name)) i=true then 7 else if (gs.getD i default).mem.length=0 then 5 else qik names.length (gs.getD i default).mem:=rfl
  have z4i:=z4 i
  have z5i:=z5 i
  obtain ⟨g,hg⟩: ∃g,g=gs.getD i default:=⟨_,rfl⟩
  have eg:=hg.symm
  simp only [eg]at hs z4i z5i
  have c89:=fun h=>t44 g.name h z4i
  have c88:=fun h=>qoG names.length (fun j=>names.getD j []) g.name h z1
  have c90:=fun h hk=>qCC i gs g.name (List.length h) (v+1) (qp g.mem) (h++ [.mem (v+1) 167 (grC g)]) hk (by omega) z2
  have c90:=c90 h (by rw [getO_app0];rfl)
  have c92:=fun h=>qCi g.mem names.length h z5i
  cases g2:jF g.name with
  |false=>
   rw [g2]at c89
   rw [if_pos g2]at hs
   have hV:R=14:=by rw [hR,hE (by rw [hs];decide),hs]
   rw [hV]
   simp (disch:=omega) only [List.replicate,strs,qG,grC,qp,k3,k4,eg,go_sem]
   repeat' first
    |((first|refine cA (c89 _) ?_ ?_|refine cG (fun e=>c89 _) ?_ ?_|refine cU (fun _=>c89 _) ?_ ?_);(next=>exact flk);simp (disch:=omega) only [strs,qG,grC,qp,k3,k4,eg,go_sem])
    |((first|apply qd|apply qb);exact rvk;simp only [go_sem];first|exact VLe.refl _|apply qe|apply qa|apply qf|skip)
    |with_reducible first|apply And.intro|intro _
   all_goals try exact clz
  |true=>
  rw [g2]at c89
  rw [if_neg (by rw [g2];simp)]at hs
  cases g3:zH (fun j=>decide (g.name=names.getD j [])) names.length with
  |true=>
   rw [g3]at c88
   rw [if_pos g3]at hs
   have hV:R=7:=by rw [hR,hE (by rw [hs];decide),hs]
   rw [hV]
   simp (disch:=omega) only [List.replicate,strs,qG,grC,qp,k3,k4,eg,go_sem]
   repeat' first
    |(refine ql ( .bool false) ?_;simp (disch:=omega) only [strs,qG,grC,qp,k3,k4,eg,go_sem])
    |((first|refine cA (c89 _) ?_ ?_|refine cG (fun e=>c89 _) ?_ ?_|refine cA (c88 _) ?_ ?_|refine cG (fun e=>c88 _) ?_ ?_|refine cU (fun _=>c89 _) ?_ ?_|refine cU (fun _=>c88 _) ?_ ?_);(next=>exact flk);simp (disch:=omega) only [strs,qG,grC,qp,k3,k4,eg,go_sem])
    |((first|apply qd|apply qb);exact rvk;simp only [go_sem];first|exact VLe.refl _|apply qe|apply qa|apply qf|skip)
    |with_reducible first|apply And.intro|intro _
   all_goals try exact clz
  |false=>
  rw [g3]at c88
  rw [if_neg (by rw [g3];simp)]at hs
  cases g4:zH (fun j=>decide (g.name=(gs.getD j default).name)) i with
  |true=>
   rw [g4]at c90
   rw [if_pos g4]at hs
   have hV:R=7:=by rw [hR,hE (by rw [hs];decide),hs]
   rw [hV]
   simp only [grC,qp]at c90
   simp (disch:=omega) only [List.replicate,strs,qG,grC,qp,k3,k4,eg,Nat.sub_zero,go_sem]
   repeat' first
    |((first|refine cA (c89 _) ?_ ?_|refine cG (fun e=>c89 _) ?_ ?_|refine cA (c88 _) ?_ ?_|refine cG (fun e=>c88 _) ?_ ?_|refine cA (c90) ?_ ?_|refine cG (fun e=>c90) ?_ ?_|refine cU (fun _=>c89 _) ?_ ?_|refine cU (fun _=>c88 _) ?_ ?_);(next=>exact flk);simp (disch:=omega) only [strs,qG,grC,qp,k3,k4,eg,Nat.sub_zero,go_sem])
    |((first|apply qd|apply qb);exact rvk;simp only [go_sem];first|exact VLe.refl _|apply qe|apply qa|apply qf|skip)
    |with_reducible first|apply And.intro|intro _
   all_goals try exact clz
  |false=>
  rw [g4]at c90
  rw [if_neg (by rw [g4];simp)]at hs
  simp only [grC,qp]at c90
  by_cases g5:g.mem.length=0
  ·have k5:((g.mem.length:Int)=0)=True:=eq_true (by omega)
   rw [if_pos g5]at hs
   have hV:R=5:=by rw [hR,hE (by rw [hs];decide),hs]
   rw [hV]
   simp (disch:=omega) only [List.replicate,strs,qG,grC,qp,k3,k4,eg,Nat.sub_zero,go_sem]
   repeat' first
    |((first|refine cA (c89 _) ?_ ?_|refine cG (fun e=>c89 _) ?_ ?_|refine cA (c88 _) ?_ ?_|refine cG (fun e=>c88 _) ?_ ?_|refine cA (c90) ?_ ?_|refine cG (fun e=>c90) ?_ ?_|refine cU (fun _=>c89 _) ?_ ?_|refine cU (fun _=>c88 _) ?_ ?_);(next=>exact flk);simp (disch:=omega) only [strs,qG,grC,qp,k3,k4,eg,Nat.sub_zero,k5,go_sem])
    |((first|apply qd|apply qb);exact rvk;simp only [go_sem];first|exact VLe.refl _|apply qe|apply qa|apply qf|skip)
    |with_reducible first|apply And.intro|intro _
   all_goals try exact clz
  have k5:((g.mem.length:Int)=0)=False:=eq_false (by omega)
  rw [if_neg g5]at hs
  unfold qp at c92
  obtain ⟨e,he⟩: ∃e,e=qik names.length g.mem:=⟨_,rfl⟩
  rw [←he]at c92 hs
  by_cases g6:e=0
  ·have k6:(e=0)=True:=eq_true g6
   simp (disch:=omega) only [List.replicate,strs,qG,grC,qp,k3,k4,eg,Nat.sub_zero,go_sem]
   repeat' first
    |((first|refine cA (c89 _) ?_ ?_|refine cG (fun e=>c89 _) ?_ ?_|refine cA (c88 _) ?_ ?_|refine cG (fun e=>c88 _) ?_ ?_|refine cA (c90) ?_ ?_|refine cG (fun e=>c90) ?_ ?_|refine cA (c92 _) ?_ ?_|refine cG (fun e=>c92 _) ?_ ?_|refine cU (fun _=>c89 _) ?_ ?_|refine cU (fun _=>c88 _) ?_ ?_|refine cU (fun _=>c92 _) ?_ ?_);(next=>exact flk);simp (disch:=omega) only [strs,qG,grC,qp,k3,k4,eg,Nat.sub_zero,k5,k6,go_sem])
    |((first|apply qd|apply qb);exact rvk;simp only [go_sem];first|exact VLe.refl _|apply qe|apply qa|apply qf|skip)
    |with_reducible first|apply And.intro|intro _
   all_goals try exact clz
   refine hK _ _ (i+1,v+1+1) ⟨hi,fun j hj=> ?_⟩ (by simp only;omega) (Wk.trans Wk.kill0 (Wk.temps ?_))
   ·by_cases e':j=i
    ·subst e';rw [hs,g6]
    ·exact i2 j (by simp only at hj;omega)
   ·(simp only [strs,qG,List.replicate,go_sem,qk,qi,qg,qj];try (repeat' first|(with_reducible apply And.intro)|(apply qe;omega)|(apply qa;rfl)|exact VLe.refl _))
  ·have k6:(e=0)=False:=eq_false g6
   have hV:R=e:=by rw [hR,hE (by rw [hs];exact g6),hs]
   rw [hV]
   simp (disch:=omega) only [List.replicate,strs,qG,grC,qp,k3,k4,eg,Nat.sub_zero,go_sem]
   repeat' first
    |((first|refine cA (c89 _) ?_ ?_|refine cG (fun e=>c89 _) ?_ ?_|refine cA (c88 _) ?_ ?_|refine cG (fun e=>c88 _) ?_ ?_|refine cA (c90) ?_ ?_|refine cG (fun e=>c90) ?_ ?_|refine cA (c92 _) ?_ ?_|refine cG (fun e=>c92 _) ?_ ?_|refine cU (fun _=>c89 _) ?_ ?_|refine cU (fun _=>c88 _) ?_ ?_|refine cU (fun _=>c92 _) ?_ ?_);(next=>exact flk);simp (disch:=omega) only [strs,qG,grC,qp,k3,k4,eg,Nat.sub_zero,k5,k6,go_sem])
    |((first|apply qd|apply qb);exact rvk;simp only [go_sem];first|exact VLe.refl _|apply qe|apply qa|apply qf|skip)
    |with_reducible first|apply And.intro|intro _
   all_goals try exact clz
 ·have k3:((i:Int)<gs.length)=False:=eq_false (by omega)
  rw [zN (fun j (hj:j<gs.length)=>i2 j (by omega))]at hR
  rw [hR]
  simp (disch:=omega) only [List.replicate,strs,qG,k3,go_sem]
  repeat' first
   |((first|apply qd|apply qb);exact rvk;simp only [go_sem];first|exact VLe.refl _|apply qe|apply qa|apply qf|skip)
   |with_reducible first|apply And.intro|intro _
  all_goals try exact clz
end RC
end
section
open Go Go.Proofs AF HY LN
namespace RC
theorem _root_.AF.Wk.kill2 {t:List AV} {h l:List AObj} {a b:AObj} {v:Nat} {ty:TypeId} {cs:List AV}:Wk t (h++a::b:: .mem v ty cs::l) t (h++a::b:: .emp (v+1)::l):=by
 have:=Wk.kill0 (t:=t) (h:=h++ [a,b]) (l:=l) (v:=v) (ty:=ty) (cs:=cs)
 simpa using this
theorem qbi {n:Int} (h0:0≤n) (h1:n<18446744073709551616):IntKind.u64.wrap n=n:=by
 have e1:(2:Int)^IntKind.bits IntKind.u64=18446744073709551616:=by decide
 have e3:IntKind.signed IntKind.u64=false:=rfl
 unfold IntKind.wrap
 rw [e1,e3]
 simp only [Bool.false_and,Bool.false_eq_true,if_false]
 omega
theorem ky (a:Nat):BitVec.ofInt 64 (a:Int)=BitVec.ofNat 64 a:=by simp
theorem qrO {a b:Nat} (ha:a<2^64) (hb:b<2^64):orK .u64 (a:Int) (b:Int)=((a|||b:Nat):Int):=by
 have hab:a|||b<2^64:=Nat.or_lt_two_pow ha hb
 unfold orK
 rw [show IntKind.bits IntKind.u64=64 from rfl,ky,ky,BitVec.toNat_or,BitVec.toNat_ofNat,BitVec.toNat_ofNat,Nat.mod_eq_of_lt ha,Nat.mod_eq_of_lt hb]
 exact qbi (by omega) (by omega)
theorem qr7 {a b:Nat} (ha:a<2^64) (hb:b<2^64):qr6 .u64 (a:Int) (b:Int)=((a&&&b:Nat):Int):=by
 have hab:a&&&b<2^64:=Nat.lt_of_le_of_lt Nat.and_le_left ha
 unfold qr6
 rw [show IntKind.bits IntKind.u64=64 from rfl,ky,ky,BitVec.toNat_and,BitVec.toNat_ofNat,BitVec.toNat_ofNat,Nat.mod_eq_of_lt ha,Nat.mod_eq_of_lt hb]
 exact qbi (by omega) (by omega)
theorem qmL {n:Nat} (hn:n<64):qBd .u64 1 (n:Int)=((2^n:Nat):Int):=by
 unfold qBd
 rw [show IntKind.bits IntKind.u64=64 from rfl,Int.toNat_natCast,Nat.min_eq_left (by omega)]
 have h2:(2:Nat)^n<2^64:=Nat.pow_lt_pow_right (by omega) hn
 rw [Int.one_mul,show ((2:Int)^n)=((2^n:Nat):Int) by simp]
 exact qbi (Int.natCast_nonneg _) (Int.ofNat_lt.2 (show 2^n<18446744073709551616 from h2))
theorem qup {a n:Nat} (hn:n<64):qz3 .u64 (a:Int) (n:Int)=((a>>>n:Nat):Int):=by
 unfold qz3
 rw [show IntKind.bits IntKind.u64=64 from rfl,Int.toNat_natCast,Nat.min_eq_left (by omega),Nat.shiftRight_eq_div_pow,show ((2:Int)^n)=((2^n:Nat):Int) by simp,Int.fdiv_eq_ediv_of_nonneg _ (Int.natCast_nonneg _)]
 rfl
theorem qjV {a n:Nat} (ha:a<2^64) (hn:n<64):qr6 .u64 (qz3 .u64 (a:Int) (n:Int)) 1=if a.testBit n=true then 1 else 0:=by
 rw [qup hn,show (1:Int)=((1:Nat):Int)from rfl,qr7 (Nat.lt_of_le_of_lt (by rw [Nat.shiftRight_eq_div_pow];exact Nat.div_le_self _ _) ha) (by decide)]
 have:(a>>>n)&&&1=(a.testBit n).toNat:=by rw [Nat.testBit];simp [Nat.and_comm 1];rcases Nat.mod_two_eq_zero_or_one (a>>>n)with h|h<;>simp [h]
 rw [this]
 cases a.testBit n<;>rfl
def qb3 (l:List Int):Nat:=l.foldl (fun a n=>a|||2^n.toNat) 0
def inB (b:Int) (l:List Int):Prop:= ∀i,i<l.length→0≤l.getD i 0∧l.getD i 0<b
theorem qrL (l:List Int): ∀a:Nat,a<2^64→(∀n∈l,0≤n∧n<64)→l.foldl (fun a n=>a|||2^n.toNat) a<2^64∧ ∀i,(l.foldl (fun a n=>a|||2^n.toNat) a).testBit i=(a.testBit i||decide ((i:Int)∈l)):=by
 induction l with
 |nil=>intro a ha _;exact ⟨ha,fun i=>by simp⟩
 |cons n l ih=>
  intro a ha hl
  have hn:=hl n (by simp)
  obtain ⟨h1,h2⟩:=ih (a|||2^n.toNat) (Nat.or_lt_two_pow ha (Nat.pow_lt_pow_right (by omega) (by omega))) (fun m hm=>hl m (by simp [hm]))
  refine ⟨h1,fun i=> ?_⟩
  rw [List.foldl_cons,h2 i,Nat.testBit_or,Nat.testBit_two_pow]
  by_cases e:(i:Int)=n
  ·have e':n.toNat=i:=by omega
   simp [e,e']
  ·have e': ¬n.toNat=i:=by omega
   simp [e,e']
theorem qa9 {l:List Int} {b:Int} (h:inB b l): ∀n∈l,0≤n∧n<b:=by
 intro n hn
 obtain ⟨i,hi,e⟩:=List.getElem_of_mem hn
 have:=h i hi
 rw [gdqA,zU hi]at this
 rw [←e];exact this
theorem qgT {l:List Int} (h:inB 64 l):qb3 l<2^64:=(qrL l 0 (by decide) (qa9 h)).1
theorem qlG {l:List Int} (h:inB 64 l) (i:Nat):(qb3 l).testBit i=decide ((i:Int)∈l):=by
 have:=(qrL l 0 (by decide) (qa9 h)).2 i
 rw [Nat.zero_testBit,Bool.false_or]at this
 exact this
theorem qpk {l:List Int} {b:Int} {i:Nat} (h:inB b l) (hi:i≤l.length):inB b (l.take i):=by
 intro j hj
 rw [List.length_take]at hj
 have:=h j (by omega)
 rw [gdqA,List.getElem?_take,if_pos (by omega),←gdqA]
 exact this
theorem qpx {l:List Int} {i:Nat} (hi:i<l.length):qb3 (l.take (i+1))=qb3 (l.take i)|||2^(l.getD i 0).toNat:=by
 unfold qb3
 rw [List.take_add_one,zU hi,List.foldl_append,gdqA,zU hi]
 rfl
theorem qA3 (l:List Int) (h:List AObj) (hl:l.length≤1000000000) (hb:inB 64 l):ACalls Tryz.prog 125 [qp l] h (.int .u64 (qb3 l:Int)) h:=by
 refine acO qwM ?_
 simp (disch:=omega) only [qvv,List.replicate,qp,go_sem]
 repeat' first
  |((first|apply qd|apply qb);exact rvk;simp only [go_sem];first|exact VLe.refl _|apply qe|apply qa|apply qf|skip)
  |with_reducible first|apply And.intro|intro _
 all_goals try exact clz
 refine qt (T:=fun i:Nat=>qY 18 [(3,.int .u64 (qb3 (l.take i):Int)),(6,qp l),(7,.int .i64 l.length),(8,.int .i64 i)]) (H:=fun _=>h) (inv:=fun i=>i≤l.length) (m:=fun i=>l.length-i) 0 (Nat.zero_le _) (Wk.temps ?_) ?_
 ·(simp only [qp,List.replicate,go_sem,qk,qi,qg,qj];try (repeat' first|(with_reducible apply And.intro)|(apply qe;omega)|(apply qa;rfl)|exact VLe.refl _))
 rintro i i1 K hK
 by_cases hi:i<l.length
 ·have k1:((i:Int)<l.length)=True:=eq_true (by omega)
  have hv:=hb i hi
  have hst:=qpx hi
  obtain ⟨v,hv'⟩: ∃v,v=l.getD i 0:=⟨_,rfl⟩
  have ev:=hv'.symm
  rw [ev]at hv hst
  obtain ⟨u,rfl⟩: ∃u:Nat,v=(u:Int):=⟨v.toNat,by omega⟩
  rw [Int.toNat_natCast]at hst
  have k2:(0≤(u:Int))=True:=eq_true (by omega)
  have e1:=qmL (n:=u) (by omega)
  have hm:=qgT (qpk hb i1)
  have h2:(2:Nat)^u<2^64:=Nat.pow_lt_pow_right (by omega) (by omega)
  have e2:=qrO hm h2
  simp (disch:=omega) only [List.replicate,qp,k1,k2,ev,e1,e2,go_sem]
  repeat' first
   |((first|apply qd|apply qb);exact rvk;simp only [go_sem];first|exact VLe.refl _|apply qe|apply qa|apply qf|skip)
   |with_reducible first|apply And.intro|intro _
  all_goals try exact clz
  refine hK _ _ (i+1) hi (by omega) (Wk.temps ?_)
  rw [hst]
  (simp only [qp,List.replicate,go_sem,qk,qi,qg,qj];try (repeat' first|(with_reducible apply And.intro)|(apply qe;omega)|(apply qa;rfl)|exact VLe.refl _))
 ·have k1:((i:Int)<l.length)=False:=eq_false (by omega)
  have e:i=l.length:=by omega
  subst e
  rw [List.take_length]
  simp (disch:=omega) only [List.replicate,qp,k1,go_sem]
  repeat' first
   |((first|apply qd|apply qb);exact rvk;simp only [go_sem];first|exact VLe.refl _|apply qe|apply qa|apply qf|skip)
   |with_reducible first|apply And.intro|intro _
  all_goals try exact clz
def kR (p:Nat→Bool) (k:Nat):List Int:=((List.range k).filter p).map Int.ofNat
theorem qeE (p:Nat→Bool) (k:Nat):kR p (k+1)=kR p k++if p k=true then [(k:Int)] else []:=by
 unfold kR
 rw [List.range_succ,List.filter_append,List.map_append]
 congr 1
 rw [List.filter_cons]
 split<;>rfl
theorem jJ (p:Nat→Bool) (k:Nat):(kR p k).length≤k:=by
 unfold kR
 rw [List.length_map]
 exact Nat.le_trans (List.length_filter_le _ _) (by simp)
def qT (L:List Int):List AV:=L.map fun n=> .int .i64 n
theorem zY (L:List Int):(qT L).length=L.length:=by simp [qT]
theorem jS (L M:List Int):qT (L++M)=qT L++qT M:=by simp [qT]
theorem qez {L:List Int}:qT L= []↔L= []:=by simp [qT]
theorem qeA {L:List Int} {n:Nat} (g:AV→AV) (hg: ∀n,g (.int .i64 n)= .int .i64 n) (hn:n=L.length):VLe (.sl n fun i=>(((qT L).drop i).take 1).map g) (qp L):=by
 subst hn
 refine VLe.sl_eq rfl (fun i hi=> ?_)
 unfold qT
 rw [←List.map_drop,List.drop_eq_getElem_cons hi,List.map_cons,List.take_succ_cons,List.take_zero,List.map_cons,List.map_nil,hg,gdqA,zU hi]
 rfl
set_option maxHeartbeats 2000000 in
theorem qCe (m:Nat) (h:List AObj) (hm:m<2^64):ACalls Tryz.prog 126 [.int .u64 (m:Int)] h (qp (kR m.testBit 64)) h:=by
 refine acO qwN ?_
 simp (disch:=omega) only [qvw,List.replicate,go_sem]
 repeat' first
  |((first|apply qd|apply qb);exact rvk;simp only [go_sem];first|exact VLe.refl _|apply qe|apply qa|apply qf|skip)
  |with_reducible first|apply And.intro|intro _
 all_goals try exact clz
 refine qt (T:=fun i:Nat×Nat×Nat=>qY 19 [(0,.int .u64 (m:Int)),(3,.osl (h.length+1) i.2.1 1 0 (kR m.testBit i.1).length),(5,.int .i64 i.1)]) (H:=fun i=>h++ [.emp 1,ja i.2.1 3 (qT (kR m.testBit i.1)),.emp i.2.2,.emp 0])
  (inv:=fun i=>i.1≤64) (m:=fun i=>64-i.1) (0,1,0) (Nat.zero_le _) (Wk.temps ?_) ?_
 ·(simp only [kR,List.range_zero,List.filter_nil,List.length_nil,List.replicate,go_sem,qk,qi,qg,qj];try (repeat' first|(with_reducible apply And.intro)|(apply qe;omega)|(apply qa;rfl)|exact VLe.refl _))
 rintro ⟨i,v,w⟩ i1 K hK
 simp only at i1 hK
 have hst:=qeE m.testBit i
 have hln:=jJ m.testBit i
 obtain ⟨L,hL⟩: ∃L,L=kR m.testBit i:=⟨_,rfl⟩
 rw [←hL]at hst hln
 have eL:=hL.symm
 have eC:=zY L
 by_cases hi:i<64
 ·have k1:((i:Int)<64)=True:=eq_true (by omega)
  have k2:(0≤(i:Int))=True:=eq_true (by omega)
  have e1:=qjV (a:=m) (n:=i) hm hi
  cases g:m.testBit i with
  |true=>
   rw [g,if_pos rfl]at e1
   rw [g,if_pos rfl]at hst
   have eT:List.take L.length (qT L)=qT L:=List.take_of_length_le (by omega)
   simp (disch:=omega) only [List.replicate,k1,k2,e1,eL,Nat.mul_one,go_sem]
   repeat' first
    |((first|apply qd|apply qb);exact rvk;simp only [go_sem];first|exact VLe.refl _|apply qe|apply qa|apply qf|skip)
    |with_reducible first|apply And.intro|intro _
   all_goals try exact clz
   have eA:qT L++ [AV.int .i64 (i:Int)]=qT (L++ [(i:Int)]):=by rw [jS];rfl
   rw [eT,eA]
   refine hK _ _ (i+1,v+1,w+1+1) hi (by simp only;omega) (Wk.trans Wk.kill2 ?_)
   simp only [hst]
   refine Wk.temps ?_
   (simp only [List.length_append,List.replicate,go_sem,qk,qi,qg,qj];try (repeat' first|(with_reducible apply And.intro)|(apply qe;omega)|(apply qa;rfl)|exact VLe.refl _))
  |false=>
   rw [g,if_neg (by simp)]at e1
   rw [g,if_neg (by simp),List.append_nil]at hst
   simp (disch:=omega) only [List.replicate,k1,k2,e1,eL,go_sem]
   repeat' first
    |((first|apply qd|apply qb);exact rvk;simp only [go_sem];first|exact VLe.refl _|apply qe|apply qa|apply qf|skip)
    |with_reducible first|apply And.intro|intro _
   all_goals try exact clz
   refine hK _ _ (i+1,v,w) hi (by simp only;omega) ?_
   simp only [hst]
   refine Wk.temps ?_
   (simp only [List.replicate,go_sem,qk,qi,qg,qj];try (repeat' first|(with_reducible apply And.intro)|(apply qe;omega)|(apply qa;rfl)|exact VLe.refl _))
 ·have k1:((i:Int)<64)=False:=eq_false (by omega)
  obtain rfl:i=64:=by omega
  rw [←hL]
  by_cases g:L= []
  ·subst g
   have e0:ja v 3 (qT [])= .emp v:=rfl
   rw [e0]
   simp (disch:=omega) only [List.replicate,k1,eL,go_sem]
   repeat' first
    |((first|apply qd|apply qb);exact rvk;simp only [go_sem];first|exact VLe.refl _|apply qe|apply qa|apply qf|skip)
    |with_reducible first|apply And.intro|intro _
   all_goals try exact clz
   exact kq
  ·have e0:ja v 3 (qT L)= .mem v 3 (qT L):=jD (fun e=>g (qez.1 e))
   rw [e0]
   simp (disch:=omega) only [List.replicate,k1,eL,go_sem]
   repeat' first
    |((first|apply qd|apply qb);exact rvk;simp only [go_sem];first|exact VLe.refl _|apply qe|apply qa|apply qf|skip)
    |with_reducible first|apply And.intro|intro _
   all_goals try exact clz
   rw [if_pos (by omega)]
   refine qeA _ ?_ rfl
   intro n
   rfl
end RC
end
section
open Go Go.Proofs AF HY LN
namespace RC
theorem qhN (L:List Int):(qp L).flag=true:=rfl
theorem qgc (L:List Int):(qp L).strip=qp L:=rfl
theorem qla {fz:Nat→Bool} {h:List AObj} {n:Nat} (L:List Int):frz fz h (n+1) (qp L)=qp L:=rfl
theorem qmu {fz:Nat→Bool} {h:List AObj} {n:Nat} (L:List Int):rei fz h (n+1) (qp L)=qp L:=rfl
theorem qkZ (L:List Str):(strs L).flag=true:=rfl
theorem qiH (L:List Str):(strs L).strip=strs L:=rfl
theorem qpe {fz:Nat→Bool} {h:List AObj} {n:Nat} (L:List Str):frz fz h (n+1) (strs L)=strs L:=rfl
theorem qp8 {fz:Nat→Bool} {h:List AObj} {n:Nat} (L:List Str):rei fz h (n+1) (strs L)=strs L:=rfl
theorem qkX (L:List Gr):(qG L).flag=true:=rfl
theorem qiF (L:List Gr):(qG L).strip=qG L:=rfl
theorem qpd {fz:Nat→Bool} {h:List AObj} {n:Nat} (L:List Gr):frz fz h (n+1) (qG L)=qG L:=rfl
theorem qp7 {fz:Nat→Bool} {h:List AObj} {n:Nat} (L:List Gr):rei fz h (n+1) (qG L)=qG L:=rfl
attribute [go_sem] qhN qgc qla qmu qkZ qiH qpe qp8 qkX qiF qpd qp7
def nIx (names:List Str) (s:Str):Int:=qac (fun j=>decide (s=names.getD j [])) names.length 0
def gIx (gs:List Gr) (s:Str):Int:=qac (fun j=>decide (s=(gs.getD j default).name)) gs.length 0
def qqi (names:List Str) (gs:List Gr) (sg:List Str) (i:Nat):Int:=
 if nIx names (sg.getD i [])<0∧gIx gs (sg.getD i [])<0 then 6 else if zH (fun j=>decide (sg.getD i []=sg.getD j [])) i=true then 7 else 0
def els (names:List Str) (gs:List Gr) (s:Str):List Int:=if 0≤nIx names s then [nIx names s] else (gs.getD (gIx gs s).toNat default).mem
def qq4 (names:List Str) (gs:List Gr) (sg:List Str):Nat→Nat
 |0=>0
 |i+1=>qq4 names gs sg i|||qb3 (els names gs (sg.getD i []))
def qkO (names:List Str) (gs:List Gr) (sg:List Str):Int:=if sgE names gs≠0 then 1 else qbq (qqi names gs sg) 0 sg.length
def qc9 (names:List Str) (gs:List Gr) (sg:List Str):List Int:=if qkO names gs sg=0 then kR (qq4 names gs sg sg.length).testBit 64 else []
theorem qf0 {b:Int} {l:List Int} (h:qik b l=0):inB b l∧ ∀i,0<i→i<l.length→l.getD (i-1) 0<l.getD i 0:=by
 unfold qik at h
 rw [km]at h
 refine ⟨fun i hi=> ?_,fun i h0 hi=> ?_⟩
 ·have:=h i hi
  unfold qfZ at this
  split at this
  ·cases this
  ·rename_i hc;omega
 ·have:=h i hi
  unfold qfZ at this
  split at this
  ·cases this
  ·split at this
   ·cases this
   ·rename_i hc;omega
structure qzZ (names:List Str) (gs:List Gr):Prop where
 n32:names.length≤32
 g16:gs.length≤16
 na: ∀i,i<names.length→jV names i=0
 gr: ∀i,i<gs.length→qhV names gs i=0
theorem qg8 {names:List Str} {gs:List Gr} (h:sgE names gs=0):qzZ names gs:=by
 unfold sgE at h
 split at h
 ·cases h
 split at h
 ·rename_i h1;exact absurd h h1
 split at h
 ·cases h
 rename_i h1 h2 h3
 exact ⟨by omega,by omega,km.1 (by simpa using h2),km.1 h⟩
theorem qlg {names:List Str} {gs:List Gr} (h:qzZ names gs) {i:Nat} (hi:i<gs.length):qik names.length (gs.getD i default).mem=0:=by
 have:=h.gr i hi
 unfold qhV at this
 repeat' split at this
 all_goals first|(cases this;done)|exact this
theorem qlI (names:List Str) (s:Str):(∃k:Nat,k<names.length∧names.getD k []=s∧nIx names s=k)∨((∀j,j<names.length→s≠names.getD j [])∧nIx names s= -1):=by
 rcases zP (fun j=>decide (s=names.getD j [])) names.length with ⟨i,h1,h2,_,h4⟩|⟨h1,h2⟩
 ·exact .inl ⟨i,h1,(of_decide_eq_true h2).symm,h4⟩
 ·exact .inr ⟨fun j hj=>of_decide_eq_false (h1 j hj),h2⟩
theorem qle (gs:List Gr) (s:Str):(∃k:Nat,k<gs.length∧(gs.getD k default).name=s∧gIx gs s=k)∨((∀j,j<gs.length→s≠(gs.getD j default).name)∧gIx gs s= -1):=by
 rcases zP (fun j=>decide (s=(gs.getD j default).name)) gs.length with ⟨i,h1,h2,_,h4⟩|⟨h1,h2⟩
 ·exact .inl ⟨i,h1,(of_decide_eq_true h2).symm,h4⟩
 ·exact .inr ⟨fun j hj=>of_decide_eq_false (h1 j hj),h2⟩
theorem qkH {names:List Str} {gs:List Gr} {s:Str} (h:qzZ names gs) (hf: ¬(nIx names s<0∧gIx gs s<0)):inB names.length (els names gs s):=by
 unfold els
 rcases qlI names s with ⟨k,h1,_,h3⟩|⟨_,h3⟩
 ·rw [h3,if_pos (by omega)]
  intro i hi
  have:i=0:=by simpa using hi
  subst this
  simp only [List.getD_cons_zero]
  omega
 ·rw [h3,if_neg (by omega)]
  rcases qle gs s with ⟨k,g1,_,g3⟩|⟨_,g3⟩
  ·rw [g3,Int.toNat_natCast]
   exact (qf0 (qlg h g1)).1
  ·exact absurd ⟨by omega,by omega⟩ hf
theorem qgN {b c:Int} {l:List Int} (h:inB b l) (hbc:b≤c):inB c l:=fun i hi=>⟨(h i hi).1,by have:=(h i hi).2;omega⟩
theorem qr4 {names:List Str} {gs:List Gr} {sg:List Str} (h:qzZ names gs): ∀ {i:Nat},(∀j,j<i→qqi names gs sg j=0)→qq4 names gs sg i<2^64∧ ∀k,(qq4 names gs sg i).testBit k=decide (∃j,j<i∧(k:Int)∈els names gs (sg.getD j [])):=by
 intro i
 induction i with
 |zero=>intro _;exact ⟨Nat.two_pow_pos 64,fun k=>by simp [qq4]⟩
 |succ i ih=>
  intro hz
  obtain ⟨h1,h2⟩:=ih (fun j hj=>hz j (by omega))
  have h3: ¬(nIx names (sg.getD i [])<0∧gIx gs (sg.getD i [])<0):=by
   intro hc
   have:=hz i (by omega)
   unfold qqi at this
   rw [if_pos hc]at this
   cases this
  have h4:inB 64 (els names gs (sg.getD i [])):=qgN (qkH h h3) (by have:=h.n32;omega)
  refine ⟨Nat.or_lt_two_pow h1 (qgT h4),fun k=> ?_⟩
  unfold qq4
  rw [Nat.testBit_or,h2 k,qlG h4 k,←Bool.decide_or]
  refine decide_eq_decide.2 ⟨?_,?_⟩
  ·rintro (⟨j,hj,hm⟩|hm)
   ·exact ⟨j,by omega,hm⟩
   ·exact ⟨i,by omega,hm⟩
  ·rintro ⟨j,hj,hm⟩
   by_cases e:j=i
   ·subst e;exact .inr hm
   ·exact .inl ⟨j,by omega,hm⟩
end RC
end
section
namespace AF
open Go Go.RowKit
theorem Ext.ofBelow {w w':World} {σ:List OB} {h:List AObj} (H:HR w σ h) (hb:Below w.heap.size w w'):HR w' σ h∧Ext w σ w' σ:=by
 have e:Ext w σ w' σ:=⟨hb.os,hb.tape,hb.output,hb.size,fun b hl _=>hb.block b hl,fun _ h=> .inl h,fun _ o h=>⟨o,h,Nat.le_refl _,fun _=>rfl⟩,
  fun b r h=>⟨r,(hb.block b (Array.getElem?_eq_some_iff.1 h).1).trans h⟩⟩
 exact ⟨⟨H.len,H.inj,fun k o b h1 h2=>Nat.lt_of_lt_of_le (H.lt k o b h1 h2) hb.size,fun k a o h1 h2=>(H.obj k a o h1 h2).ext e (fun b h3=>hb.block b (H.lt k o b h2 h3))⟩,e⟩
end AF
end
section
namespace AF
open Go Go.ChangeShapes Go.WideShapes Go.ChangeAt Go.RowKit
def qmj:OB:=⟨none,0,0,0⟩
theorem qfQ (b:Nat): ¬own [qmj] b:=by
 rintro ⟨k,o,h,h2⟩
 cases k with
 |zero=>simp at h;subst h;cases h2
 |succ k=>simp at h
theorem qx0 {w:World} {bs:List Nat} {G:World→Prop} (hb: ∀b,b∈bs→ ∃arr T fz,w.heap[b]? =some (.cells arr T fz)) (hG: ∀w':World,(∀b,b∈bs→w'.heap[b]? =w.heap[b]?)→G w'):
  HR w [qmj] [.pin bs G]:=by
 refine ⟨rfl,?_,?_,?_⟩
 ·intro i j oi oj b hi hj bi
  cases i with
  |zero=>simp at hi;subst hi;cases bi
  |succ i=>simp at hi
 ·intro k o b hk hb'
  cases k with
  |zero=>simp at hk;subst hk;cases hb'
  |succ k=>simp at hk
 ·intro k a o ha ho
  cases k with
  |zero=>
   simp at ha ho
   subst ha;subst ho
   exact ⟨rfl,rfl,fun b h=>⟨qfQ b,hb b h⟩,hG⟩
  |succ k=>simp at ha
theorem qtc (w:World):Ext w [] w [qmj]:=
 ⟨rfl,rfl,rfl,Nat.le_refl _,fun _ _ _=>rfl,fun b h=>absurd h (qfQ b),fun k o h=>by simp at h,fun _ r h=>⟨r,h⟩⟩
theorem qjb {w w':World} {σ':List OB} (h:Ext w [qmj] w' σ'):Below w.heap.size w w':=⟨h.os,h.tape,h.output,h.size,fun k hk=>h.keep k hk (qfQ k)⟩
theorem VRs.ext {w w':World} {σ σ':List OB} (h:Ext w σ w' σ') {avs:List AV} {xs:List Value} (hv:VRs w σ avs xs):VRs w' σ' avs xs:=⟨hv.1,fun i c x hc hx=>(hv.2 i c x hc hx).ext h⟩
theorem qyi {w:World} {σ:List OB} {h:List AObj} {k:Nat} {bs:List Nat} {G:World→Prop} (H:HR w σ h) (hk:h[k]? =some (.pin bs G)):G w:=by
 have hl:k<σ.length:=by rw [H.len];exact (List.getElem?_eq_some_iff.1 hk).1
 obtain ⟨_,_,_,h4⟩:=H.obj k _ σ[k] hk (zU hl)
 exact h4 w (fun _ _=>rfl)
theorem qbQ {H:Type} {enc:TypeId×Value→H} {P:Program} {W:World} {f:Func} {fid:FuncId} {s:ChangeSpec} {args:Array Value} {ds gs:List (DataW H)} {before:List MemPlace} {tb:TypeId} {bs:List Nat} {G:World→Prop}
  (hl:laidOutB P=true) (hv:s.vars= []) (hfn: ∀ds',ds'.length=f.params.size→s.fn H ds'= { results:= [.lit (.bool true)],args:=ds' })
  (hrt:f.resultTypes= #[tb]) (htb:P.underlying tb=some .bool) (hro: ∀t∈f.params.toList,P.readableRec t=true∧t<P.types.size)
  (hW:DataW.Whole enc P f.params.toList s.vars false W args.toList ds gs before)
  (hb: ∀b,b∈bs→ ∃arr T fz,W.heap[b]? =some (.cells arr T fz)) (hG: ∀w':World,(∀b,b∈bs→w'.heap[b]? =W.heap[b]?)→G w')
  (hc: ∀p,DataW.TrodAll enc P W 0 (fun _=>true) true f.params.toList args.toList ds p→ds.length=f.params.size∧ ∃avs:List AV,VRs W [] avs args.toList∧ACalls P fid avs [.pin bs G] (.bool true) [.pin bs G]):
  Calls P fid args W fun e W'=> ∃v,e= .returned v∧s.post enc P f false true false false W args v W':=by
 have hW':=hW
 obtain ⟨p,q,hA,hV,rfl,hz,_⟩:=hW
 rw [hv]at hV
 obtain ⟨rfl,rfl⟩:=trodVars_none hV
 obtain ⟨hlen,avs,h1,h2⟩:=hc p hA
 rw [List.append_nil]at hW'
 have h3:=h2.2 W [qmj] args.toList (qx0 hb hG) (h1.ext (qtc W))
 rw [Array.toArray_toList]at h3
 refine (callsIn_wide.1 h3).mono ?_
 rintro e W' ⟨v,σ',rfl,g1,g2,g3⟩
 obtain rfl:=jj g2
 exact ⟨_,rfl,qpr hl hv (hfn ds hlen) hrt htb hro hW' hA (qjb g3)⟩
theorem qdZ {P:Program} {w w':World} {name:String} {g:Nat} (hg:P.globalNamed name=some g) (h:w'.heap[g]? =w.heap[g]?):w'.var? P name=w.var? P name:=by
 unfold World.var?
 rw [hg]
 simp only [Option.bind_some]
 rw [h]
theorem qcP {P:Program} {w:World} {name:String} {g:Nat} {cs:Array Value} (hg:P.globalNamed name=some g) (h:w.var? P name=some cs): ∃arr T fz,w.heap[g]? =some (.cells arr T fz):=by
 unfold World.var? at h
 rw [hg]at h
 simp only [Option.bind_some]at h
 split at h
 ·rename_i cs T fz hc
  exact ⟨_,_,_,hc⟩
 ·cases h
end AF
end
section
open Go Go.Proofs AF HY
namespace LN
def qq3 (w : World) : Prop := Lib.TabIs Tryz.prog w "internal/strconv.uint64pow10" .u64 Lib.pow10Tab
def qvg (w : World) : Prop := (∃ tp p, w.var? Tryz.prog "strconv.ErrSyntax" = some #[.iface tp p]) ∧ ∃ tp p, w.var? Tryz.prog "strconv.ErrRange" = some #[.iface tp p]
def qbk (Q:World→Prop) (h:List AObj):Prop:= ∃(k:Nat) (bs:List Nat) (G:World→Prop),h[k]? =some (.pin bs G)∧ ∀w,G w→Q w
theorem qbk.app {Q:World→Prop} {h:List AObj} (hp:qbk Q h) (l:List AObj):qbk Q (h++l):=by
 obtain ⟨k,bs,G,h1,h2⟩:=hp
 exact ⟨k,bs,G,by rw [List.getElem?_append_left (List.getElem?_eq_some_iff.1 h1).1];exact h1,h2⟩
theorem qbk.mono {Q Q':World→Prop} {h:List AObj} (hp:qbk Q h) (hq: ∀w,Q w→Q' w):qbk Q' h:=by
 obtain ⟨k,bs,G,h1,h2⟩:=hp
 exact ⟨k,bs,G,h1,fun w hw=>hq w (h2 w hw)⟩
theorem qbk.of {Q:World→Prop} {h:List AObj} {w:World} {σ:List OB} (hp:qbk Q h) (H:HR w σ h):Q w:=by
 obtain ⟨k,bs,G,h1,h2⟩:=hp
 exact h2 w (qyi H h1)
theorem t48 (n:Int) (h:List AObj) (hp:qbk qq3 h) (h0: -9223372036854775808≤n) (h1:n≤9223372036854775807):ACalls Tryz.prog 86 [.int .i64 n] h (.str (Lib.itoa n)) h:=by
 refine ⟨qyd Tryz.func86 (by kernel_rfl) (by kernel_rfl),fun w σ xs H hv=> ?_⟩
 obtain ⟨x,rfl,hx⟩:=hv.one
 rw [zA hx]
 refine (callsIn_wide.2 (Any.strconv_Itoa Tryz.laysM171 n h0 h1 w (hp.of H))).mono ?_
 rintro e w' ⟨rfl,k,os,rfl⟩
 obtain ⟨g1,g2⟩:=Ext.ofBelow H (Lib.below_grow w.heap.size w (Nat.le_refl _) k os)
 exact ⟨_,σ,rfl,g1,.imm .str,g2⟩
def qvq (s:List UInt8):Int:=
 match Lib.atoiAll s with
 | .ok _=>0
 | .range=>Lib.atoiSat s
 |_=>0
def qsd (s:List UInt8):AV:=
 match Lib.atoiAll s with
 | .ok v=> .tup [.int .i64 v,.nilif]
 |_=> .tup [.int .i64 (qvq s),.ifc]
theorem t50 (s:List UInt8) (h:List AObj) (hp:qbk qvg h) (hl:s.length≤281474976710656):ACalls Tryz.prog 291 [.str s] h (qsd s) h:=by
 refine ⟨qyd Tryz.func291 (by kernel_rfl) (by kernel_rfl),fun w σ xs H hv=> ?_⟩
 obtain ⟨x,rfl,hx⟩:=hv.one
 rw [jc hx]
 have hsz:(⟨s.toArray⟩:ByteArray).size≤281474976710656:=by simpa [ByteArray.size] using hl
 obtain ⟨⟨t1,p1,e1⟩,t2,p2,e2⟩:=hp.of H
 unfold qsd qvq
 have hd:(⟨s.toArray⟩:ByteArray).data.toList=s:=rfl
 cases hs:Lib.atoiAll s
 ·rename_i v
  refine (callsIn_wide.2 (Any.strconv_Atoi_ok Tryz.laysC172 ⟨s.toArray⟩ (by omega) v (by rw [hd];exact hs) w)).mono ?_
  rintro e w' ⟨rfl,hw⟩
  have hb:Go.RowKit.Below w.heap.size w w':=by
   rcases hw with rfl|⟨t,rfl⟩
   ·exact Go.RowKit.Below.refl _ _
   ·exact Lib.bytesWorld_below _ _ _
  obtain ⟨g1,g2⟩:=Ext.ofBelow H hb
  refine ⟨_,σ,rfl,g1,.imm (.tup rfl (fun i c y hc hy=> ?_)),g2⟩
  match i with
  |0=>simp at hc hy;subst hc hy;exact .int
  |1=>simp at hc hy;subst hc hy;exact .nilif
  |i+2=>simp at hc
 ·refine (callsIn_wide.2 (Any.strconv_Atoi_syntax_var Tryz.laysC172 ⟨s.toArray⟩ hsz (by rw [hd];exact hs) t1 p1 w e1)).mono ?_
  rintro e w' ⟨N,rfl,_,_,hb⟩
  obtain ⟨g1,g2⟩:=Ext.ofBelow H hb
  refine ⟨_,σ,rfl,g1,.imm (.tup rfl (fun i c y hc hy=> ?_)),g2⟩
  match i with
  |0=>simp at hc hy;subst hc hy;exact .int
  |1=>simp at hc hy;subst hc hy;exact .ifc
  |i+2=>simp at hc
 ·refine (callsIn_wide.2 (Any.strconv_Atoi_range_var Tryz.laysC172 ⟨s.toArray⟩ hsz (by rw [hd];exact hs) t2 p2 w e2)).mono ?_
  rintro e w' ⟨N,rfl,_,_,hb⟩
  obtain ⟨g1,g2⟩:=Ext.ofBelow H hb
  refine ⟨_,σ,rfl,g1,.imm (.tup rfl (fun i c y hc hy=> ?_)),g2⟩
  match i with
  |0=>simp at hc hy;subst hc hy;exact .int
  |1=>simp at hc hy;subst hc hy;exact .ifc
  |i+2=>simp at hc
end LN
end
section
open Go Go.Proofs AF HY
namespace LN
theorem ql5: ∀(l r:List UInt8) (acc:Nat),Lib.parseUint10 acc (l++r)=match Lib.parseUint10 acc l with
  | .ok v=>Lib.parseUint10 v r
  |e=>e:=by
 intro l
 induction l with
 |nil=>intro r acc;rfl
 |cons c l ih=>
  intro r acc
  rw [List.cons_append,Lib.parseUint10,Lib.parseUint10]
  by_cases h1:48≤c.toNat∧c.toNat≤57
  ·rw [if_pos h1,if_pos h1]
   by_cases h2:1844674407370955162≤acc
   ·rw [if_pos h2,if_pos h2]
   ·rw [if_neg h2,if_neg h2]
    by_cases h3:18446744073709551616≤acc*10+(c.toNat-48)
    ·rw [if_pos h3,if_pos h3]
    ·rw [if_neg h3,if_neg h3]
     exact ih r _
  ·rw [if_neg h1,if_neg h1]
theorem qdy {d:Nat} (h:d<10):(UInt8.ofNat (48+d)).toNat=48+d:=by
 rw [UInt8.toNat_ofNat']
 omega
theorem ql6: ∀u,u<1000000000→Lib.parseUint10 0 (Lib.decDigits u)= .ok u:=by
 intro u
 induction u using Nat.strongRecOn with
 |_ u ih=>
  intro hu
  by_cases h:u<10
  ·rw [Lib.decDigits,dif_pos h,Lib.parseUint10,qdy h,if_pos (by omega),if_neg (by omega),if_neg (by omega),Lib.parseUint10]
   congr 1
   omega
  ·rw [Lib.decDigits,dif_neg h,ql5,ih (u/10) (by omega) (by omega)]
   simp only
   rw [Lib.parseUint10,qdy (by omega),if_pos (by omega),if_neg (by omega),if_neg (by omega),Lib.parseUint10]
   congr 1
   omega
theorem qhG: ∀u,∀c∈Lib.decDigits u,48≤c.toNat∧c.toNat≤57:=by
 intro u
 induction u using Nat.strongRecOn with
 |_ u ih=>
  intro c hc
  by_cases h:u<10
  ·rw [Lib.decDigits,dif_pos h,List.mem_singleton]at hc
   subst hc
   rw [qdy h]
   omega
  ·rw [Lib.decDigits,dif_neg h]at hc
   rcases List.mem_append.1 hc with hc|hc
   ·exact ih (u/10) (by omega) c hc
   ·rw [List.mem_singleton]at hc
    subst hc
    rw [qdy (by omega)]
    omega
theorem qwq (u:Nat):Lib.decDigits u≠ []:=by
 intro h
 have:=Lib.decDigits_length u
 have:=Lib.nDigits_pos u
 rw [h]at*
 simp at*
 omega
theorem qi8 {n:Int} (h0:0≤n) (h1:n<1000000000):Lib.atoiAll (Lib.itoa n)= .ok n:=by
 obtain ⟨u,rfl⟩: ∃u:Nat,n=u:=⟨n.toNat,by omega⟩
 rw [Lib.itoa_nonneg]
 have hd:=qhG u
 have hp:=ql6 u (by omega)
 have hne:=qwq u
 cases hl:Lib.decDigits u with
 |nil=>exact absurd hl hne
 |cons c r=>
  rw [hl]at hd hp
  have hc:=hd c (List.mem_cons_self ..)
  unfold Lib.atoiAll
  simp only
  rw [if_neg (show¬(c.toNat=43∨c.toNat=45) by omega)]
  unfold Lib.parseMag
  rw [if_neg (by simp),hp]
  simp only
  rw [if_neg (by omega),if_neg (by omega),if_neg (by omega)]
end LN
end
section
open Go Go.Proofs AF HY LN
namespace RC
theorem qoh {s:Str} {v:Int} (h:Lib.atoiAll s= .ok v): -9223372036854775808≤v∧v≤9223372036854775807:=by
 unfold Lib.atoiAll at h
 split at h
 ·cases h
 ·simp only at h
  split at h
  ·cases h
  ·cases h
  ·split at h
   ·cases h
   ·split at h
    ·cases h
    ·rename_i h1 h2
     cases h
     split
     ·rename_i h3;have:=mt (And.intro h3) h2;omega
     ·rename_i h3;have:=mt (And.intro h3) h1;omega
theorem qlu {k:Nat} (h:k≤64):(Lib.itoa (k:Int)).length≤9:=by
 rw [Lib.itoa_nonneg]
 by_cases g:k<10
 ·rw [Lib.decDigits,dif_pos g];simp
 ·rw [Lib.decDigits,dif_neg g,Lib.decDigits,dif_pos (show k/10<10 by omega)];simp
def SG (w:World):Prop:=qq3 w∧qvg w
theorem SG.pow {h:List AObj} (hp:qbk SG h):qbk qq3 h:=hp.mono fun _ h=>h.1
theorem SG.err {h:List AObj} (hp:qbk SG h):qbk qvg h:=hp.mono fun _ h=>h.2
def pre (s:Str):Bool:=decide (1≤s.length)&&decide (s.take 1= [91])
def qpg (s:Str):Bool:=(List.range 64).any fun k=>decide (s=91::(Lib.itoa ((k+1:Nat):Int)++ [93]))
def qBN (s:Str):Bool:=qaJ s||(if s.length=1 then decide (jb (ch s 0)=5)||decide (jb (ch s 0)=4) else qpg s)
end RC
end
section
open Go Go.Proofs AF HY LN
namespace RC
set_option maxHeartbeats 4000000
def wE (s:Str):Int:=if qBN s=true then 0 else 11
def qnV (L:List Str):Int:=qbq (fun i=>wE (L.getD i [])) 0 L.length
end RC
end
section
open Go Go.Proofs AF HY LN
namespace RC
set_option maxHeartbeats 4000000
end RC
end
section
open Go Go.Proofs AF HY LN
namespace RC
set_option maxHeartbeats 4000000
end RC
end
section
open Go Go.Proofs AF HY LN
namespace RC
set_option maxHeartbeats 4000000
def qq8 (C L:List Int):List Int:=L.foldl (fun C n=>C.set n.toNat (C.getD n.toNat 0+1)) C
theorem qop (L:List Int): ∀C:List Int,(qq8 C L).length=C.length:=by
 induction L with
 |nil=>intro C;rfl
 |cons n L ih=>intro C;show (qq8 (C.set _ _) L).length=_;rw [ih];simp
theorem qlq {C:List Int} {n:Nat} (h:n<C.length):(qT C)[n]? =some (.int .i64 (C.getD n 0)):=by
 unfold qT
 rw [List.getElem?_map,zU h,gdqA,zU h]
 rfl
theorem qoV {names:List Str} {gs:List Gr} {sg:List Str}:inB names.length (qc9 names gs sg)∧ ∀i,0<i→i<(qc9 names gs sg).length→(qc9 names gs sg).getD (i-1) 0<(qc9 names gs sg).getD i 0:=by
 unfold qc9
 split
 ·rename_i h
  have h':=h
  unfold qkO at h'
  split at h'
  ·cases h'
  rename_i h1
  have hok:=qg8 (by simpa using h1)
  have hz:=km.1 h'
  obtain ⟨m1,m2⟩:=qr4 hok hz
  have hsort:(kR (qq4 names gs sg sg.length).testBit 64).Pairwise (· < ·):=by
   unfold kR
   rw [List.pairwise_map]
   exact (List.pairwise_lt_range.filter _).imp (fun h=>Int.ofNat_lt.2 h)
  have hmem: ∀n∈kR (qq4 names gs sg sg.length).testBit 64,0≤n∧n<names.length:=by
   intro n hn
   unfold kR at hn
   obtain ⟨k,hk,rfl⟩:=List.mem_map.1 hn
   have hk2:=(List.mem_filter.1 hk).2
   rw [m2 k]at hk2
   obtain ⟨j,hj,hm⟩:=of_decide_eq_true hk2
   have hf: ¬(nIx names (sg.getD j [])<0∧gIx gs (sg.getD j [])<0):=by
    intro hc
    have:=hz j hj
    unfold qqi at this
    rw [if_pos hc]at this
    cases this
   exact qa9 (qkH hok hf) _ hm
  refine ⟨fun i hi=> ?_,fun i h0 hi=> ?_⟩
  ·rw [gdqA,zU hi]
   exact hmem _ (List.getElem_mem hi)
  ·rw [gdqA,gdqA,zU hi,zU (show i-1<_ by omega)]
   exact List.pairwise_iff_getElem.1 hsort (i-1) i (by omega) hi (by omega)
 ·exact ⟨fun i hi=>absurd hi (Nat.not_lt_zero i),fun i _ hi=>absurd hi (Nat.not_lt_zero i)⟩
theorem qoW {names:List Str} {gs:List Gr} {sg:List Str}:inB 32 (qc9 names gs sg):=by
 by_cases h:qkO names gs sg=0
 ·have h':=h
  unfold qkO at h'
  split at h'
  ·cases h'
  rename_i h1
  have hok:=qg8 (by simpa using h1)
  exact qgN qoV.1 (by have:=hok.n32;omega)
 ·have:qc9 names gs sg= []:=by unfold qc9;rw [if_neg h]
  rw [this]
  exact fun i hi=>absurd hi (Nat.not_lt_zero i)
end RC
end
section
open Go Go.Proofs AF HY LN
namespace RC
set_option maxHeartbeats 4000000
structure Tk where
 text:Str
 norm:Str
 page:Str
 line:Int
 flags:Int
 name:Str
 deriving Inhabited, DecidableEq
def tkC (t:Tk):List AV:= [.str t.text,.str t.norm,.str t.page,.int .i64 t.line,.int .i64 t.flags,.str t.name]
def jt (l:List Tk):AV:= .sl l.length fun i=>tkC (l.getD i default)
def qn (L:List (List Tk)):AV:= .sl L.length fun i=> [jt (L.getD i [])]
def qm (L:List (List Int)):AV:= .sl L.length fun i=> [qp (L.getD i [])]
structure Co where
 sec:Str
 sig:List Str
 tok:List (List Tk)
 col:List (List Int)
 deriving Inhabited
def coC (x:Co):List AV:= [.str x.sec,strs x.sig,qn x.tok,qm x.col]
structure Rd where
 words:List Str
 src:List Int
 deriving Inhabited, DecidableEq
def rdC (r:Rd):List AV:= [strs r.words,qp r.src]
def zJ (l:List Rd):AV:= .sl l.length fun i=>rdC (l.getD i default)
structure Un where
 frm:Int
 to:Int
 rds:List Rd
 deriving Inhabited, DecidableEq
def unC (u:Un):List AV:= [.int .i64 u.frm,.int .i64 u.to,zJ u.rds]
def qE (l:List Un):AV:= .sl l.length fun i=>unC (l.getD i default)
structure Wd where
 text:Str
 col:Int
 unit:Int
 dec:Int
 joined:Bool
 verse:Bool
 name:Str
 deriving Inhabited, DecidableEq
def wdC (w:Wd):List AV:= [.str w.text,.int .i64 w.col,.int .i64 w.unit,.int .i64 w.dec,.bool w.joined,.bool w.verse,.str w.name]
def qO (l:List Wd):AV:= .sl l.length fun i=>wdC (l.getD i default)
theorem flag_tksV (L:List Tk):(jt L).flag=true:=rfl
theorem strip_tksV (L:List Tk):(jt L).strip=jt L:=rfl
theorem flag_tkssV (L:List (List Tk)):(qn L).flag=true:=rfl
theorem strip_tkssV (L:List (List Tk)):(qn L).strip=qn L:=rfl
theorem flag_colsV (L:List (List Int)):(qm L).flag=true:=rfl
theorem strip_colsV (L:List (List Int)):(qm L).strip=qm L:=rfl
theorem flag_rdsV (L:List Rd):(zJ L).flag=true:=rfl
theorem strip_rdsV (L:List Rd):(zJ L).strip=zJ L:=rfl
theorem flag_unsV (L:List Un):(qE L).flag=true:=rfl
theorem strip_unsV (L:List Un):(qE L).strip=qE L:=rfl
theorem flag_wdsV (L:List Wd):(qO L).flag=true:=rfl
theorem strip_wdsV (L:List Wd):(qO L).strip=qO L:=rfl
section
variable {fz : Nat → Bool} {h : List AObj} {n : Nat}
theorem rei_tksV (L:List Tk):rei fz h (n+1) (jt L)=jt L:=rfl
theorem rei_tkssV (L:List (List Tk)):rei fz h (n+1) (qn L)=qn L:=rfl
theorem rei_colsV (L:List (List Int)):rei fz h (n+1) (qm L)=qm L:=rfl
theorem rei_rdsV (L:List Rd):rei fz h (n+1) (zJ L)=zJ L:=rfl
theorem rei_unsV (L:List Un):rei fz h (n+1) (qE L)=qE L:=rfl
theorem rei_wdsV (L:List Wd):rei fz h (n+1) (qO L)=qO L:=rfl
theorem frz_tksV (L:List Tk):frz fz h (n+1) (jt L)=jt L:=rfl
theorem frz_tkssV (L:List (List Tk)):frz fz h (n+1) (qn L)=qn L:=rfl
theorem frz_colsV (L:List (List Int)):frz fz h (n+1) (qm L)=qm L:=rfl
theorem frz_rdsV (L:List Rd):frz fz h (n+1) (zJ L)=zJ L:=rfl
theorem frz_unsV (L:List Un):frz fz h (n+1) (qE L)=qE L:=rfl
theorem frz_wdsV (L:List Wd):frz fz h (n+1) (qO L)=qO L:=rfl
end
attribute [go_sem] flag_tksV strip_tksV flag_tkssV strip_tkssV flag_colsV strip_colsV flag_rdsV strip_rdsV flag_unsV strip_unsV flag_wdsV strip_wdsV rei_tksV rei_tkssV rei_colsV rei_rdsV rei_unsV rei_wdsV frz_tksV frz_tkssV frz_colsV frz_rdsV frz_unsV frz_wdsV
def qts (f:Int):Bool:=f.toNat.testBit 1
def mkB (f:Int):Bool:=f.toNat.testBit 3
def qu8 (s:Str):Bool:=decide (s= [])||jF s
def qz2 (s:Str):Bool:=decide (s.length=1)&&(decide (jb (ch s 0)=5)||decide (jb (ch s 0)=4))
def qtC (c:UInt8):Bool:=decide (jb c=1)||(decide (jb c=3)||(decide (jb c=2)||decide (jb c=4)))
def qya (s:Str):Bool:=decide (s≠ [])&&(decide (s.length≤64)&&(List.range s.length).all fun i=>qtC (ch s i))
def txB (t:Tk):Bool:=if qts t.flags=true then qpg t.text&&decide (t.norm=t.text) else if mkB t.flags=true then qz2 t.text&&decide (t.norm=t.text) else qaJ t.text&&qya t.norm
def tkE (t:Tk):Int:=
 if t.flags<0∨31<t.flags then 2 else if qts t.flags=true∧mkB t.flags=true then 8 else if txB t=false then 11 else if t.line<0 then 2 else if qu8 t.page=false∨qu8 t.name=false then 14 else 0
def qiL (l:List Tk):Int:=if 1024<l.length then 4 else if zH (fun j=>decide (tkE (l.getD j default)≠0)) l.length=true then 1 else 0
def srE (x:Co):Int:=
 if jF x.sec=false then 14 else if x.sig.length=0 then 5 else if 32<x.sig.length then 4 else if qbq (jV x.sig) 0 x.sig.length≠0 then qbq (jV x.sig) 0 x.sig.length else
  if x.tok.length≠x.sig.length then 9 else qbq (fun i=>qiL (x.tok.getD i [])) 0 x.tok.length
def cnC (col:List (List Int)) (s:Nat):Nat→Nat
 |0=>0
 |i+1=>cnC col s i+if (col.getD i []).getD s 0= -1 then 0 else 1
def enB (tok:List (List Tk)) (col:List (List Int)) (i s:Nat):Bool:=
 decide ((col.getD i []).getD s 0= -1)||(decide ((col.getD i []).getD s 0=(cnC col s i:Int))&&decide ((col.getD i []).getD s 0<((tok.getD s []).length:Int)))
def qfC (tok:List (List Tk)) (col:List (List Int)) (i:Nat):Bool:=
 decide ((col.getD i []).length=tok.length)&&(!zH (fun s=> !enB tok col i s) tok.length&&zH (fun s=> !decide ((col.getD i []).getD s 0= -1)) tok.length)
def alB (tok:List (List Tk)) (col:List (List Int)):Bool:=
 !zH (fun i=> !qfC tok col i) col.length&& !zH (fun s=> !decide (cnC col s col.length=(tok.getD s []).length)) tok.length
def coE (x:Co):Int:=if srE x≠0 then srE x else if alB x.tok x.col=false then 19 else 0
structure CoOk (x:Co):Prop where
 sg:0<x.sig.length∧x.sig.length≤32
 tn:x.tok.length=x.sig.length
 tl: ∀s,s<x.tok.length→(x.tok.getD s []).length≤1024
 te: ∀s,s<x.tok.length→ ∀j,j<(x.tok.getD s []).length→tkE ((x.tok.getD s []).getD j default)=0
 cl: ∀i,i<x.col.length→(x.col.getD i []).length=x.sig.length
 ce: ∀i,i<x.col.length→ ∀s,s<x.sig.length→(x.col.getD i []).getD s 0= -1∨((x.col.getD i []).getD s 0=(cnC x.col s i:Int)∧(x.col.getD i []).getD s 0<((x.tok.getD s []).length:Int))
 cs: ∀i,i<x.col.length→ ∃s,s<x.sig.length∧(x.col.getD i []).getD s 0≠ -1
 ct: ∀s,s<x.sig.length→cnC x.col s x.col.length=(x.tok.getD s []).length
theorem qkx {x:Co} (h:coE x=0):CoOk x:=by
 unfold coE at h
 split at h
 ·rename_i h1;exact absurd h h1
 rename_i h1
 have h1:=Classical.not_not.1 h1
 split at h
 ·cases h
 rename_i h2
 unfold srE at h1
 split at h1
 ·cases h1
 split at h1
 ·cases h1
 rename_i g2
 split at h1
 ·cases h1
 rename_i g3
 split at h1
 ·rename_i g4;exact absurd h1 g4
 split at h1
 ·cases h1
 rename_i g5
 have g5:=Classical.not_not.1 g5
 have h3:=km.1 h1
 have h2:alB x.tok x.col=true:=by simpa using h2
 unfold alB at h2
 rw [Bool.and_eq_true,Bool.not_eq_true',Bool.not_eq_true',qo,qo]at h2
 obtain ⟨h4,h5⟩:=h2
 have h6: ∀i,i<x.col.length→qfC x.tok x.col i=true:=fun i hi=>by simpa using h4 i hi
 have hrow: ∀s,s<x.tok.length→(x.tok.getD s []).length≤1024∧ ∀j,j<(x.tok.getD s []).length→tkE ((x.tok.getD s []).getD j default)=0:=fun s hs=>by
  have:=h3 s hs
  unfold qiL at this
  split at this
  ·cases this
  rename_i k1
  split at this
  ·cases this
  rename_i k2
  refine ⟨by omega,fun j hj=> ?_⟩
  have:=qo.1 (by simpa using k2) j hj
  simpa using this
 refine ⟨by omega,g5,fun s hs=>(hrow s hs).1,fun s hs=>(hrow s hs).2,fun i hi=> ?_,fun i hi s hs=> ?_,fun i hi=> ?_,fun s hs=> ?_⟩
 ·have:=h6 i hi
  unfold qfC at this
  rw [Bool.and_eq_true,decide_eq_true_iff]at this
  omega
 ·have:=h6 i hi
  unfold qfC at this
  rw [Bool.and_eq_true,Bool.and_eq_true,Bool.not_eq_true',qo]at this
  have:=this.2.1 s (by omega)
  have this:enB x.tok x.col i s=true:=by simpa using this
  unfold enB at this
  simpa [Bool.or_eq_true,Bool.and_eq_true] using this
 ·have:=h6 i hi
  unfold qfC at this
  rw [Bool.and_eq_true,Bool.and_eq_true]at this
  obtain ⟨s,hs,hv⟩:=qL.1 this.2.2
  exact ⟨s,by omega,by simpa using hv⟩
 ·have:=h5 s (by omega)
  simpa using this
end RC
end
section
open Go Go.Proofs AF HY LN
namespace RC
set_option maxHeartbeats 4000000
def clT (x:Co) (k s:Nat):Option Str:=if (x.col.getD k []).getD s 0<0 then none else some ((x.tok.getD s []).getD ((x.col.getD k []).getD s 0).toNat default).text
def cmB (x:Co) (k:Nat):Bool:= !zH (fun s=>decide (clT x k s=none)|| !decide (clT x k s=clT x k 0)) x.sig.length
def rdG (x:Co) (s f:Nat):Nat→List Str
 |0=> []
 |d+1=>rdG x s f d++(clT x (f+d) s).toList
theorem qdQ (x:Co) (s f:Nat): ∀d,(rdG x s f d).length≤d:=by
 intro d
 induction d with
 |zero=>exact Nat.le_refl _
 |succ d ih=>
  unfold rdG
  rw [List.length_append]
  cases clT x (f+d) s with
  |none=>simp only [Option.toList_none,List.length_nil];omega
  |some w=>simp only [Option.toList_some,List.length_cons,List.length_nil];omega
def qi3 (L:List Rd) (w:List Str):Int:=qac (fun j=>decide (w=(L.getD j default).words)) L.length 0
def qe8 (L:List Rd) (w:List Str) (s:Nat):List Rd:=if qi3 L w<0 then L++ [⟨w,[(s:Int)]⟩] else L.set (qi3 L w).toNat ⟨w,(L.getD (qi3 L w).toNat default).src++ [(s:Int)]⟩
def qbT (x:Co) (f d:Nat):Nat→List Rd
 |0=> []
 |s+1=>qe8 (qbT x f d s) (rdG x s f d) s
def qid (x:Co) (f t:Nat):List Rd:=qbT x f (t-f) x.sig.length
theorem qoa (L:List Rd) (w:List Str) (s:Nat):(qe8 L w s).length≤L.length+1:=by
 unfold qe8
 split
 ·simp
 ·rw [List.length_set];omega
theorem qg1 (x:Co) (f d:Nat): ∀s,(qbT x f d s).length≤s:=by
 intro s
 induction s with
 |zero=>exact Nat.le_refl _
 |succ s ih=>
  have:=qoa (qbT x f d s) (rdG x s f d) s
  unfold qbT
  omega
def unB (x:Co) (beh:Int) (u:Un):Bool:= !(decide (u.frm≤beh)||(decide (u.frm<0)||(decide (u.to≤u.frm)||(decide ((x.col.length:Int)<u.to)|| !decide (u.rds=qid x u.frm.toNat u.to.toNat)))))
def beH (l:List Un) (i:Nat):Int:=if i=0 then-1 else (l.getD (i-1) default).to
def qn2 (x:Co) (l:List Un):Bool:= !zH (fun i=> !unB x (beH l i) (l.getD i default)) l.length
def cvB (l:List Un) (k:Nat):Bool:=zH (fun i=>decide ((l.getD i default).frm≤k)&&decide ((k:Int)<(l.getD i default).to)) l.length
def cvA (x:Co) (l:List Un):Bool:= !zH (fun k=> !cvB l k&& !cmB x k) x.col.length
def rgB (x:Co) (l:List Un):Bool:=qn2 x l&&cvA x l
def vaE (x:Co) (l:List Un):Int:=if coE x≠0 then 1 else if rgB x l=false then 20 else 0
def nxt (p:Nat→Bool):Nat→Nat→Nat
 |0,k=>k
 |d+1,k=>if p k=true then k else nxt p d (k+1)
theorem qdK (p:Nat→Bool): ∀d k,k≤nxt p d k∧nxt p d k≤k+d∧(∀j,k≤j→j<nxt p d k→p j=false)∧(nxt p d k<k+d→p (nxt p d k)=true):=by
 intro d
 induction d with
 |zero=>intro k;exact ⟨Nat.le_refl _,Nat.le_refl _,fun j h1 h2=>by unfold nxt at h2;omega,fun h=>by unfold nxt at h;omega⟩
 |succ d ih=>
  intro k
  unfold nxt
  split
  ·rename_i h
   exact ⟨Nat.le_refl _,by omega,fun j h1 h2=>by omega,fun _=>h⟩
  ·rename_i h
   obtain ⟨h1,h2,h3,h4⟩:=ih (k+1)
   refine ⟨by omega,by omega,fun j g1 g2=> ?_,fun g=>h4 (by omega)⟩
   by_cases e:j=k
   ·subst e;simpa using h
   ·exact h3 j (by omega) g2
def kM (p:Nat→Bool) (n:Nat):Nat→Nat→List (Nat×Nat)
 |0,_=> []
 |d+1,f=>if n≤f then [] else (if f<nxt p (n-f) f then [(f,nxt p (n-f) f)] else [])++kM p n d (nxt p (n-f) f+1)
def qfX (p:Nat→Bool) (n:Nat):List (Nat×Nat):=kM p n (n+1) 0
theorem qg7 (p:Nat→Bool) (n:Nat): ∀d f,(∀r∈kM p n d f,f≤r.1∧r.1<r.2∧r.2≤n∧ ∀k,r.1≤k→k<r.2→p k=false)∧(n-f<d→ ∀k,f≤k→k<n→p k=false→ ∃r∈kM p n d f,r.1≤k∧k<r.2):=by
 intro d
 induction d with
 |zero=>intro f;exact ⟨fun r hr=>absurd hr List.not_mem_nil,fun h=>absurd h (Nat.not_lt_zero _)⟩
 |succ d ih=>
  intro f
  unfold kM
  split
  ·rename_i h
   exact ⟨fun r hr=>absurd hr List.not_mem_nil,fun _ k h1 h2=>by omega⟩
  ·rename_i h
   obtain ⟨h1,h2,h3,h4⟩:=qdK p (n-f) f
   obtain ⟨i1,i2⟩:=ih (nxt p (n-f) f+1)
   obtain ⟨t,ht⟩: ∃t,t=nxt p (n-f) f:=⟨_,rfl⟩
   rw [←ht]at h1 h2 h3 h4 i1 i2 ⊢
   refine ⟨fun r hr=> ?_,fun hd k k1 k2 k3=> ?_⟩
   ·rcases List.mem_append.1 hr with hr|hr
    ·split at hr
     ·rename_i hft
      rw [List.mem_singleton]at hr
      subst hr
      exact ⟨Nat.le_refl _,hft,by simp only;omega,h3⟩
     ·cases hr
    ·obtain ⟨g1,g2⟩:=i1 r hr
     exact ⟨by omega,g2⟩
   ·by_cases hk:k<t
    ·refine ⟨(f,t),List.mem_append_left _ ?_,k1,hk⟩
     rw [if_pos (by omega)]
     exact List.mem_singleton.2 rfl
    ·have hne:k≠t:=fun e=>by
      subst e
      rw [h4 (by omega)]at k3
      cases k3
     obtain ⟨r,hr,g⟩:=i2 (by omega) k (by omega) k2 k3
     exact ⟨r,List.mem_append_right _ hr,g⟩
theorem qum {p:Nat→Bool} {n:Nat} {r:Nat×Nat} (hr:r∈qfX p n):r.1<r.2∧r.2≤n∧ ∀k,r.1≤k→k<r.2→p k=false:=((qg7 p n (n+1) 0).1 r hr).2
theorem qqe {p:Nat→Bool} {n k:Nat} (hk:k<n) (hp:p k=false): ∃r∈qfX p n,r.1≤k∧k<r.2:=(qg7 p n (n+1) 0).2 (by omega) k (Nat.zero_le _) hk hp
structure qCw (x:Co) (l:List Un):Prop where
 pw:l.Pairwise fun a b=>a.to<b.frm
 rg: ∀u∈l,0≤u.frm∧u.frm<u.to∧u.to≤x.col.length∧u.rds=qid x u.frm.toNat u.to.toNat
theorem qux {x:Co} {beh:Int} {u:Un}:unB x beh u=true↔beh<u.frm∧0≤u.frm∧u.frm<u.to∧u.to≤x.col.length∧u.rds=qid x u.frm.toNat u.to.toNat:=by
 unfold unB
 simp only [Bool.not_eq_true',Bool.or_eq_false_iff,decide_eq_false_iff_not,Bool.not_eq_false',decide_eq_true_eq]
 constructor
 ·rintro ⟨h1,h2,h3,h4,h5⟩;exact ⟨by omega,by omega,by omega,by omega,h5⟩
 ·rintro ⟨h1,h2,h3,h4,h5⟩;exact ⟨by omega,by omega,by omega,by omega,h5⟩
theorem qdX {x:Co} {l:List Un} (h:qn2 x l=true):qCw x l:=by
 unfold qn2 at h
 rw [Bool.not_eq_true',qo]at h
 have h1: ∀i,i<l.length→beH l i<(l.getD i default).frm∧0≤(l.getD i default).frm∧(l.getD i default).frm<(l.getD i default).to∧(l.getD i default).to≤x.col.length∧(l.getD i default).rds=qid x (l.getD i default).frm.toNat (l.getD i default).to.toNat:=fun i hi=>
  qux.1 (by simpa using h i hi)
 have g: ∀i (hi:i<l.length),l.getD i default=l[i]:=fun i hi=>by rw [gdqA,zU hi];rfl
 refine ⟨List.pairwise_iff_getElem.2 fun i j hi hj hij=> ?_,fun u hu=> ?_⟩
 ·have key: ∀d,i+1+d<l.length→(l.getD i default).to<(l.getD (i+1+d) default).frm:=by
   intro d
   induction d with
   |zero=>
    intro hd
    have:=(h1 (i+1) hd).1
    unfold beH at this
    rw [if_neg (by omega),Nat.add_sub_cancel]at this
    exact this
   |succ d ih=>
    intro hd
    have h2:=ih (by omega)
    have h3:=(h1 (i+1+d) (by omega)).2.2.1
    have h4:=(h1 (i+1+d+1) (by omega)).1
    unfold beH at h4
    rw [if_neg (by omega),Nat.add_sub_cancel]at h4
    rw [←Nat.add_assoc]
    omega
  have:=key (j-(i+1)) (by omega)
  rw [show i+1+(j-(i+1))=j by omega,g i hi,g j hj]at this
  exact this
 ·obtain ⟨i,hi,rfl⟩:=List.getElem_of_mem hu
  have:=(h1 i hi).2
  rw [g i hi]at this
  exact this
theorem qkz {l:List Un} {k:Nat}:cvB l k=true↔ ∃u∈l,u.frm≤k∧(k:Int)<u.to:=by
 unfold cvB
 rw [qL]
 constructor
 ·rintro ⟨i,hi,h⟩
  rw [gdqA,zU hi,Bool.and_eq_true,decide_eq_true_iff,decide_eq_true_iff]at h
  exact ⟨_,List.getElem_mem hi,h⟩
 ·rintro ⟨u,hu,h⟩
  obtain ⟨i,hi,rfl⟩:=List.getElem_of_mem hu
  refine ⟨i,hi,?_⟩
  rw [gdqA,zU hi,Bool.and_eq_true,decide_eq_true_iff,decide_eq_true_iff]
  exact h
def rnB (l:List Un) (r:Nat×Nat):Bool:=zH (fun i=>decide ((l.getD i default).frm≤r.1)&&decide ((r.2:Int)≤(l.getD i default).to)) l.length
theorem qmw {l:List Un} {r:Nat×Nat}:rnB l r=true↔ ∃u∈l,u.frm≤r.1∧(r.2:Int)≤u.to:=by
 unfold rnB
 rw [qL]
 constructor
 ·rintro ⟨i,hi,h⟩
  rw [gdqA,zU hi,Bool.and_eq_true,decide_eq_true_iff,decide_eq_true_iff]at h
  exact ⟨_,List.getElem_mem hi,h⟩
 ·rintro ⟨u,hu,h⟩
  obtain ⟨i,hi,rfl⟩:=List.getElem_of_mem hu
  refine ⟨i,hi,?_⟩
  rw [gdqA,zU hi,Bool.and_eq_true,decide_eq_true_iff,decide_eq_true_iff]
  exact h
theorem qpw {α:Type} {L:List α} {R:α→α→Prop} (h:L.Pairwise R) {a b:α} (ha:a∈L) (hb:b∈L) (hne:a≠b):R a b∨R b a:=by
 induction L with
 |nil=>cases ha
 |cons c r ih=>
  obtain ⟨h1,h2⟩:=List.pairwise_cons.1 h
  rcases List.mem_cons.1 ha with ea|na
  ·rcases List.mem_cons.1 hb with eb|nb
   ·exact absurd (ea.trans eb.symm) hne
   ·rw [ea];exact .inl (h1 b nb)
  ·rcases List.mem_cons.1 hb with eb|nb
   ·rw [eb];exact .inr (h1 a na)
   ·exact ih h2 na nb
theorem qsU {x:Co} {l:List Un} (h:qn2 x l=true):((qfX (cmB x) x.col.length).all (rnB l)=true)↔cvA x l=true:=by
 have ho:=qdX h
 unfold cvA
 rw [List.all_eq_true,Bool.not_eq_true',qo]
 constructor
 ·intro hr k hk
  cases hc:cmB x k with
  |true=>simp
  |false=>
   obtain ⟨r,hr1,r1,r2⟩:=qqe hk hc
   obtain ⟨u,hu,u1,u2⟩:=qmw.1 (hr r hr1)
   rw [qkz.2 ⟨u,hu,by omega,by omega⟩]
   rfl
 ·intro hk r hr
  obtain ⟨r1,r2,r3⟩:=qum hr
  have cov: ∀k,r.1≤k→k<r.2→ ∃u∈l,u.frm≤(k:Int)∧(k:Int)<u.to:=fun k h1 h2=>by
   have h3:=hk k (by omega)
   rw [r3 k h1 h2,Bool.not_false,Bool.and_true,Bool.not_eq_false']at h3
   exact qkz.1 h3
  obtain ⟨u,hu,u1,u2⟩:=cov r.1 (Nat.le_refl _) r1
  refine qmw.2 ⟨u,hu,u1,?_⟩
  by_cases ht:(r.2:Int)≤u.to
  ·exact ht
  ·exfalso
   have hur:=ho.rg u hu
   obtain ⟨k,hk2⟩: ∃k:Nat,u.to=(k:Int):=⟨u.to.toNat,by omega⟩
   obtain ⟨v,hv,v1,v2⟩:=cov k (by omega) (by omega)
   have hvr:=ho.rg v hv
   by_cases e:u=v
   ·subst e;omega
   ·rcases qpw ho.pw hu hv e with h1|h1
    ·omega
    ·omega
end RC
end
section
open Go Go.Proofs AF HY LN
namespace RC
set_option maxHeartbeats 4000000
def fnU (l:List Un) (c:Int):Int:=qac (fun i=>decide ((l.getD i default).frm≤c)&&decide (c<(l.getD i default).to)) l.length 0
theorem qrC {l:List Un} {c:Int} {k:Nat} (h:fnU l c=k):k<l.length∧(l.getD k default).frm≤c∧c<(l.getD k default).to:=by
 unfold fnU at h
 rcases zP (fun i=>decide ((l.getD i default).frm≤c)&&decide (c<(l.getD i default).to)) l.length with ⟨i,h1,h2,_,h4⟩|⟨_,h2⟩
 ·rw [h4]at h
  have e:i=k:=by omega
  subst e
  rw [Bool.and_eq_true,decide_eq_true_iff,decide_eq_true_iff]at h2
  exact ⟨h1,h2⟩
 ·rw [h2]at h;omega
theorem qrD {l:List Un} {c:Int} (h:fnU l c<0) {i:Nat} (hi:i<l.length): ¬((l.getD i default).frm≤c∧c<(l.getD i default).to):=by
 unfold fnU at h
 rcases zP (fun i=>decide ((l.getD i default).frm≤c)&&decide (c<(l.getD i default).to)) l.length with ⟨j,_,_,_,h4⟩|⟨h1,_⟩
 ·rw [h4]at h;omega
 ·have:=h1 i hi
  rw [Bool.and_eq_false_iff,decide_eq_false_iff_not,decide_eq_false_iff_not]at this
  omega
theorem qxK {x:Co} {l:List Un} (h:qn2 x l=true) {c:Int} {k:Nat} (hk:k<l.length) (h1:(l.getD k default).frm≤c) (h2:c<(l.getD k default).to):fnU l c=k:=by
 have ho:=qdX h
 rcases Int.lt_or_le (fnU l c) 0 with hn|hn
 ·exact absurd ⟨h1,h2⟩ (qrD hn hk)
 ·obtain ⟨j,hj⟩: ∃j:Nat,fnU l c=j:=⟨(fnU l c).toNat,by omega⟩
  obtain ⟨j1,j2,j3⟩:=qrC hj
  rw [hj]
  have g: ∀i (hi:i<l.length),l.getD i default=l[i]:=fun i hi=>by rw [gdqA,zU hi];rfl
  rw [g k hk]at h1 h2
  rw [g j j1]at j2 j3
  rcases Nat.lt_trichotomy j k with e|e|e
  ·have:=List.pairwise_iff_getElem.1 ho.pw j k j1 hk e;omega
  ·omega
  ·have:=List.pairwise_iff_getElem.1 ho.pw k j hk j1 e;omega
def wdE (x:Co) (l:List Un) (w bef:Wd) (first:Bool):Int:=
 if w.text= []∨64<w.text.length then 11 else if w.col<0∨(x.col.length:Int)≤w.col∨(first=false∧w.col<bef.col) then 19 else if w.unit< -1∨(l.length:Int)≤w.unit then 20 else
  if fnU l w.col≠w.unit then 20 else if w.dec< -1∨(w.unit<0∧w.dec≠ -1)∨(first=false∧0≤w.unit∧w.unit=bef.unit∧w.dec≠bef.dec) then 2 else 0
def qja (b:List Wd) (i:Nat):Wd:=if i=0 then default else b.getD (i-1) default
def qn3 (x:Co) (l:List Un) (b:List Wd) (i:Nat):Int:=wdE x l (b.getD i default) (qja b i) (decide (i=0))
def cW (b:List Wd) (c:Int):Nat→Nat
 |0=>0
 |i+1=>cW b c i+if (b.getD i default).col=c then 1 else 0
def txA (x:Co) (c:Nat):Str:=((x.tok.getD 0 []).getD ((x.col.getD c []).getD 0 0).toNat default).text
def ccB (x:Co) (b:List Wd) (c:Nat):Bool:=decide (cW b c b.length=1)&&zH (fun i=>decide ((b.getD i default).col=c)&&decide ((b.getD i default).text=txA x c)) b.length
def qAo (x:Co) (l:List Un) (b:List Wd) (c:Nat):Int:=if 0≤fnU l c then 0 else if ccB x b c=true then 0 else 9
def pvE (x:Co) (l:List Un) (b:List Wd):Int:=
 if vaE x l≠0 then vaE x l else if qbq (qn3 x l b) 0 b.length≠0 then qbq (qn3 x l b) 0 b.length else qbq (qAo x l b) 0 x.col.length
structure qu2 (x:Co) (l:List Un) (b:List Wd):Prop where
 co:coE x=0
 un:qn2 x l=true
 cv:cvA x l=true
 tx: ∀i,i<b.length→(b.getD i default).text≠ []∧(b.getD i default).text.length≤64
 cl: ∀i,i<b.length→0≤(b.getD i default).col∧(b.getD i default).col<x.col.length
 ord: ∀i,i+1<b.length→(b.getD i default).col≤(b.getD (i+1) default).col
 un2: ∀i,i<b.length→fnU l (b.getD i default).col=(b.getD i default).unit
 cc: ∀c,c<x.col.length→fnU l c<0→ccB x b c=true
theorem qrT {x:Co} {l:List Un} {b:List Wd} (h:pvE x l b=0):qu2 x l b:=by
 unfold pvE at h
 split at h
 ·rename_i h1;exact absurd h h1
 rename_i h1
 have h1:=Classical.not_not.1 h1
 split at h
 ·rename_i h2;exact absurd h h2
 rename_i h2
 have h2:=km.1 (Classical.not_not.1 h2)
 have h3:=km.1 h
 unfold vaE at h1
 split at h1
 ·cases h1
 rename_i g1
 split at h1
 ·cases h1
 rename_i g2
 have g2:rgB x l=true:=by simpa using g2
 unfold rgB at g2
 rw [Bool.and_eq_true]at g2
 have hw: ∀i,i<b.length→((b.getD i default).text≠ []∧(b.getD i default).text.length≤64)∧(0≤(b.getD i default).col∧(b.getD i default).col<x.col.length)∧(0<i→(qja b i).col≤(b.getD i default).col)∧fnU l (b.getD i default).col=(b.getD i default).unit:=fun i hi=>by
  have:=h2 i hi
  unfold qn3 wdE at this
  split at this
  ·cases this
  rename_i k1
  split at this
  ·cases this
  rename_i k2
  split at this
  ·cases this
  split at this
  ·cases this
  rename_i k4
  refine ⟨⟨fun e=>k1 (.inl e),Nat.le_of_not_lt fun e=>k1 (.inr e)⟩,⟨by omega,by omega⟩,fun h0=> ?_,Classical.not_not.1 k4⟩
  refine Int.not_lt.1 fun hc=>k2 (.inr (.inr ⟨decide_eq_false (by omega),hc⟩))
 refine ⟨Classical.not_not.1 g1,g2.1,g2.2,fun i hi=>(hw i hi).1,fun i hi=>(hw i hi).2.1,fun i hi=> ?_,fun i hi=>(hw i hi).2.2.2,fun c hc hn=> ?_⟩
 ·have:=(hw (i+1) hi).2.2.1 (by omega)
  unfold qja at this
  rw [if_neg (by omega),Nat.add_sub_cancel]at this
  exact this
 ·have:=h3 c hc
  unfold qAo at this
  rw [if_neg (by omega)]at this
  split at this
  ·assumption
  ·cases this
end RC
end
section
open Go Go.Proofs AF HY LN
namespace RC
set_option maxHeartbeats 4000000
def cP (p:Nat→Bool):Nat→Nat
 |0=>0
 |i+1=>cP p i+if p i=true then 1 else 0
theorem qou (p:Nat→Bool): ∀n,cP p n≤n:=by
 intro n
 induction n with
 |zero=>exact Nat.le_refl _
 |succ n ih=>unfold cP;split<;>omega
theorem qwf {p:Nat→Bool}: ∀ {n:Nat},(∀i,i<n→p i=true)→cP p n=n:=by
 intro n
 induction n with
 |zero=>intro _;rfl
 |succ n ih=>intro h;unfold cP;rw [ih fun i hi=>h i (by omega),if_pos (h n (by omega))]
theorem qwh {p:Nat→Bool}: ∀ {n:Nat},(∀i,i+1<n→p (i+1)=true→p i=true)→ ∀i,i<n→(p i=true↔i<cP p n):=by
 intro n
 induction n with
 |zero=>intro _ i h;exact absurd h (Nat.not_lt_zero i)
 |succ n ih=>
  intro hm i hi
  have h0:=ih fun j hj=>hm j (by omega)
  unfold cP
  cases hn:p n with
  |true=>
   rw [if_pos rfl]
   have hall: ∀d,d≤n→p (n-d)=true:=by
    intro d
    induction d with
    |zero=>intro _;exact hn
    |succ d ihd=>
     intro hd
     refine hm (n-(d+1)) (by omega) ?_
     rw [show n-(d+1)+1=n-d by omega]
     exact ihd (by omega)
   have hp: ∀j,j≤n→p j=true:=fun j hj=>by
    have:=hall (n-j) (by omega)
    rwa [show n-(n-j)=j by omega]at this
   rw [qwf fun j hj=>hp j (by omega),hp i (by omega)]
   exact ⟨fun _=>by omega,fun _=>rfl⟩
  |false=>
   rw [if_neg (by simp),Nat.add_zero]
   by_cases e:i=n
   ·subst e
    have:=qou p i
    rw [hn]
    exact ⟨fun h=>absurd h (by simp),fun h=>by omega⟩
   ·exact h0 i (by omega)
theorem qwg {q:Nat→Bool} {F G:Nat} (hFG:F≤G): ∀ {n:Nat},(∀i,i<n→(q i=true↔F≤i∧i<G))→cP q n=min n G-min n F:=by
 intro n
 induction n with
 |zero=>intro _;simp [cP]
 |succ n ih=>
  intro h
  unfold cP
  rw [ih fun i hi=>h i (by omega)]
  have hn:=h n (by omega)
  split
  ·rename_i hq
   have:=hn.1 hq
   omega
  ·rename_i hq
   have: ¬(F≤n∧n<G):=fun hc=>hq (hn.2 hc)
   omega
theorem qtw {q:Nat→Bool} {F G n:Nat} (hGn:G≤n) (h: ∀i,i<n→(q i=true↔F≤i∧i<G)):qac q n 0=if F<G then (F:Int) else-1:=by
 split
 ·rename_i hl
  exact qav (by omega) (fun j hj=>by
   cases hq:q j with
   |false=>rfl
   |true=>have:=(h j (by omega)).1 hq;omega) ((h F (by omega)).2 ⟨Nat.le_refl _,hl⟩)
 ·rename_i hl
  refine qam fun j hj=> ?_
  cases hq:q j with
  |false=>rfl
  |true=>have:=(h j hj).1 hq;omega
def qfh (q:Nat→Bool) (n f:Nat):Nat:=nxt (fun i=> !q i) (n-f) f
theorem qjX (q:Nat→Bool) {n f:Nat} (hf:f≤n):f≤qfh q n f∧qfh q n f≤n∧(∀j,f≤j→j<qfh q n f→q j=true)∧(qfh q n f<n→q (qfh q n f)=false):=by
 obtain ⟨h1,h2,h3,h4⟩:=qdK (fun i=> !q i) (n-f) f
 refine ⟨h1,by unfold qfh;omega,fun j g1 g2=>by simpa using h3 j g1 g2,fun g=> ?_⟩
 have:=h4 (by unfold qfh at g;omega)
 simpa [qfh] using this
def qu6 (q:Nat→Bool) (n f:Nat):Bool:=zH (fun i=>decide (qfh q n f≤i)&&q i) n
def qm1 (q:Nat→Bool) (n:Nat):Int:=if qac q n 0<0 then 6 else if qu6 q n (qac q n 0).toNat=true then 10 else 0
def qyI (q:Nat→Bool) (n:Nat):Int:=if qm1 q n=0 then qac q n 0 else 0
def qyJ (q:Nat→Bool) (n:Nat):Int:=if qm1 q n=0 then (qfh q n (qac q n 0).toNat:Int) else 0
def inU (b:List Wd) (k:Int) (i:Nat):Bool:=decide ((b.getD i default).unit=k)
def bfU (b:List Wd) (c:Int) (i:Nat):Bool:=decide ((b.getD i default).col<c)
theorem qhb {x:Co} {l:List Un} {b:List Wd} (h:qu2 x l b) {k:Nat} (hk:k<l.length):
  ∃F G,F≤G∧G≤b.length∧(∀i,i<b.length→(bfU b (l.getD k default).frm i=true↔i<F))∧(∀i,i<b.length→(inU b k i=true↔F≤i∧i<G))∧cP (bfU b (l.getD k default).frm) b.length=F∧cP (inU b k) b.length=G-F:=by
 obtain ⟨u,hu⟩: ∃u,u=l.getD k default:=⟨_,rfl⟩
 have hur:=(qdX h.un).rg u (by rw [hu,gdqA,zU hk];exact List.getElem_mem hk)
 have hpre: ∀c,∀i,i<b.length→(bfU b c i=true↔i<cP (bfU b c) b.length):=fun c=>qwh fun i hi hp=>by
  have:=h.ord i hi
  unfold bfU at hp ⊢
  rw [decide_eq_true_iff]at hp ⊢
  omega
 have h1:=hpre u.frm
 have h2:=hpre u.to
 have hq: ∀i,i<b.length→(inU b k i=true↔cP (bfU b u.frm) b.length≤i∧i<cP (bfU b u.to) b.length):=fun i hi=>by
  have g1:=h1 i hi
  have g2:=h2 i hi
  unfold bfU at g1 g2
  rw [decide_eq_true_iff]at g1 g2
  unfold inU
  rw [decide_eq_true_iff]
  constructor
  ·intro e
   obtain ⟨_,k2,k3⟩:=qrC (show fnU l (b.getD i default).col=k by rw [h.un2 i hi,e])
   rw [←hu]at k2 k3
   exact ⟨Nat.le_of_not_lt fun hc=>absurd (g1.2 hc) (by omega),g2.1 k3⟩
  ·rintro ⟨e1,e2⟩
   have k2:u.frm≤(b.getD i default).col:=Int.not_lt.1 fun hc=>by have:=g1.1 hc;exact absurd this (Nat.not_lt.2 e1)
   have k3:=g2.2 e2
   rw [←h.un2 i hi]
   exact qxK h.un hk (by rw [←hu];exact k2) (by rw [←hu];exact k3)
 have hle:cP (bfU b u.frm) b.length≤cP (bfU b u.to) b.length:=by
  rcases Nat.lt_or_ge (cP (bfU b u.to) b.length) (cP (bfU b u.frm) b.length)with hlt|hge
  ·have hi:cP (bfU b u.to) b.length<b.length:=by have:=qou (bfU b u.frm) b.length;omega
   have g1:=(h1 _ hi).2 hlt
   have g2: ¬_:=fun hc=>absurd ((h2 _ hi).1 hc) (Nat.lt_irrefl _)
   unfold bfU at g1 g2
   rw [decide_eq_true_iff]at g1 g2
   omega
  ·exact hge
 have hGn:=qou (bfU b u.to) b.length
 refine ⟨cP (bfU b u.frm) b.length,cP (bfU b u.to) b.length,hle,hGn,by rw [←hu];exact h1,hq,by rw [←hu],?_⟩
 rw [qwg hle hq]
 omega
end RC
end
