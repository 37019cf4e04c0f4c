import Derived.Test.YtgoandblgcjleaaGreatDoorK14
import Derived.Test.YtgoandblgcjleaaGreatDoorK10
import Derived.Test.YtgoandblgcjleaaGreatDoorK3
import Derived.Test.YtgoandblgcjleaaGreatDoorK5
import Derived.Test.YtgoandblgcjleaaGreatDoorK8
import Derived.Test.YtgoandblgcjleaaGreatDoorProg
import Derived.Test.YtgoandblgcjleaaGreatDoorK9
import Derived.Test.YtgoandblgcjleaaGreatDoorRows
import Derived.LaidLaws
set_option linter.all false
set_option linter.unusedSimpArgs false
set_option linter.unusedVariables false
set_option linter.unusedSectionVars false
set_option maxRecDepth 100000
section
open Go Go.Proofs AF HY LN
namespace RC
set_option maxHeartbeats 16000000
theorem il1 {f g:Nat→List AV} (h:f 0=g 0):ILe (.sl 1 f) (.sl 1 g):=ILe.sl_eq fun i hi=>by
 obtain rfl:i=0:=by omega
 exact h
theorem il2 {f g:Nat→List AV} (h0:f 0=g 0) (h1:f 1=g 1):ILe (.sl 2 f) (.sl 2 g):=ILe.sl_eq fun i hi=>by
 match i,hi with
 |0,_=>exact h0
 |1,_=>exact h1
 |n+2,hi=>exact absurd hi (by omega)
theorem il3 {f g:Nat→List AV} (h0:f 0=g 0) (h1:f 1=g 1) (h2:f 2=g 2):ILe (.sl 3 f) (.sl 3 g):=ILe.sl_eq fun i hi=>by
 match i,hi with
 |0,_=>exact h0
 |1,_=>exact h1
 |2,_=>exact h2
 |n+3,hi=>exact absurd hi (by omega)
theorem im1 {f g:Nat→List AV} (h:jx (f 0) (g 0)):ILe (.sl 1 f) (.sl 1 g):=ILe.sl fun i hi=>by
 obtain rfl:i=0:=by omega
 exact h
theorem im2 {f g:Nat→List AV} (h0:jx (f 0) (g 0)) (h1:jx (f 1) (g 1)):ILe (.sl 2 f) (.sl 2 g):=ILe.sl fun i hi=>by
 match i,hi with
 |0,_=>exact h0
 |1,_=>exact h1
 |n+2,hi=>exact absurd hi (by omega)
theorem vl1 {f g:Nat→List AV} (h:jx (f 0) (g 0)):VLe (.sl 1 f) (.sl 1 g):=VLe.sl fun i hi=>by
 obtain rfl:i=0:=by omega
 exact h
theorem vl2 {f g:Nat→List AV} (h0:jx (f 0) (g 0)) (h1:jx (f 1) (g 1)):VLe (.sl 2 f) (.sl 2 g):=VLe.sl fun i hi=>by
 match i,hi with
 |0,_=>exact h0
 |1,_=>exact h1
 |n+2,hi=>exact absurd hi (by omega)
theorem vl3 {f g:Nat→List AV} (h0:jx (f 0) (g 0)) (h1:jx (f 1) (g 1)) (h2:jx (f 2) (g 2)):VLe (.sl 3 f) (.sl 3 g):=VLe.sl fun i hi=>by
 match i,hi with
 |0,_=>exact h0
 |1,_=>exact h1
 |2,_=>exact h2
 |n+3,hi=>exact absurd hi (by omega)
theorem ie {a b:AV} (h:a=b):ILe a b:=by rw [h];exact ILe.refl _
theorem qBj (s:Str) (h:List AObj):ACalls Tryz.prog 163 [.str s] h (.agg (tkC (tkS s))) h:=by
 unfold tkS tkC
 refine acO qwV ?_
 simp (disch:=omega) only [qvD,List.replicate,go_sem]
 repeat' first
  |((first|apply qd|apply qb);exact rvk;simp only [go_sem];first|exact VLe.refl _|apply qe|apply qa|apply qf|skip)
  |with_reducible first|apply And.intro|intro _
 all_goals try exact clz
theorem quY:qrE xAp=false:=by decide+kernel
theorem qDA:qn4 xAp:=qfJ quY
theorem qBg (h:List AObj):ACalls Tryz.prog 97 [] h (.agg (coC xCo)) h:=by
 have c1:=fun s h=>qBj s h
 unfold tkC tkS at c1
 refine acO qAQ ?_
 simp (disch:=omega) only [qB5,List.replicate,go_sem]
 repeat' first
  |((first|refine cA (c1 qdS _) ?_ ?_|refine cG (fun e=>c1 qdS _) ?_ ?_|refine cA (c1 qvd _) ?_ ?_|refine cG (fun e=>c1 qvd _) ?_ ?_|refine cA (c1 qbg _) ?_ ?_|refine cG (fun e=>c1 qbg _) ?_ ?_|refine cA (c1 qdS _) ?_ ?_|refine cG (fun e=>c1 qdS _) ?_ ?_|refine cA (c1 qbg _) ?_ ?_|refine cG (fun e=>c1 qbg _) ?_ ?_|refine cU (fun _=>c1 qdS _) ?_ ?_|refine cU (fun _=>c1 qvd _) ?_ ?_|refine cU (fun _=>c1 qbg _) ?_ ?_|refine cU (fun _=>c1 qdS _) ?_ ?_|refine cU (fun _=>c1 qbg _) ?_ ?_);(next=>exact flk);simp (disch:=omega) only [go_sem])
  |((first|apply qd|apply qb);exact rvk;simp only [go_sem];first|exact VLe.refl _|apply qe|apply qa|apply qf|skip)
  |with_reducible first|apply And.intro|intro _
 all_goals try exact clz
 refine VLe.agg ⟨VLe.refl _,vl2 ⟨ie rfl,trivial⟩ ⟨ie rfl,trivial⟩,vl2 ⟨?a1,trivial⟩ ⟨?a2,trivial⟩,vl3 ⟨?a3,trivial⟩ ⟨?a4,trivial⟩ ⟨?a5,trivial⟩,trivial⟩
 case a1=>simp only [go_sem];exact il3 rfl rfl rfl
 case a2=>simp only [go_sem];exact il2 rfl rfl
 case a3=>simp only [go_sem];exact il2 rfl rfl
 case a4=>simp only [go_sem];exact il2 rfl rfl
 case a5=>simp only [go_sem];exact il2 rfl rfl
theorem qtH (a:Ap) (h:List AObj) (hz:qn4 a) (hp:qbk SG h):ACalls Tryz.prog 25 [.agg (apC a)] h (.tup [jm (enR a),.int .i64 (enE a)]) h:=by
 have c1:=fun l=>qB7 a (h++l) hz (hp.app l)
 unfold coC at c1
 refine acO qAx ?_
 simp (disch:=omega) only [qBT,List.replicate,apC,go_sem]
 repeat' first
  |((first|refine cA (c1 _) ?_ ?_|refine cG (fun e=>c1 _) ?_ ?_|refine cU (fun _=>c1 _) ?_ ?_);(next=>exact flk);simp (disch:=omega) only [apC,go_sem])
  |((first|apply qd|apply qb);exact rvk;simp only [go_sem];first|exact VLe.refl _|apply qe|apply qa|apply qf|skip)
  |with_reducible first|apply And.intro|intro _
 all_goals try exact clz
theorem qvr (h:List AObj) (hp:qbk SG h):ACalls Tryz.prog 24 [] h (.bool true) h:=by
 have c1:=fun h=>qBg h
 refine acO qAw ?_
 simp (disch:=omega) only [qBS,List.replicate,go_sem]
 repeat' first
  |((first|refine cA (c1 _) ?_ ?_|refine cG (fun e=>c1 _) ?_ ?_|refine cU (fun _=>c1 _) ?_ ?_);(next=>exact flk);simp (disch:=omega) only [go_sem])
  |((first|apply qd|apply qb);exact rvk;simp only [go_sem];first|exact VLe.refl _|apply qe|apply qa|apply qf|skip)
  |with_reducible first|apply And.intro|intro _
 all_goals try exact clz
 have zm:valP (.mm true) [.int .i64 0,.int .i64 0,.int .i64 0]= .int .i64 0:=rfl
 have zn:okP (.mm true) [.int .i64 0,.int .i64 0,.int .i64 0]=True:=eq_true (by simp [okP,qaw])
 have c2:=fun l=>qB7 xAp (h++l) qDA (hp.app l)
 rw [qBO,qBP]at c2
 refine qcm (r:= .tup [jm xEn,.int .i64 0]) (h':=h++ [.emp 2,.emp 2,.emp 2,.emp 2,.emp 2,.emp 2,.emp 2,.emp 2,.emp 2,.emp 2,.emp 0,.emp 0,.emp 0,.emp 0,.emp 0,.emp 0])
  (qCY [h.length,h.length+1,h.length+2,h.length+3,h.length+4,h.length+5,h.length+6,h.length+7,h.length+8,h.length+9] (by simp only [kY,go_sem]) ?c) (by exact flk) ?_
 case c=>
  simp only [qdG,go_sem]
  refine ACalls.le (c2 _) ?_ (VLe.refl _)
  obtain ⟨fz,hfz⟩: ∃fz:Nat→Bool,fz=fun k=> [h.length,h.length+1,h.length+2,h.length+3,h.length+4,h.length+5,h.length+6,h.length+7,h.length+8,h.length+9].contains k:=⟨_,rfl⟩
  rw [←hfz]
  have f0:fz h.length=true:=by rw [hfz];simp
  have f1:fz (h.length+1)=true:=by rw [hfz];simp
  have f2:fz (h.length+2)=true:=by rw [hfz];simp
  have f3:fz (h.length+3)=true:=by rw [hfz];simp
  have f4:fz (h.length+4)=true:=by rw [hfz];simp
  have f5:fz (h.length+5)=true:=by rw [hfz];simp
  have f6:fz (h.length+6)=true:=by rw [hfz];simp
  have f7:fz (h.length+7)=true:=by rw [hfz];simp
  have f8:fz (h.length+8)=true:=by rw [hfz];simp
  have f9:fz (h.length+9)=true:=by rw [hfz];simp
  have g0:([h.length,h.length+1,h.length+2,h.length+3,h.length+4,h.length+5,h.length+6,h.length+7,h.length+8,h.length+9]:List Nat).contains h.length=true:=by simp
  have g1:([h.length,h.length+1,h.length+2,h.length+3,h.length+4,h.length+5,h.length+6,h.length+7,h.length+8,h.length+9]:List Nat).contains (h.length+1)=true:=by simp
  have g2:([h.length,h.length+1,h.length+2,h.length+3,h.length+4,h.length+5,h.length+6,h.length+7,h.length+8,h.length+9]:List Nat).contains (h.length+2)=true:=by simp
  have g3:([h.length,h.length+1,h.length+2,h.length+3,h.length+4,h.length+5,h.length+6,h.length+7,h.length+8,h.length+9]:List Nat).contains (h.length+3)=true:=by simp
  have g4:([h.length,h.length+1,h.length+2,h.length+3,h.length+4,h.length+5,h.length+6,h.length+7,h.length+8,h.length+9]:List Nat).contains (h.length+4)=true:=by simp
  have g5:([h.length,h.length+1,h.length+2,h.length+3,h.length+4,h.length+5,h.length+6,h.length+7,h.length+8,h.length+9]:List Nat).contains (h.length+5)=true:=by simp
  have g6:([h.length,h.length+1,h.length+2,h.length+3,h.length+4,h.length+5,h.length+6,h.length+7,h.length+8,h.length+9]:List Nat).contains (h.length+6)=true:=by simp
  have g7:([h.length,h.length+1,h.length+2,h.length+3,h.length+4,h.length+5,h.length+6,h.length+7,h.length+8,h.length+9]:List Nat).contains (h.length+7)=true:=by simp
  have g8:([h.length,h.length+1,h.length+2,h.length+3,h.length+4,h.length+5,h.length+6,h.length+7,h.length+8,h.length+9]:List Nat).contains (h.length+8)=true:=by simp
  have g9:([h.length,h.length+1,h.length+2,h.length+3,h.length+4,h.length+5,h.length+6,h.length+7,h.length+8,h.length+9]:List Nat).contains (h.length+9)=true:=by simp
  clear hfz
  simp only [go_sem,coC,List.map_cons,List.map_nil,f0,f1,f2,f3,f4,f5,f6,f7,f8,f9,g0,g1,g2,g3,g4,g5,g6,g7,g8,g9,if_true]
  refine ⟨VLe.refl _,vl1 ⟨ie rfl,ie rfl,?b1,trivial⟩,vl1 ⟨?b2,trivial⟩,VLe.sl_eq rfl (fun i hi=> ?b3),kq,VLe.sl_eq rfl (fun i hi=> ?b4),VLe.sl_eq rfl (fun i hi=> ?b5),trivial⟩
  case b1=>
   simp only [go_sem,f0,f1,f2,f3,f4,f5,f6,f7,f8,f9,g0,g1,g2,g3,g4,g5,g6,g7,g8,g9,if_true]
   refine im2 ⟨?u1,?u2,trivial⟩ ⟨ILe.nl,?u3,trivial⟩
   all_goals
    simp only [go_sem,f0,f1,f2,f3,f4,f5,f6,f7,f8,f9,g0,g1,g2,g3,g4,g5,g6,g7,g8,g9,if_true]
    exact il1 rfl
  case b2=>
   simp only [go_sem,f0,f1,f2,f3,f4,f5,f6,f7,f8,f9,g0,g1,g2,g3,g4,g5,g6,g7,g8,g9,if_true]
   exact il2 rfl rfl
  case b3=>
   match i,hi with
   |0,_=>rfl
   |1,_=>rfl
   |2,_=>rfl
   |n+3,hi=>exact absurd hi (by omega)
  case b4=>
   obtain rfl:i=0:=by omega
   rfl
  case b5=>
   obtain rfl:i=0:=by omega
   rfl
 simp (disch:=omega) only [go_sem]
 repeat' first
  |((first|apply qd|apply qb);exact rvk;simp only [go_sem];first|exact VLe.refl _|apply qe|apply qa|apply qf|skip)
  |with_reducible first|apply And.intro|intro _
 all_goals try exact clz
 have lz: ∀i,(xL3.getD i []).length≤100000000:=zr xL3 (fun s=>s.length≤100000000) (by decide) (by decide)
 refine cA (r:= .tup [.int .i64 2,.int .i64 0]) ?d (by exact flk) ?_
 case d=>
  have c2:=lyP xL3 [120] [] (by decide) lz
  rw [quZ.1,quZ.2]at c2
  refine ACalls.borrow (c2.le ?_ (VLe.refl _)) (by simp [qaZ,jL])
  simp only [List.map_cons,List.map_nil,go_sem]
  exact ⟨VLe.sl_eq rfl (fun i hi=>by
   match i,hi with
   |0,_=>rfl
   |1,_=>rfl
   |2,_=>rfl
   |n+3,hi=>exact absurd hi (by omega)),VLe.refl _,trivial⟩
 simp (disch:=omega) only [go_sem]
 repeat' first
  |((first|apply qd|apply qb);exact rvk;simp only [go_sem];first|exact VLe.refl _|apply qe|apply qa|apply qf|skip)
  |with_reducible first|apply And.intro|intro _
 all_goals try exact clz
 refine cA (r:= .tup [.int .i64 0,.int .i64 0]) ?e (by exact flk) ?_
 case e=>
  have c2:=lyP xL3 [98] [] (by decide) lz
  rw [qBQ,quZ.2]at c2
  refine ACalls.borrow (c2.le ?_ (VLe.refl _)) (by simp [qaZ,jL])
  simp only [List.map_cons,List.map_nil,go_sem]
  exact ⟨VLe.sl_eq rfl (fun i hi=>by
   match i,hi with
   |0,_=>rfl
   |1,_=>rfl
   |2,_=>rfl
   |n+3,hi=>exact absurd hi (by omega)),VLe.refl _,trivial⟩
 simp (disch:=omega) only [zm,zn,go_sem]
 repeat' first
  |((first|apply qd|apply qb);exact rvk;simp only [go_sem];first|exact VLe.refl _|apply qe|apply qa|apply qf|skip)
  |with_reducible first|apply And.intro|intro _
 all_goals try exact clz
 have xz:EqZ xEn:=by
  refine ⟨by decide,?_,?_,?_,?_⟩
  ·exact zr xEn (fun e=>e.sup.length≤1000000000) (by decide) (by decide)
  ·exact zr xEn (fun e=>e.vars.length≤1000000000) (by decide) (by decide)
  ·exact zr xEn (fun e=> ∀j,(e.vars.getD j default).words.length≤1000000000) (fun j=>by simp [show (default:En).vars= []from rfl,show (default:Va).words= []from rfl]) fun i hi=>by
    obtain rfl:i=0:=by have:xEn.length=1:=rfl;omega
    exact zr _ (fun v:Va=>v.words.length≤1000000000) (by decide) (by decide)
  ·exact zr xEn (fun e=> ∀j,(e.vars.getD j default).sigla.length≤1000000000) (fun j=>by simp [show (default:En).vars= []from rfl,show (default:Va).sigla= []from rfl]) fun i hi=>by
    obtain rfl:i=0:=by have:xEn.length=1:=rfl;omega
    exact zr _ (fun v:Va=>v.sigla.length≤1000000000) (by decide) (by decide)
 refine cG (fun _=>ACalls.borrow ((qDj xEn [] xz).le ?g1 (VLe.refl _)) rfl) (fun _=>by exact flk) ?_
 case g1=>
  simp only [List.map_cons,List.map_nil,go_sem]
  refine ⟨VLe.refl _,vl1 ⟨ie rfl,ie rfl,ie rfl,ie rfl,?h1,?h2,trivial⟩,trivial⟩
  case h1=>simp only [go_sem,if_true];exact il1 rfl
  case h2=>
   simp only [go_sem,if_true]
   refine im1 ⟨ILe.nl,?h3,trivial⟩
   simp only [go_sem,if_true]
   exact il1 rfl
 simp (disch:=omega) only [go_sem]
 repeat' first
  |((first|apply qd|apply qb);exact rvk;simp only [go_sem];first|exact VLe.refl _|apply qe|apply qa|apply qf|skip)
  |with_reducible first|apply And.intro|intro _
 all_goals try exact clz
end RC
end
section
open Go Go.Proofs AF
def qtB:List Nat:= []
def c5s:C:=
 ((C.ops [O1 1 (.box 0 47) 0,MC 2 (.bool false)]).seq (((C.ops [O1 10 (.load (some 10)) 1,O1 11 (.call 23 true) 10]).seq (C.cond (.t 11) ((C.ops [ON 12 (.call 24 true) [],MV 2
 12]).seq C.ret) C.skip)).seq ((C.ops [O1 14 (.load (some 10)) 1,O1 15 (.call 25 true) 14,MV 13 15,O1 16 (.ext 0) 13,O1 17 (.ext 1) 13,MV 3 16,MV 4 17]).seq ((C.ops [O1 18
 (.load (some 10)) 1,⟨some 5,none,.alloc 1 47 [.str [],.nl,.nl,.nl,.nl,.nl,.nl,.nl,.nl,.nl],[]⟩,ST 10 5 18]).seq ((C.ops [O1 19 (.fldA 9) 1,LD 20 19,O1 21 .len 20,
 ⟨some 22,none,.mkslc 2 1 4 [.bool false] 1,[.t 21,.t 21]⟩,O1 23 (.fldA 9) 5,ST 1 23 22]).seq ((C.wk.seq (C.ops [O1 25 (.load (some 10)) 5,O1 26 (.call 25 true) 25,MV 24 26,
 O1 27 (.ext 0) 24,O1 28 (.ext 1) 24,MV 6 27,MV 7 28])).seq (((C.ops [MV 29 4,MV 30 7,BI 31 .neq 29 30,MV 32 31,MG 33 32 false 3,P1 34 32 false .len 33,MG 35 32 false 6,P1
 36 32 false .len 35,P2 37 32 false (.bin .neq) 34 36,PT 38 32 37]).seq (C.cond (.t 38) ((C.ops [MC 2 (.bool false)]).seq C.ret) C.skip)).seq (((C.ops [MV 39 3,O1 40 .len 39,MC
 41 (i6 0)]).seq (C.block 0 ((C.ops [BI 42 .lss 41 40]).seq ((C.cond (.t 42) C.skip (C.exit 0)).seq ((C.block 1 ((C.ops [MV 43 41,MV 8 43]).seq ((C.ops [MV 44 3,MV 45 8,O2 46
 (.idxA 6) 44 45,O1 47 (.load (some 6)) 46,⟨some 9,none,.alloc 3 58 [i6 0,i6 0,i6 0,.bool false,.nl,.nl],[]⟩,ST 6 9 47]).seq ((C.ops [O1 48 (.fldA 3) 9,⟨none,none,
 .store 1,[.t 48,.c (.bool false)]⟩,O1 49 (.fldA 4) 9,⟨none,none,.store 1,[.t 49,.c .nl]⟩]).seq ((C.ops [O1 50 (.load (some 6)) 9,MV 51 6,MV 52 8,O2 53 (.idxA 6) 51 52,
 O1 54 (.load (some 6)) 53,O2 55 (.call 30 true) 50 54,O1 56 (.un UnOp.not) 55]).seq (C.cond (.t 56) ((C.ops [MC 2 (.bool false)]).seq C.ret) C.skip)))))).seq (C.ops [BC 57 .add
 41 (i6 1),MV 41 57])))).loop)).seq ((C.ops [ON 58 (.call 24 true) [],MV 2 58]).seq
 C.ret)))))))))
theorem qCa:qR Tryz.prog 5 59 4 [RV.tmp 2] c5s:=fi Tryz.f5 [1,5,22,9] qtB [6] (by kernel_rfl) (by kernel_rfl) (by kernel_rfl) (by kernel_rfl)
end
section
open Go Go.Proofs AF HY LN
namespace RC
set_option maxHeartbeats 16000000
theorem qlz (z:AV) (n:Nat):qZ [z] n=List.replicate n z:=by
 induction n with
 |zero=>rfl
 |succ n ih=>simp only [qZ,ih,List.replicate_succ];rfl
theorem qpu {v n:Nat} {ty:TypeId} {g:AV→AV} (hg:g (.bool false)= .bool false):VLe (qdn (some (.mem v ty (qZ [.bool false] n))) v 1 0 n g) (zj (List.replicate n false)):=by
 rw [qlz,slOf_mem,if_pos ⟨rfl,by rw [List.length_replicate];omega⟩]
 refine VLe.sl_eq (by rw [List.length_replicate]) fun i hi=> ?_
 have e1:(List.drop (0+i*1) (List.replicate n (AV.bool false))).take 1= [.bool false]:=by
  rw [List.drop_replicate,List.take_replicate,show min 1 (n-(0+i*1))=1 by omega]
  rfl
 rw [e1,gdqA,List.getElem?_replicate,if_pos (by omega)]
 simp [hg]
theorem qDk (e:En) (h:List AObj) (hz:EnZ e):ACalls Tryz.prog 30 [.agg [.int .i64 e.layer,.int .i64 e.frm,.int .i64 e.to,.bool false,.nl,qbl e.vars],.agg [.int .i64 e.layer,.int .i64 e.frm,.int .i64 e.to,.bool false,strs [],qbl e.vars]] h (.bool true) h:=
 (qCk (qd5 e) h (Nat.zero_le _) hz.v hz.w (fun j=>Nat.le_trans (hz.g j) (by decide))).le ⟨VLe.agg ⟨VLe.refl _,VLe.refl _,VLe.refl _,VLe.refl _,kq,VLe.refl _,trivial⟩,VLe.refl _,trivial⟩ (VLe.refl _)
theorem qtI {L:List En} {i:Nat} (hi:i<L.length):(L.map qd5).getD i default=qd5 (L.getD i default):=by
 rw [gdqA,List.getElem?_map,zU hi,gdqA,zU hi]
 rfl
theorem qC6 (a:Ap) (h:List AObj) (hp:qbk SG h) (hb:ApB a):ACalls Tryz.prog 5 [.agg (apC a)] h (.bool true) h:=by
 have c24:=fun l=>qvr (h++l) (hp.app l)
 have c23:=fun h=>grP a h hb
 obtain ⟨g,hg⟩: ∃g,g=qrE a:=⟨_,rfl⟩
 rw [←hg]at c23
 cases g with
 |true=>
  refine acO qCa ?_
  simp (disch:=omega) only [c5s,List.replicate,apC,go_sem]
  repeat' first
   |((first|refine cA (c23 _) ?_ ?_|refine cG (fun e=>c23 _) ?_ ?_|refine cA (c24 _) ?_ ?_|refine cG (fun e=>c24 _) ?_ ?_|refine cU (fun _=>c23 _) ?_ ?_|refine cU (fun _=>c24 _) ?_ ?_);(next=>exact flk);simp (disch:=omega) only [apC,go_sem])
   |((first|apply qd|apply qb);exact rvk;simp only [go_sem];first|exact VLe.refl _|apply qe|apply qa|apply qf|skip)
   |with_reducible first|apply And.intro|intro _
  all_goals try exact clz
 |false=>
  have hz:=qfJ hg.symm
  have hn:=qkJ hz
  have c25:=fun l=>qtH a (h++l) hz (hp.app l)
  obtain ⟨e1,e2⟩:=qs9 a
  obtain ⟨E,hE⟩: ∃E,E=enE a:=⟨_,rfl⟩
  obtain ⟨L,hL⟩: ∃L,L=enR a:=⟨_,rfl⟩
  rw [←hE,←hL]at c25
  rw [←hL]at hn
  have zb: ∀g,valL g .len [zj a.pos]= .int .i64 a.pos.length:=fun _=>rfl
  have zc: ∀g,okL g .len [zj a.pos]=True:=fun _=>eq_true trivial
  have n1:=hz.p20
  refine acO qCa ?_
  simp (disch:=omega) only [c5s,List.replicate,apC,zb,zc,go_sem]
  repeat' first
   |((first|refine cA (c23 _) ?_ ?_|refine cG (fun e=>c23 _) ?_ ?_|refine cA (c25 _) ?_ ?_|refine cG (fun e=>c25 _) ?_ ?_|refine cU (fun _=>c23 _) ?_ ?_|refine cU (fun _=>c25 _) ?_ ?_);(next=>exact flk);simp (disch:=omega) only [apC,zb,zc,go_sem])
   |((first|apply qd|apply qb);exact rvk;simp only [go_sem];first|exact VLe.refl _|apply qe|apply qa|apply qf|skip)
   |with_reducible first|apply And.intro|intro _
  all_goals try exact clz
  refine ⟨_,_,Wk.fzCell (j:=h.length+1) (k:=h.length+2) (i:=9) (v:=1) (ty:=47) (cs:= [AV.str a.x.sec,strs a.x.sig,qn a.x.tok,qm a.x.col,qE a.l,zp a.cls,qO a.b,qG a.gs,strs a.lay,AV.osl (h.length+2) 1 1 0 a.pos.length]) (c:=AV.osl (h.length+2) 1 1 0 a.pos.length) (c':=zj (List.replicate a.pos.length false)) ?n1 rfl ?n2 (by omega) ?n3,?_⟩
  case n1=>simp only [go_sem]
  case n2=>simp only [go_sem]
  case n3=>
   rw [qa0,getO_app]
   exact qpu rfl
  have c25b:=fun l=>qtH { a with pos:=List.replicate a.pos.length false } (h++l) (qr8 hz) (hp.app l)
  rw [←hE]at e1
  rw [←hL]at e2
  simp only [e1,e2]at c25b
  unfold apC at c25b
  have lm:(L.map qd5).length=L.length:=List.length_map _
  have zl: ∀g,valL g .len [jm L]= .int .i64 L.length:=fun _=>rfl
  have zk: ∀g,okL g .len [jm L]=True:=fun _=>eq_true trivial
  have zm: ∀g,valL g .len [jm (L.map qd5)]= .int .i64 L.length:=fun _=>by show AV.int .i64 ((L.map qd5).length:Nat)=_;rw [lm]
  have zn: ∀g,okL g .len [jm (L.map qd5)]=True:=fun _=>eq_true trivial
  simp (disch:=omega) only [List.set_cons_succ,List.set_cons_zero,zl,zm,zk,zn,go_sem]
  repeat' first
   |((first|refine cA (c25b _) ?_ ?_|refine cG (fun e=>c25b _) ?_ ?_|refine cU (fun _=>c25b _) ?_ ?_);(next=>exact flk);simp (disch:=omega) only [zl,zm,zk,zn,go_sem])
   |((first|apply qd|apply qb);exact rvk;simp only [go_sem];first|exact VLe.refl _|apply qe|apply qa|apply qf|skip)
   |with_reducible first|apply And.intro|intro _
  all_goals try exact clz
  refine qt (T:=fun i:Nat×Nat×AObj=>qY 59 [(3,jm L),(6,jm (L.map qd5)),(40,.int .i64 L.length),(41,.int .i64 i.1)])
   (H:=fun i=>h++ [.mem 1 47 [AV.str a.x.sec,strs a.x.sig,qn a.x.tok,qm a.x.col,qE a.l,zp a.cls,qO a.b,qG a.gs,strs a.lay,zj a.pos],.mem 1 47 [AV.str a.x.sec,strs a.x.sig,qn a.x.tok,qm a.x.col,qE a.l,zp a.cls,qO a.b,qG a.gs,strs a.lay,zj (List.replicate a.pos.length false)],.emp 2,i.2.2])
   (inv:=fun i=>i.1≤L.length∧qK [i.2.2] 0=true) (m:=fun i=>L.length-i.1) (0,0,.emp 0) ⟨Nat.zero_le _,rfl⟩ (Wk.temps ?_) ?_
  ·(simp only [List.replicate,go_sem,qk,qi,qg,qj];try (repeat' first|(with_reducible apply And.intro)|(apply qe;omega)|(apply qa;rfl)|exact VLe.refl _))
  rintro ⟨i,v,O⟩ ⟨i1,i2⟩ K hK
  simp only at i1 i2 hK
  have i2': ∀m,qK (O::m) 0=true:=fun _=>i2
  by_cases hi:i<L.length
  ·have k1:((i:Int)<L.length)=True:=eq_true (by omega)
   have k3:(i<(L.map qd5).length)=True:=eq_true (by omega)
   have ezz:=qwC hz i
   rw [←hL]at ezz
   have em:=qtI hi
   obtain ⟨x,hx⟩: ∃x,x=L.getD i default:=⟨_,rfl⟩
   rw [←hx]at ezz em
   have ex:=hx.symm
   have c30:=fun h=>qDk x h ezz
   have zz:jm L= .sl L.length fun i=>enC (L.getD i default):=rfl
   have zy:jm (L.map qd5)= .sl L.length fun i=>enC ((L.map qd5).getD i default):=by
    show AV.sl (L.map qd5).length _=_
    rw [lm]
   have xn:qd5 x=⟨x.layer,x.frm,x.to,false,[],x.vars⟩:=rfl
   simp (disch:=omega) only [List.replicate,zz,zy,enC,k1,k3,ex,em,i2',xn,go_sem]
   repeat' first
    |((first|refine cA (c30 _) ?_ ?_|refine cG (fun e=>c30 _) ?_ ?_|refine cU (fun _=>c30 _) ?_ ?_);(next=>exact flk);simp (disch:=omega) only [zz,zy,enC,k1,k3,ex,em,i2',xn,go_sem])
    |((first|apply qd|apply qb);exact rvk;simp only [go_sem];first|exact VLe.refl _|apply qe|apply qa|apply qf|skip)
    |with_reducible first|apply And.intro|intro _
   all_goals try exact clz
   refine hK _ _ (i+1,qu (some O)+1,.mem (qu (some O)+1) 58 [.int .i64 x.layer,.int .i64 x.frm,.int .i64 x.to,.bool false,.nl,qbl x.vars]) ⟨hi,rfl⟩ (by simp only;omega) ?_
   refine Wk.temps ?_
   (simp only [List.replicate,zz,zy,enC,go_sem,qk,qi,qg,qj];try (repeat' first|(with_reducible apply And.intro)|(apply qe;omega)|(apply qa;rfl)|exact VLe.refl _))
  have k1:((i:Int)<L.length)=False:=eq_false (by omega)
  simp (disch:=omega) only [List.replicate,k1,go_sem]
  repeat' first
   |((first|refine cA (c24 _) ?_ ?_|refine cG (fun e=>c24 _) ?_ ?_|refine cU (fun _=>c24 _) ?_ ?_);(next=>exact flk);simp (disch:=omega) only [k1,go_sem])
   |((first|apply qd|apply qb);exact rvk;simp only [go_sem];first|exact VLe.refl _|apply qe|apply qa|apply qf|skip)
   |with_reducible first|apply And.intro|intro _
  all_goals try exact clz
end RC
end
section
open Go Go.Proofs AF HY Go.ChangeShapes Go.RowKit
namespace LN
theorem qAR : Tryz.prog.globalNamed "internal/strconv.uint64pow10" = some 1 := by kernel_rfl
theorem qAT : Tryz.prog.globalNamed "strconv.ErrSyntax" = some 6 := by kernel_rfl
theorem qAS : Tryz.prog.globalNamed "strconv.ErrRange" = some 7 := by kernel_rfl
theorem qpV {w w':World} (h:qq3 w) (e:w'.heap[1]? =w.heap[1]?):qq3 w':=by
 unfold qq3 Lib.TabIs at*
 rw [qdZ qAR e]
 exact h
theorem qhc : "*" ++ "errors.errorString" = "*errors.errorString" := by decide
theorem qrU (u : TypeId) (h : Tryz.prog.typeName? 3 u = some "*errors.errorString") : u = 323 :=
 typeName_ptr_named (nm := "errors.errorString") (by rw [qhc]; kernel_rfl) (by kernel_rfl) (by decide) u (by rw [qhc]; exact h)
def qcL:List Nat:= [1,6,7]
def qve (w:World):Prop:=qq3 w∧qvg w
theorem qyH {W:World} (h:laidMet Tryz.prog YtgoandblgcjleaaGreatDoor.Rows.apparatusSpansRow.laid W):qq3 W∧qvg W:=by
 have h2:=laidMet.tail (laidMet.tail h)
 have h3:=laidMet.tail (laidMet.tail h2)
 have h4:=laidMet.tail h3
 obtain ⟨a,s,e1,_⟩:=laid_sentinel (g:=7) (ti:=192) (tp:=323) (te:=325) (ts:=9) h3 qAS (by kernel_rfl) Tryz.underlying192 qrU Tryz.underlying323 Tryz.underlying325 rfl rfl Tryz.underlying9 (by kernel_rfl) (by kernel_rfl)
 obtain ⟨b,t,e2,_⟩:=laid_sentinel (g:=6) (ti:=192) (tp:=323) (te:=325) (ts:=9) h4 qAT (by kernel_rfl) Tryz.underlying192 qrU Tryz.underlying323 Tryz.underlying325 rfl rfl Tryz.underlying9 (by kernel_rfl) (by kernel_rfl)
 exact ⟨Lib.tabIs_of_head (t:=288) (e:=164) (n:=20) qAR (by kernel_rfl) Tryz.underlying288 Tryz.underlying164 (by kernel_rfl) (by kernel_rfl) h2,⟨_,_,e2⟩,_,_,e1⟩
theorem qg9 {W:World} (h:laidMet Tryz.prog YtgoandblgcjleaaGreatDoor.Rows.apparatusSpansRow.laid W): ∀b,b∈qcL→ ∃arr T fz,W.heap[b]? =some (.cells arr T fz):=by
 intro b hb
 obtain ⟨h1,⟨_,_,h2⟩,_,_,h3⟩:=qyH h
 have e:b=1∨b=6∨b=7:=by simpa [qcL] using hb
 rcases e with rfl|rfl|rfl
 ·exact qcP qAR h1
 ·exact qcP qAT h2
 ·exact qcP qAS h3
theorem qmJ {W:World} (h:laidMet Tryz.prog YtgoandblgcjleaaGreatDoor.Rows.apparatusSpansRow.laid W): ∀w':World,(∀b,b∈qcL→w'.heap[b]? =W.heap[b]?)→qve w':=by
 intro w' hs
 obtain ⟨h1,⟨t1,p1,h2⟩,t2,p2,h3⟩:=qyH h
 refine ⟨qpV h1 (hs 1 (by simp [qcL])),⟨t1,p1,?_⟩,t2,p2,?_⟩
 ·rw [qdZ qAT (hs 6 (by simp [qcL]))];exact h2
 ·rw [qdZ qAS (hs 7 (by simp [qcL]))];exact h3
theorem qmI:qbk RC.SG [.pin qcL qve]:=⟨0,_,_,rfl,fun _ h=>h⟩
end LN
end
