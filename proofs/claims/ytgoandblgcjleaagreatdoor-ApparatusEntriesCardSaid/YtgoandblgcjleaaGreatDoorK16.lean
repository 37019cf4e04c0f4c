import Derived.Test.YtgoandblgcjleaaGreatDoorK15
import Derived.Test.YtgoandblgcjleaaGreatDoorK11
import Derived.Test.YtgoandblgcjleaaGreatDoorK3
import Derived.Test.YtgoandblgcjleaaGreatDoorK5
import Derived.Test.YtgoandblgcjleaaGreatDoorK8
import Derived.Test.YtgoandblgcjleaaGreatDoorProg
import Derived.Test.YtgoandblgcjleaaGreatDoorK13
import Derived.Test.YtgoandblgcjleaaGreatDoorK14
import Derived.Test.YtgoandblgcjleaaGreatDoorK10
import Derived.Test.YtgoandblgcjleaaGreatDoorK12
import Derived.Test.YtgoandblgcjleaaGreatDoorK9
set_option linter.all false
set_option linter.unusedSimpArgs false
set_option linter.unusedVariables false
set_option linter.unusedSectionVars false
set_option maxHeartbeats 128000000
set_option maxRecDepth 100000
section
open Go Go.Proofs AF HY LN
namespace RC
theorem il1{f g:Nat→List AV}(h:f 0=g 0):ILe (.sl 1 f) (.sl 1 g):=ILe.sl_eq fun i hi=>by
 obtain rfl:i=0:=by omega
 exact h
theorem il2{f g:Nat→List AV}(h0:f 0=g 0)(h1:f 1=g 1):ILe (.sl 2 f) (.sl 2 g):=ILe.sl_eq fun i hi=>by
 match i,hi with
 |0,_=>exact h0
 |1,_=>exact h1
 |n+2,hi=>exact absurd hi (by omega)
theorem il3{f g:Nat→List AV}(h0:f 0=g 0)(h1:f 1=g 1)(h2:f 2=g 2):ILe (.sl 3 f) (.sl 3 g):=ILe.sl_eq fun i hi=>by
 match i,hi with
 |0,_=>exact h0
 |1,_=>exact h1
 |2,_=>exact h2
 |n+3,hi=>exact absurd hi (by omega)
theorem im1{f g:Nat→List AV}(h:qae (f 0) (g 0)):ILe (.sl 1 f) (.sl 1 g):=ILe.sl fun i hi=>by
 obtain rfl:i=0:=by omega
 exact h
theorem im2{f g:Nat→List AV}(h0:qae (f 0) (g 0))(h1:qae (f 1) (g 1)):ILe (.sl 2 f) (.sl 2 g):=ILe.sl fun i hi=>by
 match i,hi with
 |0,_=>exact h0
 |1,_=>exact h1
 |n+2,hi=>exact absurd hi (by omega)
theorem vl1{f g:Nat→List AV}(h:qae (f 0) (g 0)):VLe (.sl 1 f) (.sl 1 g):=VLe.sl fun i hi=>by
 obtain rfl:i=0:=by omega
 exact h
theorem vl2{f g:Nat→List AV}(h0:qae (f 0) (g 0))(h1:qae (f 1) (g 1)):VLe (.sl 2 f) (.sl 2 g):=VLe.sl fun i hi=>by
 match i,hi with
 |0,_=>exact h0
 |1,_=>exact h1
 |n+2,hi=>exact absurd hi (by omega)
theorem vl3{f g:Nat→List AV}(h0:qae (f 0) (g 0))(h1:qae (f 1) (g 1))(h2:qae (f 2) (g 2)):VLe (.sl 3 f) (.sl 3 g):=VLe.sl fun i hi=>by
 match i,hi with
 |0,_=>exact h0
 |1,_=>exact h1
 |2,_=>exact h2
 |n+3,hi=>exact absurd hi (by omega)
theorem ie{a b:AV}(h:a=b):ILe a b:=by rw[h];exact ILe.refl _
theorem qBp(s:Str)(h:List AObj):ACalls Tryz.prog 163 [.str s] h (.agg (tkC (tkS s))) h:=by
 unfold tkS tkC;refine acO qw7 ?_;simp (disch:=omega) only[qvC,go_sem]
 repeat' first
  |(apply qb;exact rvk;simp only[go_sem];exact qj)
theorem quY:qtp xAp=false:=by decide+kernel
theorem qDP:qnF xAp:=qla quY
theorem qBk(h:List AObj):ACalls Tryz.prog 97 [] h (.agg (coC xCo)) h:=by
 have c1:=fun s h=>qBp s h
 unfold tkC tkS at c1;refine acO qAP ?_;simp (disch:=omega) only[qB3,go_sem]
 repeat' first
  |((first|refine cA (c1 qpJ _) ?_ ?_|refine cA (c1 qz2 _) ?_ ?_|refine cA (c1 qg9 _) ?_ ?_);exact flk;simp (disch:=omega) only[go_sem])
  |(apply qb;exact rvk;simp only[go_sem])
 refine VLe.agg ⟨qj,vl2 ⟨ie rfl,trivial⟩ ⟨ie rfl,trivial⟩,vl2 ⟨?a1,trivial⟩ ⟨?a2,trivial⟩,vl3 ⟨?a3,trivial⟩ ⟨?a4,trivial⟩ ⟨?a5,trivial⟩,trivial⟩
 case a1=>simp only[go_sem];exact il3 rfl rfl rfl
 case a2=>simp only[go_sem];exact il2 rfl rfl
 case a3=>simp only[go_sem];exact il2 rfl rfl
 case a4=>simp only[go_sem];exact il2 rfl rfl
 case a5=>simp only[go_sem];exact il2 rfl rfl
theorem qA5(a:Ap)(h:List AObj)(hz:qnF a)(hp:qaz SG h):ACalls Tryz.prog 25 [.agg (apC a)] h (.tup [qbm (enR a),.int .i64 (enE a)]) h:=by
 have c1:=fun l=>qB5 a (h++l) hz (hp.app l)
 unfold coC at c1;refine acO qAv ?_;simp (disch:=omega) only[qBR,apC,go_sem]
 repeat' first
  |(refine cA (c1 _) ?_ ?_;exact flk;simp (disch:=omega) only[go_sem])
  |(apply qb;exact rvk;simp only[go_sem];exact qj)
  |with_reducible apply aiA
 all_goals try exact clz
theorem qz9(h:List AObj)(hp:qaz SG h):ACalls Tryz.prog 24 [] h (.bool true) h:=by
 have c1:=fun h=>qBk h
 refine acO qAu ?_;simp (disch:=omega) only[qBQ,go_sem]
 repeat' first
  |(refine cA (c1 _) ?_ ?_;exact flk;simp (disch:=omega) only[go_sem])
 have zm:valP (.mm true) [.int .i64 0,.int .i64 0,.int .i64 0]= .int .i64 0:=rfl;have zn:okP (.mm true) [.int .i64 0,.int .i64 0,.int .i64 0]=True:=eq_true (by simp[okP,qb4]);have c2:=fun l=>qB5 xAp (h++l) qDP (hp.app l)
 rw[qBM,qBN]at c2;refine qkb (r:= .tup [qbm xEn,.int .i64 0]) (h':=h++ [.emp 2,.emp 2,.emp 2,.emp 2,.emp 2,.emp 2,.emp 2,.emp 2,.emp 2,.emp 2,.emp 0,.emp 0,.emp 0,.emp 0,.emp 0,.emp 0])
  (qCY [h.length,h.length+1,h.length+2,h.length+3,h.length+4,h.length+5,h.length+6,h.length+7,h.length+8,h.length+9] (by simp only[kq,go_sem]) ?c) (by exact flk) ?_
 case c=>
  simp only[qcR,go_sem];refine ACalls.le (c2 _) ?_ (qj);obtain⟨fz,hfz⟩: ∃fz:Nat→Bool,fz=fun k=> [h.length,h.length+1,h.length+2,h.length+3,h.length+4,h.length+5,h.length+6,h.length+7,h.length+8,h.length+9].contains k:=⟨_,rfl⟩
  rw[←hfz];have f0:fz h.length=true:=by rw[hfz];simp
  have f1:fz (h.length+1)=true:=by rw[hfz];simp
  have f2:fz (h.length+2)=true:=by rw[hfz];simp
  have f3:fz (h.length+3)=true:=by rw[hfz];simp
  have f4:fz (h.length+4)=true:=by rw[hfz];simp
  have f5:fz (h.length+5)=true:=by rw[hfz];simp
  have f6:fz (h.length+6)=true:=by rw[hfz];simp
  have f7:fz (h.length+7)=true:=by rw[hfz];simp
  have f8:fz (h.length+8)=true:=by rw[hfz];simp
  have f9:fz (h.length+9)=true:=by rw[hfz];simp
  have g0:([h.length,h.length+1,h.length+2,h.length+3,h.length+4,h.length+5,h.length+6,h.length+7,h.length+8,h.length+9]:List Nat).contains h.length=true:=by simp
  have g1:([h.length,h.length+1,h.length+2,h.length+3,h.length+4,h.length+5,h.length+6,h.length+7,h.length+8,h.length+9]:List Nat).contains (h.length+1)=true:=by simp
  have g2:([h.length,h.length+1,h.length+2,h.length+3,h.length+4,h.length+5,h.length+6,h.length+7,h.length+8,h.length+9]:List Nat).contains (h.length+2)=true:=by simp
  have g3:([h.length,h.length+1,h.length+2,h.length+3,h.length+4,h.length+5,h.length+6,h.length+7,h.length+8,h.length+9]:List Nat).contains (h.length+3)=true:=by simp
  have g4:([h.length,h.length+1,h.length+2,h.length+3,h.length+4,h.length+5,h.length+6,h.length+7,h.length+8,h.length+9]:List Nat).contains (h.length+4)=true:=by simp
  have g5:([h.length,h.length+1,h.length+2,h.length+3,h.length+4,h.length+5,h.length+6,h.length+7,h.length+8,h.length+9]:List Nat).contains (h.length+5)=true:=by simp
  have g6:([h.length,h.length+1,h.length+2,h.length+3,h.length+4,h.length+5,h.length+6,h.length+7,h.length+8,h.length+9]:List Nat).contains (h.length+6)=true:=by simp
  have g7:([h.length,h.length+1,h.length+2,h.length+3,h.length+4,h.length+5,h.length+6,h.length+7,h.length+8,h.length+9]:List Nat).contains (h.length+7)=true:=by simp
  have g8:([h.length,h.length+1,h.length+2,h.length+3,h.length+4,h.length+5,h.length+6,h.length+7,h.length+8,h.length+9]:List Nat).contains (h.length+8)=true:=by simp
  have g9:([h.length,h.length+1,h.length+2,h.length+3,h.length+4,h.length+5,h.length+6,h.length+7,h.length+8,h.length+9]:List Nat).contains (h.length+9)=true:=by simp
  clear hfz;simp only[go_sem,coC,List.map_cons,List.map_nil,g0,g5,g7,g8,g9,if_true];refine⟨qj,vl1 ⟨ie rfl,ie rfl,?b1,trivial⟩,vl1 ⟨?b2,trivial⟩,VLe.sl_eq rfl (fun i hi=> ?b3),jS,VLe.sl_eq rfl (fun i hi=> ?b4),VLe.sl_eq rfl (fun i hi=> ?b5),trivial⟩
  case b1=>
   simp only[go_sem,f4,if_true];refine im2 ⟨?u1,?u2,trivial⟩ ⟨ILe.nl,?u3,trivial⟩
   all_goals
    simp only[go_sem,f1,f2,f3,if_true];exact il1 rfl
  case b2=>
   simp only[go_sem,f6,if_true];exact il2 rfl rfl
  case b3=>
   match i,hi with
   |0,_=>rfl
   |1,_=>rfl
   |2,_=>rfl
   |n+3,hi=>exact absurd hi (by omega)
  case b4=>
   obtain rfl:i=0:=by omega
   rfl
  case b5=>
   obtain rfl:i=0:=by omega
   rfl
 simp (disch:=omega) only[go_sem]
 repeat' first
  |with_reducible apply aiA
 all_goals try exact clz
 have lz: ∀i,(xL3.getD i []).length≤100000000:=qZ xL3 (fun s=>s.length≤100000000) (by decide) (by decide);refine cA (r:= .tup [.int .i64 2,.int .i64 0]) ?d (by exact flk) ?_
 case d=>
  have c2:=lyP xL3 [120] [] (by decide) lz;rw[quZ.1,quZ.2]at c2;refine ACalls.borrow (c2.le ?_ (qj)) (by simp[qa3,jO]);simp only[List.map_cons,List.map_nil,go_sem];exact⟨VLe.sl_eq rfl (fun i hi=>by
   match i,hi with
   |0,_=>rfl
   |1,_=>rfl
   |2,_=>rfl
   |n+3,hi=>exact absurd hi (by omega)),qj,trivial⟩
 simp (disch:=omega) only[go_sem]
 repeat' first
  |with_reducible apply aiA
 all_goals try exact clz
 refine cA (r:= .tup [.int .i64 0,.int .i64 0]) ?e (by exact flk) ?_
 case e=>
  have c2:=lyP xL3 [98] [] (by decide) lz;rw[qBO,quZ.2]at c2;refine ACalls.borrow (c2.le ?_ (qj)) (by simp[qa3,jO]);simp only[List.map_cons,List.map_nil,go_sem];exact⟨VLe.sl_eq rfl (fun i hi=>by
   match i,hi with
   |0,_=>rfl
   |1,_=>rfl
   |2,_=>rfl
   |n+3,hi=>exact absurd hi (by omega)),qj,trivial⟩
 simp (disch:=omega) only[zm,zn,go_sem]
 repeat' first
  |with_reducible apply aiA
 all_goals try exact clz
 have xz:EqZ xEn:=by
  refine⟨by decide,?_,?_,?_,?_⟩
  ·exact qZ xEn (fun e=>e.sup.length≤1000000000) (by decide) (by decide)
  ·exact qZ xEn (fun e=>e.vars.length≤1000000000) (by decide) (by decide)
  ·exact qZ xEn (fun e=> ∀j,(e.vars.getD j default).words.length≤1000000000) (fun j=>by simp[show (default:En).vars= []from rfl,show (default:Va).words= []from rfl]) fun i hi=>by
    obtain rfl:i=0:=by have:xEn.length=1:=rfl;omega
    exact qZ _ (fun v:Va=>v.words.length≤1000000000) (by decide) (by decide)
  ·exact qZ xEn (fun e=> ∀j,(e.vars.getD j default).sigla.length≤1000000000) (fun j=>by simp[show (default:En).vars= []from rfl,show (default:Va).sigla= []from rfl]) fun i hi=>by
    obtain rfl:i=0:=by have:xEn.length=1:=rfl;omega
    exact qZ _ (fun v:Va=>v.sigla.length≤1000000000) (by decide) (by decide)
 refine cG (fun _=>ACalls.borrow ((qCk xEn [] xz).le ?g1 (qj)) rfl) (fun _=>by exact flk) ?_
 case g1=>
  simp only[List.map_cons,List.map_nil,go_sem];refine⟨qj,vl1 ⟨ie rfl,ie rfl,ie rfl,ie rfl,?h1,?h2,trivial⟩,trivial⟩
  case h1=>simp only[go_sem,if_true];exact il1 rfl
  case h2=>
   simp only[go_sem,if_true];refine im1 ⟨ILe.nl,?h3,trivial⟩;simp only[go_sem,if_true];exact il1 rfl
 simp (disch:=omega) only[go_sem]
 repeat' first
  |(apply qb;exact rvk;simp only[go_sem];exact qj)
end RC
end
section
open Go Go.Proofs AF
end
section
open Go Go.Proofs AF HY LN
namespace RC
end RC
end
section
open Go Go.Proofs AF
end
section
open Go Go.Proofs AF HY LN
namespace RC
section
variable {q : En → Bool} {L : List En} {J : Nat}
end
section
variable {k v w : Nat} {h l : List AObj} {ty : TypeId} {cs : List AV}
end
def zEn:List AV:= [.int .i64 0,.int .i64 0,.int .i64 0,.bool false,.nl,.nl]
end RC
end
section
open Go Go.Proofs AF
end
section
open Go Go.Proofs AF HY LN
namespace RC
end RC
end
section
open Go Go.Proofs AF
end
section
open Go Go.Proofs AF HY LN
namespace RC
theorem qrn(b:List Wd)(k:Int): ∀n,(owG b k n).length≤n:=by
 intro n
 induction n with
 |zero=>exact Nat.le_refl _
 |succ n ih=>
  unfold owG;rw[List.length_append];split
  ·simp only[List.length_cons,List.length_nil];omega
  ·simp only[List.length_nil];omega
theorem qB8(lay:List Str)(h:List AObj):ACalls Tryz.prog 99 [strs lay] h (.int .i64 (lyE lay)) h:=by
 have zl: ∀g,valL g .len [strs lay]= .int .i64 lay.length:=fun _=>rfl
 have zo: ∀g,okL g .len [strs lay]=True:=fun _=>eq_true trivial
 unfold lyE
 by_cases g1:lay.length=0
 ·have k1:((lay.length:Int)=0)=True:=eq_true (by omega);rw[if_pos g1];refine acO qti ?_;simp (disch:=omega) only[qz0,zl,zo,k1,go_sem]
  repeat' first
   |(apply qf;exact rvk;simp only[go_sem];exact qj)
 have k1:((lay.length:Int)=0)=False:=eq_false (by omega);rw[if_neg g1]
 by_cases g2:16<lay.length
 ·have k2:((16:Int)<lay.length)=True:=eq_true (by omega);rw[if_pos g2];refine acO qti ?_;simp (disch:=omega) only[qz0,zl,zo,k1,k2,go_sem]
  repeat' first
   |(apply qf;exact rvk;simp only[go_sem];exact qj)
 have k2:((16:Int)<lay.length)=False:=eq_false (by omega);rw[if_neg g2];refine acO qti ?_;simp (disch:=omega) only[qz0,zl,zo,k1,k2,go_sem]
 repeat' first
  |(apply qf;exact rvk;simp only[go_sem];exact qj)
theorem qyH(b:List Wd)(k:Int)(h:List AObj)(hn:b.length≤1000000):ACalls Tryz.prog 100 [qU b,.int .i64 k] h (strs (owG b k b.length)) h:=by
 refine acO qwR ?_;simp (disch:=omega) only[qvp,qU,go_sem];have eM:qS [AV.str []] 0=zH (owG b k 0):=rfl;rw[eM];refine qm (T:=fun s:Nat×Nat×AObj=>qI 30 [(0,qU b),(1,.int .i64 k),(5,.osl (h.length+1) s.2.1 1 0 (owG b k s.1).length),(6,.int .i64 s.1)])
  (H:=fun s=>h++ [.emp 1,.mem s.2.1 9 (zH (owG b k s.1)),s.2.2,.emp 0])
  (inv:=fun s=>s.1≤b.length∧qz [s.2.2] 0=true) (m:=fun s=>b.length-s.1) (0,1,.emp 0) ⟨Nat.zero_le _,rfl⟩ (Wk.temps ?_) ?_
 ·(simp only[qU,owG,go_sem,qh,qd,qa,qg];try (repeat' first|(with_reducible apply aiA)|(apply qi;omega)|(apply qe;rfl)|exact qj))
 rintro⟨i,v,O2⟩ ⟨i1,i3⟩ K hK;simp only at i1 i3 hK;have i3': ∀m,qz (O2::m) 0=true:=fun _=>i3
 have hol:=qrn b k i
 by_cases hi:i<b.length
 ·have k1:((i:Int)<b.length)=True:=eq_true (by omega);have k2:(0≤(i:Int))=True:=eq_true (by omega);have hS:owG b k (i+1)=owG b k i++if (b.getD i default).unit=k then [(b.getD i default).text] else []:=rfl
  obtain⟨L,hL⟩: ∃L,L=owG b k i:=⟨_,rfl⟩
  rw[←hL]at hS hol ⊢;obtain⟨w,hw⟩: ∃w,w=b.getD i default:=⟨_,rfl⟩
  have ew:=hw.symm;rw[ew]at hS;have eC:=zB L;have eTk:List.take L.length (zH L)=zH L:=List.take_of_length_le (by omega)
  by_cases g:w.unit=k
  ·have q1:(w.unit=k)=True:=eq_true g;rw[if_pos g]at hS;simp (disch:=omega) only[qU,wdC,k1,k2,ew,i3',q1,eC,eTk,Nat.mul_one,go_sem]
   repeat' first
    |with_reducible apply aiA
   all_goals try exact clz
   have eA:zH L++ [AV.str w.text]=zH (L++ [w.text]):=by simp[zH]
   have eD:(AV.str w.text::List.drop 1 (qS [AV.str []] 1))= [AV.str w.text]:=rfl;rw[eA,eD];refine hK _ _ (i+1,v+1,.mem (qq (some O2)+1) 9 [.str w.text]) ⟨hi,rfl⟩ (by simp only;omega) ?_;simp only[hS,List.length_append,List.length_cons,List.length_nil];refine Wk.temps ?_
   (simp only[qU,wdC,go_sem,qh,qd,qa,qg];try (repeat' first|(with_reducible apply aiA)|(apply qi;omega)|(apply qe;rfl)|exact qj))
  ·have q1:(w.unit=k)=False:=eq_false g;rw[if_neg g,List.append_nil]at hS;simp (disch:=omega) only[qU,wdC,k1,k2,ew,i3',q1,go_sem];refine hK _ _ (i+1,v,O2) ⟨hi,i3⟩ (by simp only;omega) ?_;simp only[hS];refine Wk.temps ?_
   (simp only[qU,wdC,go_sem,qh,qd,qa,qg];try (repeat' first|(with_reducible apply aiA)|(apply qi;omega)|(apply qe;rfl)|exact qj))
 have k1:((i:Int)<b.length)=False:=eq_false (by omega);obtain rfl:i=b.length:=by omega
 simp (disch:=omega) only[qU,k1,go_sem]
 repeat' first
  |(apply qb;exact rvk;simp only[go_sem])
 rw[if_pos (by rw[zB];exact Nat.le_refl _)];exact qbj _ (fun _=>rfl) rfl
def qur(b:List Wd)(k c:Int)(i:Nat):Bool:=inU b k i|| !bfU b c i
def spG(b:List Wd)(k c:Int):Nat:=nxt (qur b k c) b.length 0
theorem qDq(b:List Wd)(k:Int)(u:Un)(h:List AObj)(hn:b.length≤1000000):ACalls Tryz.prog 101 [qU b,.agg (unC u),.int .i64 k] h (.tup [.int .i64 (spG b k u.frm:Int),.int .i64 ((spG b k u.frm+cP (inU b k) b.length:Nat):Int)]) h:=by
 have c1:=fun h=>qyH b k h hn
 have hle:=qj9 (inU b k) b.length;have hlen:(owG b k b.length).length=cP (inU b k) b.length:=qtR b k b.length;obtain⟨N,hN⟩: ∃N,N=cP (inU b k) b.length:=⟨_,rfl⟩
 rw[←hN]at hle hlen ⊢;obtain⟨W,hW⟩: ∃W,W=owG b k b.length:=⟨_,rfl⟩
 rw[←hW]at hlen;simp only[←hW]at c1;have zl: ∀g,valL g .len [strs W]= .int .i64 N:=fun _=>by rw[←hlen];rfl
 have zo: ∀g,okL g .len [strs W]=True:=fun _=>eq_true trivial
 unfold qU at c1;refine acO qwS ?_;simp (disch:=omega) only[qvq,qU,unC,go_sem];refine qm (T:=fun i:Nat=>qI 41 [(0,qU b),(2,.int .i64 k),(4,.op h.length 1 0),(8,.int .i64 i)]) (H:=fun _=>h++ [.mem 1 83 (unC u)])
  (inv:=fun i=>i≤b.length∧ ∀j,j<i→qur b k u.frm j=false) (m:=fun i=>b.length-i) 0 ⟨Nat.zero_le _,fun j hj=>absurd hj (Nat.not_lt_zero j)⟩ (Wk.temps ?_) ?_
 ·(simp only[qU,go_sem,qh,qd,qa,qg];try (repeat' first|(with_reducible apply aiA)|(apply qi;omega)|(apply qe;rfl)|exact qj))
 rintro i ⟨i1,i2⟩ K hK;have fin:(i<b.length→qur b k u.frm i=true)→spG b k u.frm=i:=fun hx=>by
  have:=qlw (p:=qur b k u.frm) (n:=b.length) (f:=0) (t:=i) (Nat.zero_le _) i1 (fun j _ hj=>i2 j hj) hx
  unfold spG;exact this
 by_cases hi:i<b.length
 ·have k1:((i:Int)<b.length)=True:=eq_true (by omega);have k2:(0≤(i:Int))=True:=eq_true (by omega);have hb:qur b k u.frm i=(decide ((b.getD i default).unit=k)|| !decide ((b.getD i default).col<u.frm)):=rfl;obtain⟨w,hw⟩: ∃w,w=b.getD i default:=⟨_,rfl⟩
  have ew:=hw.symm;rw[ew]at hb
  by_cases g1:w.unit=k
  ·have q1:(w.unit=k)=True:=eq_true g1;rw[fin (fun _=>by rw[hb,decide_eq_true g1];rfl)];simp (disch:=omega) only[qU,wdC,unC,k1,k2,ew,q1,go_sem]
   repeat' first
    |(refine cA (c1 _) ?_ ?_;exact flk;simp (disch:=omega) only[zl,zo,go_sem])
    |(apply qb;exact rvk;simp only[go_sem];exact qj)
    |with_reducible first|intro _|apply aiA
   all_goals try exact clz
  have q1:(w.unit=k)=False:=eq_false g1
  by_cases g2:w.col<u.frm
  ·have q2:(w.col<u.frm)=True:=eq_true g2;simp (disch:=omega) only[qU,wdC,unC,k1,k2,ew,q1,q2,go_sem];refine hK _ _ (i+1) ⟨hi,fun j hj=> ?_⟩ (by omega) (Wk.temps ?_)
   ·by_cases e:j=i
    ·subst e;rw[hb,decide_eq_false g1,decide_eq_true g2];rfl
    ·exact i2 j (by omega)
   ·(simp only[qU,go_sem,qh,qd,qa,qg];try (repeat' first|(with_reducible apply aiA)|(apply qi;omega)|(apply qe;rfl)|exact qj))
  ·have q2:(w.col<u.frm)=False:=eq_false g2;rw[fin (fun _=>by rw[hb,decide_eq_false g2];simp)];simp (disch:=omega) only[qU,wdC,unC,k1,k2,ew,q1,q2,go_sem]
   repeat' first
    |(refine cA (c1 _) ?_ ?_;exact flk;simp (disch:=omega) only[zl,zo,go_sem])
    |(apply qb;exact rvk;simp only[go_sem];exact qj)
 have k1:((i:Int)<b.length)=False:=eq_false (by omega);rw[fin (fun hx=>absurd hx hi)];simp (disch:=omega) only[qU,k1,go_sem]
 repeat' first
  |(refine cA (c1 _) ?_ ?_;exact flk;simp (disch:=omega) only[zl,zo,go_sem])
  |(apply qb;exact rvk;simp only[go_sem];exact qj)
def pst(s:Str):Nat→List Str×Str
 |0=>([],[])
 |i+1=>if i<s.length∧ch s i≠32 then ((pst s i).1,(pst s i).2++ [ch s i]) else ((pst s i).1++(if (pst s i).2= [] then [] else [(pst s i).2]),[])
theorem qgW(s:Str)(i:Nat):pst s (i+1)=if i<s.length∧ch s i≠32 then ((pst s i).1,(pst s i).2++ [ch s i]) else ((pst s i).1++(if (pst s i).2= [] then [] else [(pst s i).2]),[]):=rfl
theorem qps(cur:Str)(c:UInt8)(r:Str):qdN cur (c::r)=if c=32 then (if cur= [] then [] else [cur])++qdN [] r else qdN (cur++ [c]) r:=rfl
theorem qtY(s:Str): ∀i,i≤s.length→(pst s i).1++qdN (pst s i).2 (s.drop i)=qdN [] s:=by
 intro i
 induction i with
 |zero=>intro _;rfl
 |succ i ih=>
  intro hi;rw[←ih (by omega),List.drop_eq_getElem_cons (by omega:i<s.length)];have ec:s[i]=ch s i:=by unfold ch;rw[gdqA,zA (by omega)];rfl
  rw[ec,qps,qgW]
  by_cases g:ch s i=32
  ·rw[if_neg (fun hc=>hc.2 g),if_pos g,List.append_assoc]
  ·rw[if_pos ⟨by omega,g⟩,if_neg g]
theorem ql7(s:Str):(pst s (s.length+1)).1=qdN [] s:=by
 rw[←qtY s s.length (Nat.le_refl _),List.drop_length,qgW];rw[if_neg (fun hc=>Nat.lt_irrefl _ hc.1)];rfl
theorem qrp(s:Str): ∀i,(pst s i).1.length≤i∧(pst s i).2.length≤i:=by
 intro i
 induction i with
 |zero=>exact⟨Nat.le_refl _,Nat.le_refl _⟩
 |succ i ih=>
  unfold pst;split
  ·exact⟨by simp only;omega,by simp only[List.length_append,List.length_cons,List.length_nil];omega⟩
  ·refine⟨?_,by simp only[List.length_nil];omega⟩;simp only[List.length_append];split
   ·simp only[List.length_nil];omega
   ·simp only[List.length_cons,List.length_nil];omega
theorem qDc(s:Str)(h:List AObj)(hn:s.length≤1000000):ACalls Tryz.prog 104 [.str s] h (strs (qdN [] s)) h:=by
 rw[←ql7];obtain⟨_,_⟩:True∧True:=⟨trivial,trivial⟩
 refine acO qwT ?_;simp (disch:=omega) only[qvr,go_sem];have eM:qS [AV.str []] 0=zH (pst s 0).1:=rfl;rw[eM];refine qm (T:=fun t:Nat×Nat×AObj=>qI 37 [(0,.str s),(3,.osl (h.length+1) t.2.1 1 0 (pst s t.1).1.length),(4,.str (pst s t.1).2),(5,.int .i64 t.1)])
  (H:=fun t=>h++ [.emp 1,.mem t.2.1 9 (zH (pst s t.1).1),t.2.2,.emp 0])
  (inv:=fun t=>t.1≤s.length+1∧qz [t.2.2] 0=true) (m:=fun t=>s.length+1-t.1) (0,1,.emp 0) ⟨Nat.zero_le _,rfl⟩ (Wk.temps ?_) ?_
 ·(simp only[pst,go_sem,qh,qd,qa,qg];try (repeat' first|(with_reducible apply aiA)|(apply qi;omega)|(apply qe;rfl)|exact qj))
 rintro⟨i,v,O⟩ ⟨i1,i2⟩ K hK;simp only at i1 i2 hK;have i2': ∀m,qz (O::m) 0=true:=fun _=>i2
 obtain⟨l1,l2⟩:=qrp s i;have hS:pst s (i+1)=if i<s.length∧ch s i≠32 then ((pst s i).1,(pst s i).2++ [ch s i]) else ((pst s i).1++(if (pst s i).2= [] then [] else [(pst s i).2]),[]):=rfl
 obtain⟨L,hL⟩: ∃L,L=(pst s i).1:=⟨_,rfl⟩
 obtain⟨c,hc⟩: ∃c,c=(pst s i).2:=⟨_,rfl⟩
 rw[←hL,←hc]at hS;rw[←hL]at l1;rw[←hc]at l2;have eL:=hL.symm;have ec:=hc.symm;have eC:=zB L;have eTk:List.take L.length (zH L)=zH L:=List.take_of_length_le (by omega);have k0:(0≤(i:Int))=True:=eq_true (by omega)
 by_cases hi:i≤s.length
 ·have k1:((i:Int)≤s.length)=True:=eq_true (by omega);have k1':((s.length:Int)<i)=False:=eq_false (by omega);have tail: ∀(g: ¬(i<s.length∧ch s i≠32)),True:=fun _=>trivial
  by_cases g1:i<s.length
  ·have k2:((i:Int)<s.length)=True:=eq_true (by omega);have k3:((i:Int)+1≤s.length)=True:=eq_true (by omega);have ech:s[i]?.getD 0=ch s i:=by unfold ch;exact (gdqA).symm
   obtain⟨x,hx⟩: ∃x,x=ch s i:=⟨_,rfl⟩
   have ex:=hx.symm;rw[ex]at hS ech;have etk:(s.drop i).take 1= [x]:=by
    rw[List.drop_eq_getElem_cons g1,List.take_succ_cons,List.take_zero]
    have:s[i]=ch s i:=by unfold ch;rw[gdqA,zA g1];rfl
    rw[this,ex]
   have et1:(((i:Int)+1).toNat-i)=1:=by omega
   by_cases g2:x=32
   ·have k4:((x.toNat:Int)=32)=True:=eq_true (by rw[g2];rfl);rw[if_neg (fun hc=>hc.2 g2)]at hS
    by_cases g3:c= []
    ·have k5:(c= [])=True:=eq_true g3;rw[if_pos g3,List.append_nil]at hS;simp (disch:=omega) only[k0,k1,k2,k3,k4,k5,eL,ec,ech,i2',go_sem];refine hK _ _ (i+1,v,O) ⟨by omega,i2⟩ (by simp only;omega) ?_;simp only[hS];refine Wk.temps ?_
     (simp only[go_sem,qh,qd,qa,qg];try (repeat' first|(with_reducible apply aiA)|(apply qi;omega)|(apply qe;rfl)|exact qj))
    ·have k5:(c= [])=False:=eq_false g3;rw[if_neg g3]at hS;simp (disch:=omega) only[k0,k1,k2,k3,k4,k5,eL,ec,ech,i2',eC,eTk,Nat.mul_one,go_sem]
     repeat' first
      |with_reducible apply aiA
     all_goals try exact clz
     have eA:zH L++ [AV.str c]=zH (L++ [c]):=by simp[zH]
     have eD:(AV.str c::List.drop 1 (qS [AV.str []] 1))= [AV.str c]:=rfl;rw[eA,eD];refine hK _ _ (i+1,v+1,.mem (qq (some O)+1) 9 [.str c]) ⟨by omega,rfl⟩ (by simp only;omega) ?_;simp only[hS,List.length_append,List.length_cons,List.length_nil];refine Wk.temps ?_
     (simp only[go_sem,qh,qd,qa,qg];try (repeat' first|(with_reducible apply aiA)|(apply qi;omega)|(apply qe;rfl)|exact qj))
   ·have k4:((x.toNat:Int)=32)=False:=eq_false (fun e=>g2 (by
     have:x.toNat=32:=by omega
     exact UInt8.toNat_inj.1 this))
    rw[if_pos ⟨g1,g2⟩]at hS;simp (disch:=omega) only[k0,k1,k2,k3,k4,eL,ec,ech,et1,etk,List.length_cons,List.length_nil,i2',go_sem]
    repeat' first
     |with_reducible apply aiA
    all_goals try exact clz
    refine hK _ _ (i+1,v,O) ⟨by omega,i2⟩ (by simp only;omega) ?_;simp only[hS];refine Wk.temps ?_
    (simp only[go_sem,qh,qd,qa,qg];try (repeat' first|(with_reducible apply aiA)|(apply qi;omega)|(apply qe;rfl)|exact qj))
  ·obtain rfl:i=s.length:=by omega
   have k2:((s.length:Int)<s.length)=False:=eq_false (by omega);rw[if_neg (fun hc=>g1 hc.1)]at hS
   by_cases g3:c= []
   ·have k5:(c= [])=True:=eq_true g3;rw[if_pos g3,List.append_nil]at hS;simp (disch:=omega) only[k0,k1,k1',k5,eL,ec,i2',go_sem]
    repeat' first
     |with_reducible first|intro _|apply aiA
    all_goals try exact clz
    refine hK _ _ (s.length+1,v,O) ⟨by omega,i2⟩ (by simp only;omega) ?_;simp only[hS];refine Wk.temps ?_
    (simp only[go_sem,qh,qd,qa,qg];try (repeat' first|(with_reducible apply aiA)|(apply qi;omega)|(apply qe;rfl)|exact qj))
   ·have k5:(c= [])=False:=eq_false g3;rw[if_neg g3]at hS;simp (disch:=omega) only[k0,k1,k1',k5,eL,ec,i2',eC,eTk,Nat.mul_one,go_sem]
    repeat' first
     |with_reducible first|intro _|apply aiA
    all_goals try exact clz
    have eA:zH L++ [AV.str c]=zH (L++ [c]):=by simp[zH]
    have eD:(AV.str c::List.drop 1 (qS [AV.str []] 1))= [AV.str c]:=rfl;rw[eA,eD];refine hK _ _ (s.length+1,v+1,.mem (qq (some O)+1) 9 [.str c]) ⟨by omega,rfl⟩ (by simp only;omega) ?_;simp only[hS,List.length_append,List.length_cons,List.length_nil];refine Wk.temps ?_
    (simp only[go_sem,qh,qd,qa,qg];try (repeat' first|(with_reducible apply aiA)|(apply qi;omega)|(apply qe;rfl)|exact qj))
 ·obtain rfl:i=s.length+1:=by omega
  have k1:(((s.length+1:Nat):Int)≤s.length)=False:=eq_false (by omega);have k1':((s.length:Int)<((s.length+1:Nat):Int))=True:=eq_true (by omega);simp (disch:=omega) only[k1,eL,go_sem]
  repeat' first
   |(apply qb;exact rvk;simp only[go_sem])
  rw[if_pos (by rw[zB];exact Nat.le_refl _)];exact qbj _ (fun _=>rfl) rfl
theorem qCe(lay:List Str)(cls:Str)(h:List AObj)(hl:lay.length≤1000000000)(hs: ∀i,(lay.getD i []).length≤1000000):ACalls Tryz.prog 28 [strs lay,.str cls] h (.tup [.int .i64 (lyR lay cls),.int .i64 (lyE lay)]) h:=by
 have c1:=fun h=>qB8 lay h
 have zl: ∀g,valL g .len [strs lay]= .int .i64 lay.length:=fun _=>rfl
 have zo: ∀g,okL g .len [strs lay]=True:=fun _=>eq_true trivial
 obtain⟨R,hR⟩: ∃R,R=lyR lay cls:=⟨_,rfl⟩
 rw[←hR];unfold lyR at hR
 by_cases g1:lyE lay=0
 case neg=>
  have k1:(lyE lay=0)=False:=eq_false g1;rw[if_neg g1]at hR;rw[hR];refine acO qxQ ?_;simp (disch:=omega) only[qAb,go_sem]
  repeat' first
   |(refine cA (c1 _) ?_ ?_;exact flk;simp (disch:=omega) only[k1,go_sem])
   |(apply qf;exact rvk;simp only[go_sem];exact qj)
 rw[if_pos g1]at hR;rw[g1]at c1 ⊢;refine acO qxQ ?_;simp (disch:=omega) only[qAb,go_sem]
 repeat' first
  |(refine cA (c1 _) ?_ ?_;exact flk;simp (disch:=omega) only[go_sem])
 refine qm (T:=fun i:Nat=>qI 42 [(0,strs lay),(1,.str cls),(7,.int .i64 i)]) (H:=fun _=>h)
  (inv:=fun i=>i≤lay.length∧ ∀j,j<i→qa9 cls (lay.getD j [])=false) (m:=fun i=>lay.length-i) 0 ⟨Nat.zero_le _,fun j hj=>absurd hj (Nat.not_lt_zero j)⟩ (Wk.temps ?_) ?_
 ·(simp only[go_sem,qh,qd,qa,qg];try (repeat' first|(with_reducible apply aiA)|(apply qi;omega)|(apply qe;rfl)|exact qj))
 rintro i ⟨i1,i2⟩ K hK
 by_cases hi:i<lay.length
 ·have k1:((i:Int)<lay.length)=True:=eq_true (by omega);have k0:(0≤(i:Int))=True:=eq_true (by omega);have c2:=fun h=>qDc (lay.getD i []) h (hs i)
  have hin:qa9 cls (lay.getD i [])=decide (cls∈qdN [] (lay.getD i [])):=rfl;have hF:qa9 cls (lay.getD i [])=true→R=(i:Int):=fun hx=>by
   rw[hR];unfold lyN;rw[jv hi i2 hx,if_neg (by omega)]
  have hpl:(qdN [] (lay.getD i [])).length≤1000000001:=by
   rw[←ql7]
   have:=(qrp (lay.getD i []) ((lay.getD i []).length+1)).1
   have:=hs i
   omega
  obtain⟨s,hsx⟩: ∃s,s=lay.getD i []:=⟨_,rfl⟩
  have es:=hsx.symm;rw[es]at hin hF hpl;simp only[es]at c2;obtain⟨P,hP⟩: ∃P,P=qdN [] s:=⟨_,rfl⟩
  rw[←hP]at hin hpl;simp only[←hP]at c2;have zp: ∀g,valL g .len [strs P]= .int .i64 P.length:=fun _=>rfl
  have zq: ∀g,okL g .len [strs P]=True:=fun _=>eq_true trivial
  unfold strs at c2;simp (disch:=omega) only[strs,k0,k1,es,go_sem]
  repeat' first
   |(refine cA (c2 _) ?_ ?_;exact flk;simp (disch:=omega) only[go_sem])
   |with_reducible apply aiA
  all_goals try exact clz
  refine qm (T:=fun k:Nat=>qI 42 [(0,strs lay),(1,.str cls),(7,.int .i64 i),(8,strs P),(9,.int .i64 k)]) (H:=fun _=>h)
   (inv:=fun k=>k≤P.length∧ ∀j,j<k→P.getD j []≠cls) (m:=fun k=>P.length-k) 0 ⟨Nat.zero_le _,fun j hj=>absurd hj (Nat.not_lt_zero j)⟩ (Wk.temps ?_) ?_
  ·(simp only[strs,go_sem,qh,qd,qa,qg];try (repeat' first|(with_reducible apply aiA)|(apply qi;omega)|(apply qe;rfl)|exact qj))
  rintro k ⟨m1,m2⟩ K2 hK2
  by_cases hk:k<P.length
  ·have t1:((k:Int)<P.length)=True:=eq_true (by omega);have t0:(0≤(k:Int))=True:=eq_true (by omega);have hmem:P.getD k []∈P:=by rw[gdqA,zA hk];exact List.getElem_mem hk
   obtain⟨y,hy⟩: ∃y,y=P.getD k []:=⟨_,rfl⟩
   have ey:=hy.symm;rw[ey]at hmem
   by_cases g2:y=cls
   ·have q1:(y=cls)=True:=eq_true g2;rw[hF (by rw[hin,←g2];exact decide_eq_true hmem)];simp (disch:=omega) only[strs,t0,t1,ey,q1,go_sem]
    repeat' first
     |(apply qf;exact rvk;simp only[go_sem];exact qj)
     |with_reducible apply aiA
    all_goals try exact clz
   ·have q1:(y=cls)=False:=eq_false g2;simp (disch:=omega) only[strs,t0,t1,ey,q1,go_sem]
    repeat' first
     |with_reducible apply aiA
    all_goals try exact clz
    refine hK2 _ _ (k+1) ⟨hk,fun j hj=> ?_⟩ (by omega) (Wk.temps ?_)
    ·by_cases e:j=k
     ·subst e;rw[ey];exact g2
     ·exact m2 j (by omega)
    ·(simp only[strs,go_sem,qh,qd,qa,qg];try (repeat' first|(with_reducible apply aiA)|(apply qi;omega)|(apply qe;rfl)|exact qj))
  have t1:((k:Int)<P.length)=False:=eq_false (by omega);simp (disch:=omega) only[strs,t1,go_sem];refine hK _ _ (i+1) ⟨hi,fun j hj=> ?_⟩ (by omega) (Wk.temps ?_)
  ·by_cases e:j=i
   ·subst e;rw[es,hin];refine decide_eq_false fun hm=> ?_
    obtain⟨q,hq,e⟩:=List.getElem_of_mem hm
    have:=m2 q (by omega)
    rw[gdqA,zA hq]at this;exact this e
   ·exact i2 j (by omega)
  ·(simp only[strs,go_sem,qh,qd,qa,qg];try (repeat' first|(with_reducible apply aiA)|(apply qi;omega)|(apply qe;rfl)|exact qj))
 have k1:((i:Int)<lay.length)=False:=eq_false (by omega);have hV:R=(lay.length:Int)-1:=by
  rw[hR];unfold lyN;rw[if_pos];rcases zd (fun i=>qa9 cls (lay.getD i [])) lay.length with⟨q,h1,h2,_,_⟩|⟨_,h2⟩
  ·have h2:qa9 cls (lay.getD q [])=true:=h2;rw[i2 q (by omega)]at h2;cases h2
  ·rw[h2];decide
 rw[hV];simp (disch:=omega) only[strs,k1,go_sem]
 repeat' first
  |(apply qf;exact rvk;simp only[go_sem];exact qj)
end RC
end
section
open Go Go.Proofs AF
def qoS:List Nat:= []
def qr8:C:=
 ((C.ops [MC 4 (.bool false)]).seq (((C.ops [MV 6 0,O1 7 .len 6,MV 8 1,O1 9 .len 8,BI 10 .neq 7 9]).seq (C.cond (.t 10) ((C.ops [MC 4 (.bool false)]).seq C.ret) C.skip)).seq
 (((C.ops [MC 5 (i6 0)]).seq (C.block 0 (((C.ops [MV 11 5,MV 12 0,O1 13 .len 12,BI 14 .lss 11 13]).seq (C.cond (.t 14) C.skip (C.exit 0))).seq ((C.block 1 ((C.ops [MV 17 0,MV 18
 5,O2 19 (.idxA 1) 17 18,LD 20 19,MV 21 1,MV 22 5,O2 23 (.idxA 1) 21 22,LD 24 23,BI 25 .neq 20 24]).seq (C.cond (.t 25) ((C.ops [MC 4 (.bool false)]).seq C.ret) C.skip))).seq
 (C.ops [MV 15 5,BC 16 .add 15 (i6 1),MV 5 16]))).loop)).seq ((C.ops [MC 4 (.bool true)]).seq
 C.ret))))
theorem qqX:qG Tryz.prog 235 26 0 [RV.tmp 4] qr8:=fi Tryz.f235 [] qoS []
end
section
open Go Go.Proofs AF HY LN
namespace RC
def bC(p:Nat→Bool)(n:Nat):List AV:=(List.range n).map fun k=> .bool (p k)
theorem qaN(p:Nat→Bool)(n:Nat):(bC p n).length=n:=by simp[bC]
theorem qgp{p:Nat→Bool}{n k:Nat}(hk:k<n):(bC p n)[k]? =some (.bool (p k)):=by
 unfold bC;rw[List.getElem?_map,List.getElem?_range hk];rfl
theorem qaA{p q:Nat→Bool}{n:Nat}(h: ∀k,k<n→p k=q k):bC p n=bC q n:=by
 unfold bC;exact List.map_congr_left fun k hk=>by rw[h k (List.mem_range.1 hk)]
theorem qqv{p:Nat→Bool}{n u:Nat}(hu:u<n):List.take u (bC p n)++ [AV.bool true]++List.drop (u+1) (bC p n)=bC (fun k=>p k||decide (k=u)) n:=by
 refine List.ext_getElem? fun k=> ?_
 by_cases hk:k<n
 ·rw[qgp hk]
  by_cases h1:k<u
  ·rw[List.append_assoc,List.getElem?_append_left (by rw[List.length_take,qaN];omega),List.getElem?_take_of_lt h1,qgp hk,decide_eq_false (by omega),Bool.or_false]
  ·by_cases h2:k=u
   ·subst h2;rw[List.append_assoc,List.getElem?_append_right (by rw[List.length_take,qaN];omega),List.length_take,qaN,show k-min k n=0 by omega,decide_eq_true rfl,Bool.or_true];rfl
   ·rw[List.getElem?_append_right (by rw[List.length_append,List.length_take,qaN];simp only[List.length_cons,List.length_nil];omega),List.length_append,List.length_take,qaN,List.getElem?_drop];simp only[List.length_cons,List.length_nil];rw[show u+1+(k-(min u n+(0+1)))=k by omega,qgp hk,decide_eq_false h2,Bool.or_false]
 ·rw[List.getElem?_eq_none (by simp only[List.length_append,List.length_take,List.length_drop,qaN,List.length_cons,List.length_nil];omega),List.getElem?_eq_none (by rw[qaN];omega)]
theorem qrK(n:Nat):qS [AV.bool false] n=bC (fun _=>false) n:=by
 induction n with
 |zero=>rfl
 |succ n ih=>
  have e:bC (fun _=>false) (n+1)=AV.bool false::bC (fun _=>false) n:=by
   unfold bC;rw[List.range_succ_eq_map,List.map_cons,List.map_map];rfl
  rw[e,←ih];rfl
theorem qDo(a b:List Int)(h:List AObj)(h1:a.length≤1000000000)(h2:b.length≤1000000000):ACalls Tryz.prog 235 [ql a,ql b] h (.bool (decide (a=b))) h:=by
 obtain⟨R,hR⟩: ∃R,R=decide (a=b):=⟨_,rfl⟩
 have he:R=decide (a.length=b.length∧ ∀i,i<a.length→a.getD i 0=b.getD i 0):=by rw[hR];exact decide_eq_decide.2 (je (0:Int))
 rw[←hR]
 by_cases g:a.length=b.length
 case neg=>
  have k1:((a.length:Int)=b.length)=False:=eq_false (by omega);rw[decide_eq_false (fun hc=>g hc.1)]at he;rw[he];refine acO qqX ?_;simp (disch:=omega) only[qr8,ql,k1,go_sem]
  repeat' first
   |(apply qf;exact rvk;simp only[go_sem];exact qj)
 have k1:((a.length:Int)=b.length)=True:=eq_true (by omega);refine acO qqX ?_;simp (disch:=omega) only[qr8,ql,k1,go_sem];refine qm (T:=fun i:Nat=>qI 26 [(0,ql a),(1,ql b),(5,.int .i64 i)]) (H:=fun _=>h) (inv:=fun i=>i≤a.length∧ ∀j,j<i→a.getD j 0=b.getD j 0) (m:=fun i=>a.length-i) 0 ⟨Nat.zero_le _,fun j hj=>absurd hj (Nat.not_lt_zero j)⟩ (Wk.temps ?_) ?_
 ·(simp only[ql,go_sem,qh,qd,qa,qg];try (repeat' first|(with_reducible apply aiA)|(apply qi;omega)|(apply qe;rfl)|exact qj))
 rintro i ⟨i1,i2⟩ K hK
 by_cases hi:i<a.length
 ·have k2:((i:Int)<a.length)=True:=eq_true (by omega);have k3:((i:Int)<b.length)=True:=eq_true (by omega);have k0:(0≤(i:Int))=True:=eq_true (by omega);have hno: ¬a.getD i 0=b.getD i 0→R=false:=fun hx=>by rw[he];exact decide_eq_false fun hc=>hx (hc.2 i hi)
  obtain⟨x,hx⟩: ∃x,x=a.getD i 0:=⟨_,rfl⟩
  obtain⟨y,hy⟩: ∃y,y=b.getD i 0:=⟨_,rfl⟩
  have ex:=hx.symm;have ey:=hy.symm;rw[ex,ey]at hno
  by_cases g2:x=y
  ·have q:(x=y)=True:=eq_true g2;simp (disch:=omega) only[ql,k0,k2,k3,ex,ey,q,go_sem]
   repeat' first
    |with_reducible apply aiA
   all_goals try exact clz
   refine hK _ _ (i+1) ⟨hi,fun j hj=> ?_⟩ (by omega) (Wk.temps ?_)
   ·by_cases e:j=i
    ·subst e;rw[ex,ey];exact g2
    ·exact i2 j (by omega)
   ·(simp only[ql,go_sem,qh,qd,qa,qg];try (repeat' first|(with_reducible apply aiA)|(apply qi;omega)|(apply qe;rfl)|exact qj))
  ·have q:(x=y)=False:=eq_false g2;rw[hno g2];simp (disch:=omega) only[ql,k0,k2,k3,ex,ey,q,go_sem]
   repeat' first
    |(apply qf;exact rvk;simp only[go_sem];exact qj)
    |with_reducible apply aiA
   all_goals try exact clz
 ·have k2:((i:Int)<a.length)=False:=eq_false (by omega);rw[he,decide_eq_true ⟨g,fun j hj=>i2 j (by omega)⟩];simp (disch:=omega) only[ql,k2,go_sem]
  repeat' first
   |(apply qf;exact rvk;simp only[go_sem];exact qj)
theorem qDp(a b:List Rd)(h:List AObj)(za:qi1 a)(zb:qi1 b):ACalls Tryz.prog 179 [zx a,zx b] h (.bool (decide (a=b))) h:=by
 have ha:=za.n;have hb:=zb.n;obtain⟨R,hR⟩: ∃R,R=decide (a=b):=⟨_,rfl⟩
 have he:R=decide (a.length=b.length∧ ∀i,i<a.length→a.getD i default=b.getD i default):=by rw[hR];exact decide_eq_decide.2 (je (default:Rd))
 rw[←hR]
 by_cases g:a.length=b.length
 case neg=>
  have k1:((a.length:Int)=b.length)=False:=eq_false (by omega);rw[decide_eq_false (fun hc=>g hc.1)]at he;rw[he];refine acO qqT ?_;simp (disch:=omega) only[qr4,zx,k1,go_sem]
  repeat' first
   |(apply qf;exact rvk;simp only[go_sem];exact qj)
 have k1:((a.length:Int)=b.length)=True:=eq_true (by omega);refine acO qqT ?_;simp (disch:=omega) only[qr4,zx,k1,go_sem];refine qm (T:=fun i:Nat=>qI 43 [(0,zx a),(1,zx b),(5,.int .i64 i)]) (H:=fun _=>h) (inv:=fun i=>i≤a.length∧ ∀j,j<i→a.getD j default=b.getD j default) (m:=fun i=>a.length-i) 0 ⟨Nat.zero_le _,fun j hj=>absurd hj (Nat.not_lt_zero j)⟩ (Wk.temps ?_) ?_
 ·(simp only[zx,go_sem,qh,qd,qa,qg];try (repeat' first|(with_reducible apply aiA)|(apply qi;omega)|(apply qe;rfl)|exact qj))
 rintro i ⟨i1,i2⟩ K hK
 by_cases hi:i<a.length
 ·have k2:((i:Int)<a.length)=True:=eq_true (by omega);have k3:((i:Int)<b.length)=True:=eq_true (by omega);have k0:(0≤(i:Int))=True:=eq_true (by omega);have c1:=fun h=>qvd (a.getD i default).words (b.getD i default).words h (za.wd i) (zb.wd i)
  have c2:=fun h=>qDo (a.getD i default).src (b.getD i default).src h (za.sr i) (zb.sr i)
  have hno: ¬a.getD i default=b.getD i default→R=false:=fun hx=>by rw[he];exact decide_eq_false fun hc=>hx (hc.2 i hi)
  obtain⟨x,hx⟩: ∃x,x=a.getD i default:=⟨_,rfl⟩
  obtain⟨y,hy⟩: ∃y,y=b.getD i default:=⟨_,rfl⟩
  have ex:=hx.symm;have ey:=hy.symm;rw[ex,ey]at hno;simp only[ex,ey]at c1 c2
  by_cases g2:x.words=y.words
  case neg=>
   rw[decide_eq_false g2]at c1;rw[hno (fun e=>g2 (qpw.1 e).1)];simp (disch:=omega) only[zx,rdC,k0,k2,k3,ex,ey,go_sem]
   repeat' first
    |(refine qk ( .bool false) ?_;simp (disch:=omega) only[go_sem])
    |(refine cA (c1 _) ?_ ?_;exact flk;simp (disch:=omega) only[k0,k2,k3,ex,ey,go_sem])
    |(apply qf;exact rvk;simp only[go_sem];exact qj)
  rw[decide_eq_true g2]at c1
  by_cases g3:x.src=y.src
  ·rw[decide_eq_true g3]at c2;simp (disch:=omega) only[zx,rdC,k0,k2,k3,ex,ey,go_sem]
   repeat' first
    |((first|refine cA (c1 _) ?_ ?_|refine cG (fun e=>c2 _) ?_ ?_);exact flk;simp (disch:=omega) only[k0,k2,k3,ex,ey,go_sem])
    |with_reducible apply aiA
   all_goals try exact clz
   refine hK _ _ (i+1) ⟨hi,fun j hj=> ?_⟩ (by omega) (Wk.temps ?_)
   ·by_cases e:j=i
    ·subst e;rw[ex,ey];exact qpw.2 ⟨g2,g3⟩
    ·exact i2 j (by omega)
   ·(simp only[zx,go_sem,qh,qd,qa,qg];try (repeat' first|(with_reducible apply aiA)|(apply qi;omega)|(apply qe;rfl)|exact qj))
  ·rw[decide_eq_false g3]at c2;rw[hno (fun e=>g3 (qpw.1 e).2)];simp (disch:=omega) only[zx,rdC,k0,k2,k3,ex,ey,go_sem]
   repeat' first
    |((first|refine cA (c1 _) ?_ ?_|refine cG (fun e=>c2 _) ?_ ?_);exact flk;simp (disch:=omega) only[k0,k2,k3,ex,ey,go_sem])
    |(apply qf;exact rvk;simp only[go_sem];exact qj)
    |with_reducible apply aiA
   all_goals try exact clz
 ·have k2:((i:Int)<a.length)=False:=eq_false (by omega);rw[he,decide_eq_true ⟨g,fun j hj=>i2 j (by omega)⟩];simp (disch:=omega) only[zx,k2,go_sem]
  repeat' first
   |(apply qf;exact rvk;simp only[go_sem];exact qj)
theorem qCM(x:Co)(k:Nat)(h:List AObj)(ho:CoOk x)(hk:k<x.col.length):ACalls Tryz.prog 181 [.agg (coC x),ql (x.col.getD k [])] h (.bool (cmB x k)) h:=by
 have hsg:=ho.sg;have hcl:=ho.cl k hk;have htn:=ho.tn;obtain⟨R,hR⟩: ∃R,R=cmB x k:=⟨_,rfl⟩
 rw[←hR];unfold cmB at hR;have hce:=ho.ce k hk;have hct: ∀s,clT x k s=if (x.col.getD k []).getD s 0<0 then none else some ((x.tok.getD s []).getD ((x.col.getD k []).getD s 0).toNat default).text:=fun _=>rfl
 obtain⟨c,hc⟩: ∃c,c=x.col.getD k []:=⟨_,rfl⟩
 rw[←hc]at hcl hce ⊢;simp only[←hc]at hct;refine acO qxe ?_;simp (disch:=omega) only[qvJ,coC,ql,go_sem];refine qm (T:=fun i:Nat=>qI 42 [(1,ql c),(2,.op h.length 1 0),(5,.int .i64 i)]) (H:=fun _=>h++ [.mem 1 26 (coC x)])
  (inv:=fun i=>i≤c.length∧ ∀j,j<i→(decide (clT x k j=none)|| !decide (clT x k j=clT x k 0))=false) (m:=fun i=>c.length-i) 0 ⟨Nat.zero_le _,fun j hj=>absurd hj (Nat.not_lt_zero j)⟩ (Wk.temps ?_) ?_
 ·(simp only[ql,go_sem,qh,qd,qa,qg];try (repeat' first|(with_reducible apply aiA)|(apply qi;omega)|(apply qe;rfl)|exact qj))
 rintro i ⟨i1,i2⟩ K hK
 by_cases hi:i<c.length
 ·have k1:((i:Int)<c.length)=True:=eq_true (by omega);have k0:(0≤(i:Int))=True:=eq_true (by omega);have k2:((0:Int)<c.length)=True:=eq_true (by omega);have k3:((i:Int)<x.tok.length)=True:=eq_true (by omega);have k4:((0:Int)<x.tok.length)=True:=eq_true (by omega);have hno:(decide (clT x k i=none)|| !decide (clT x k i=clT x k 0))=true→R=false:=fun hx=>by rw[hR,qv.2 ⟨i,by omega,hx⟩];rfl
  have hS:(decide (clT x k i=none)|| !decide (clT x k i=clT x k 0))=false→ ∀j,j<i+1→(decide (clT x k j=none)|| !decide (clT x k j=clT x k 0))=false:=fun hx j hj=>by
   by_cases e:j=i
   ·subst e;exact hx
   ·exact i2 j (by omega)
  have h0:c.getD i 0<0∨(0≤c.getD 0 0):=by
   by_cases e:i=0
   ·subst e;omega
   ·have:=i2 0 (by omega)
    have h1:=hct 0
    by_cases g:c.getD 0 0<0
    ·rw[if_pos g]at h1;rw[h1]at this;simp at this
    ·exact .inr (by omega)
  have e1:=hce i (by omega);have e2:=hce 0 (by omega);have t1:=hct i;have t2:=hct 0;obtain⟨t,ht⟩: ∃t,t=c.getD i 0:=⟨_,rfl⟩
  obtain⟨t0,ht0⟩: ∃t0,t0=c.getD 0 0:=⟨_,rfl⟩
  have et:=ht.symm;have et0:=ht0.symm;rw[et]at h0 e1 t1;rw[et0]at h0 e2 t2;obtain⟨l,hl⟩: ∃l,l=x.tok.getD i []:=⟨_,rfl⟩
  obtain⟨l0,hl0⟩: ∃l0,l0=x.tok.getD 0 []:=⟨_,rfl⟩
  have el:=hl.symm;have el0:=hl0.symm;rw[el]at e1 t1;rw[el0]at e2 t2
  by_cases g:t<0
  ·have q1:(t<0)=True:=eq_true g;rw[if_pos g]at t1;rw[hno (by rw[t1];rfl)];simp (disch:=omega) only[coC,ql,k0,k1,et,q1,go_sem]
   repeat' first
    |(apply qb;exact rvk;simp only[go_sem];exact qj)
    |with_reducible apply aiA
   all_goals try exact clz
  have q1:(t<0)=False:=eq_false g;rw[if_neg g]at t1;have g0: ¬t0<0:=by omega
  rw[if_neg g0]at t2;have q2:(0≤t)=True:=eq_true (by omega);have q3:(0≤t0)=True:=eq_true (by omega);have q4:(t<l.length)=True:=eq_true (by rcases e1 with e|e;omega;omega);have q5:(t0<l0.length)=True:=eq_true (by rcases e2 with e|e;omega;omega);obtain⟨a,ha⟩: ∃a,a=l.getD t.toNat default:=⟨_,rfl⟩
  obtain⟨a0,ha0⟩: ∃a0,a0=l0.getD t0.toNat default:=⟨_,rfl⟩
  have ea:=ha.symm;have ea0:=ha0.symm;rw[ea]at t1;rw[ea0]at t2;rw[t1,t2]at hno;have z0:Int.toNat 0=0:=rfl
  by_cases g2:a.text=a0.text
  ·have q6:(a.text=a0.text)=True:=eq_true g2;simp (disch:=omega) only[coC,ql,qo,jc,tkC,k0,k1,k2,k3,k4,et,et0,el,el0,ea,ea0,q1,q2,q3,q4,q5,q6,z0,go_sem]
   repeat' first
    |with_reducible apply aiA
   all_goals try exact clz
   refine hK _ _ (i+1) ⟨hi,hS (by rw[t1,t2,g2];simp)⟩ (by omega) (Wk.temps ?_)
   (simp only[ql,go_sem,qh,qd,qa,qg];try (repeat' first|(with_reducible apply aiA)|(apply qi;omega)|(apply qe;rfl)|exact qj))
  ·have q6:(a.text=a0.text)=False:=eq_false g2;rw[hno (by simp[g2])];simp (disch:=omega) only[coC,ql,qo,jc,tkC,k0,k1,k2,k3,k4,et,et0,el,el0,ea,ea0,q1,q2,q3,q4,q5,q6,z0,go_sem]
   repeat' first
    |(apply qb;exact rvk;simp only[go_sem];exact qj)
    |with_reducible apply aiA
   all_goals try exact clz
 ·have k1:((i:Int)<c.length)=False:=eq_false (by omega);have hV:R=true:=by rw[hR,qn.2 fun j hj=>i2 j (by omega)];rfl
  rw[hV];simp (disch:=omega) only[coC,ql,k1,go_sem]
  repeat' first
   |(apply qb;exact rvk;simp only[go_sem];exact qj)
theorem qDd(x:Co)(f t s:Nat)(h:List AObj)(ho:CoOk x)(ht:t≤x.col.length)(hs:s<x.sig.length)(hn:x.col.length≤1000000000):ACalls Tryz.prog 236 [.agg (coC x),.int .i64 (f:Int),.int .i64 (t:Int),.int .i64 (s:Int)] h (strs (rdG x s f (t-f))) h:=by
 have htn:=ho.tn;refine acO qxx ?_;simp (disch:=omega) only[qv0,coC,go_sem];have eM:qS [AV.str []] 0=zH (rdG x s f 0):=rfl;rw[eM];refine qm (T:=fun i:Nat×Nat×AObj=>qI 42 [(2,.int .i64 (t:Int)),(3,.int .i64 (s:Int)),(4,.op h.length 1 0),(9,.osl (h.length+2) i.2.1 1 0 (rdG x s f i.1).length),(10,.int .i64 ((f+i.1:Nat):Int))])
  (H:=fun i=>h++ [.mem 1 26 (coC x),.emp 1,.mem i.2.1 9 (zH (rdG x s f i.1)),i.2.2,.emp 0])
  (inv:=fun i=>i.1≤t-f∧qz [i.2.2] 0=true) (m:=fun i=>t-f-i.1) (0,1,.emp 0) ⟨Nat.zero_le _,rfl⟩ (Wk.temps ?_) ?_
 ·(simp only[rdG,List.length_nil,Nat.add_zero,go_sem,qh,qd,qa,qg];try (repeat' first|(with_reducible apply aiA)|(apply qi;omega)|(apply qe;rfl)|exact qj))
 rintro⟨d,v,O⟩ ⟨i1,i2⟩ K hK;simp only at i1 i2 hK;have i2': ∀m,qz (O::m) 0=true:=fun _=>i2
 have hln:=qaV x s f d;have hst:rdG x s f (d+1)=rdG x s f d++(clT x (f+d) s).toList:=rfl;obtain⟨L,hL⟩: ∃L,L=rdG x s f d:=⟨_,rfl⟩
 rw[←hL]at hln hst;have eL:=hL.symm;have eC:=zB L
 by_cases hi:f+d<t
 ·have k1:(((f+d:Nat):Int)<t)=True:=eq_true (by omega);have k2:(((f+d:Nat):Int)<x.col.length)=True:=eq_true (by omega);have k0:(0≤((f+d:Nat):Int))=True:=eq_true (by omega);have k3:((s:Int)<x.tok.length)=True:=eq_true (by omega);have k4:(0≤(s:Int))=True:=eq_true (by omega);have hct:clT x (f+d) s=if (x.col.getD (f+d) []).getD s 0<0 then none else some ((x.tok.getD s []).getD ((x.col.getD (f+d) []).getD s 0).toNat default).text:=rfl
  have hce:=ho.ce (f+d) (by omega) s hs;have hcl:=ho.cl (f+d) (by omega);obtain⟨c,hc⟩: ∃c,c=x.col.getD (f+d) []:=⟨_,rfl⟩
  have ec:=hc.symm;rw[ec]at hct hce hcl;have k5:((s:Int)<c.length)=True:=eq_true (by omega);obtain⟨q,hq⟩: ∃q,q=c.getD s 0:=⟨_,rfl⟩
  have eq:=hq.symm;rw[eq]at hct hce;obtain⟨l,hl⟩: ∃l,l=x.tok.getD s []:=⟨_,rfl⟩
  have el:=hl.symm;rw[el]at hct hce;have eTk:List.take L.length (zH L)=zH L:=List.take_of_length_le (by omega)
  by_cases g:q<0
  ·have q1:(q<0)=True:=eq_true g;have q1':(0≤q)=False:=eq_false (by omega);rw[if_pos g]at hct;have hst:rdG x s f (d+1)=L:=by rw[hst,hct];simp
   simp (disch:=omega) only[coC,qr,ql,k0,k1,k2,k4,k5,i2',eL,ec,eq,q1',go_sem]
   repeat' first
    |with_reducible apply aiA
   all_goals try exact clz
   refine hK _ _ (d+1,v,O) ⟨by omega,i2⟩ (by simp only;omega) ?_;simp only[hst];refine Wk.temps ?_
   (simp only[go_sem,qh,qd,qa,qg];try (repeat' first|(with_reducible apply aiA)|(apply qi;omega)|(apply qe;rfl)|exact qj))
  ·have q1:(q<0)=False:=eq_false g;have q1':(0≤q)=True:=eq_true (by omega);have q2:(q<l.length)=True:=eq_true (by rcases hce with e|e;omega;omega);rw[if_neg g]at hct;obtain⟨w,hw⟩: ∃w,w=l.getD q.toNat default:=⟨_,rfl⟩
   have ew:=hw.symm;rw[ew]at hct;have hst:rdG x s f (d+1)=L++ [w.text]:=by rw[hst,hct];rfl
   simp (disch:=omega) only[coC,qr,ql,qo,jc,tkC,k0,k1,k2,k3,k4,k5,i2',eL,ec,eq,el,ew,q1',q2,Nat.mul_one,eC,eTk,go_sem]
   repeat' first
    |with_reducible apply aiA
   all_goals try exact clz
   have eA:zH L++ [AV.str w.text]=zH (rdG x s f (d+1)):=by rw[hst,qad];rfl
   have eD:(AV.str w.text::List.drop 1 (qS [AV.str []] 1))= [AV.str w.text]:=rfl
   try rw[eA]
   try rw[eD]
   refine hK _ _ (d+1,v+1,.mem (qq (some O)+1) 9 [.str w.text]) ⟨by omega,rfl⟩ (by simp only;omega) ?_;simp only[hst,List.length_append,List.length_cons,List.length_nil];refine Wk.temps ?_
   (simp only[go_sem,qh,qd,qa,qg];try (repeat' first|(with_reducible apply aiA)|(apply qi;omega)|(apply qe;rfl)|exact qj))
 ·have k1:(((f+d:Nat):Int)<t)=False:=eq_false (by omega);obtain rfl:d=t-f:=by omega
  rw[eL];simp (disch:=omega) only[k1,go_sem]
  repeat' first
   |(apply qb;exact rvk;simp only[go_sem])
  rw[if_pos (by rw[zB];exact Nat.le_refl _)];exact qbj _ (fun _=>rfl) rfl
theorem qA1{h M:List AObj}{a0 a1 a2 a3 a4 a5 a6 a7:AObj}:(h++a0::a1::a2::a3::a4::a5::a6::a7::M).length=h.length+8+M.length:=by
 simp only[List.length_append,List.length_cons];omega
theorem qgL{h M:List AObj}{a0 a1 a2 a3 a4 a5 a6 a7:AObj}{j:Nat}:qH (h.length+8+j) (h++a0::a1::a2::a3::a4::a5::a6::a7::M)=M[j]? :=by
 unfold qH;rw[List.getElem?_append_right (by omega),show h.length+8+j-h.length=j+8 by omega];rfl
theorem qy0{h M:List AObj}{a0 a1 a2 a3 a4 a5 a6 a7 o:AObj}{j:Nat}:zg (h.length+8+j) (h++a0::a1::a2::a3::a4::a5::a6::a7::M) o=h++a0::a1::a2::a3::a4::a5::a6::a7::M.set j o:=by
 unfold zg;rw[List.set_append_right _ _ (by omega),show h.length+8+j-h.length=j+8 by omega];rfl
theorem qpx{base:Nat}{L:List Rd}{fz:Nat→Bool}{H:List AObj}{d:Nat}(hf: ∀j,j<L.length→fz (base+j)=true)(hj: ∀j,j<L.length→qH (base+j) H=some (.mem (L.getD j default).src.length 3 (qx (L.getD j default).src))):
  VLe (.sl L.length fun i=>List.map (rei fz H (d+2)) (List.take 2 (List.drop (i*2) (jy base L)))) (zx L):=by
 refine VLe.sl (fun i hi=> ?_);rw[qgZ hi];refine⟨ILe.refl _,?_,trivial⟩;show ILe (rei fz H (d+1+1) (.osl (base+i) _ 1 0 _)) _;rw[rei_osl,if_pos (hf i hi),hj i hi];exact qgO (fun _=>rfl) rfl
theorem qDg(x:Co)(f t:Nat)(h:List AObj)(ho:CoOk x)(ht:t≤x.col.length)(hn:x.col.length≤1000000000):ACalls Tryz.prog 180 [.agg (coC x),.int .i64 (f:Int),.int .i64 (t:Int)] h (zx (qdj x f t)) h:=by
 have zl: ∀g,valL g .len [strs x.sig]= .int .i64 x.sig.length:=fun _=>rfl
 have zo: ∀g,okL g .len [strs x.sig]=True:=fun _=>eq_true trivial
 refine acO qxd ?_;simp (disch:=omega) only[qvI,coC,go_sem];have eM:qS [AV.nl,AV.nl] 0=jy (h.length+8) (jX x f (t-f) 0):=rfl
 try rw[eM]
 have eO: ∀l:List AObj,l=l++qdi (jX x f (t-f) 0):=fun l=>by simp[jX,qdi]
 refine qm (T:=fun i:Nat×Nat×AObj×AObj×AObj=>qI 64 [(1,.int .i64 (f:Int)),(2,.int .i64 (t:Int)),(3,.op h.length 1 0),(7,.osl (h.length+2) i.2.1 2 0 (jX x f (t-f) i.1).length),(8,.int .i64 i.1)])
  (H:=fun i=>h++ .mem 1 26 (coC x):: .emp 1:: .mem i.2.1 89 (jy (h.length+8) (jX x f (t-f) i.1))::i.2.2.1:: .emp 0::i.2.2.2.1::i.2.2.2.2:: .emp 0::qdi (jX x f (t-f) i.1))
  (inv:=fun i=>i.1≤x.sig.length∧qz [i.2.2.1] 0=true∧qz [i.2.2.2.1] 0=true∧qz [i.2.2.2.2] 0=true) (m:=fun i=>x.sig.length-i.1) (0,1,.emp 0,.emp 0,.emp 0) ⟨Nat.zero_le _,rfl,rfl,rfl⟩ (Wk.temps ?_) ?_
 ·(simp only[jX,List.length_nil,go_sem,qh,qd,qa,qg];try (repeat' first|(with_reducible apply aiA)|(apply qi;omega)|(apply qe;rfl)|exact qj))
 rintro⟨s,v,O3,O5,O6⟩ ⟨i1,j3,j5,j6⟩ K hK;simp only at i1 j3 j5 j6 hK;have j5': ∀m,qz (O5::m) 0=true:=fun _=>j5
 have j6': ∀m,qz (O6::m) 0=true:=fun _=>j6
 have hst:jX x f (t-f) (s+1)=qds (jX x f (t-f) s) (rdG x s f (t-f)) s:=rfl;have hln:=qdS x f (t-f) s;have hsg:=ho.sg;obtain⟨L,hL⟩: ∃L,L=jX x f (t-f) s:=⟨_,rfl⟩
 rw[←hL]at hst hln;have eL:=hL.symm
 by_cases hs:s<x.sig.length
 case neg=>
  have k1:((s:Int)<x.sig.length)=False:=eq_false (by omega);obtain rfl:s=x.sig.length:=by omega
  have hF:qdj x f t=L:=by rw[hL];rfl
  rw[hF];simp (disch:=omega) only[k1,eL,coC,zl,zo,go_sem]
  repeat' first
   |(apply qb;exact rvk;simp only[go_sem])
  rw[if_pos (by rw[qaG];omega)];exact qpx (d:=5) (fun j _=>decide_eq_true (by omega)) (fun j hj=>by rw[qgL];exact qdQ hj)
 have k1:((s:Int)<x.sig.length)=True:=eq_true (by omega);have c21:=fun h=>qDd x f t s h ho ht hs hn
 have hRd:=qdR x f (t-f) s;obtain⟨w,hw⟩: ∃w,w=rdG x s f (t-f):=⟨_,rfl⟩
 have hwl:w.length≤1000000000:=by have:=qaV x s f (t-f);rw[←hw]at this;omega
 rw[←hw]at hst;simp only[←hw]at c21;unfold coC at c21;rw[eL]at hRd;have hwL: ∀j,(L.getD j default).words.length≤1000000000:=qZ L (fun r=>r.words.length≤1000000000) (by decide) fun j hj=>by
  have h1:=hRd.nn j hj;obtain⟨y,ys,e⟩:=List.exists_cons_of_ne_nil h1;have h2:=hRd.wd j hj y (by rw[e];exact List.mem_cons_self);rw[h2]
  have:=qaV x y.toNat f (t-f)
  omega
 have hob:= @qdQ L;have eKl:=qaG (h.length+8) L;simp (disch:=omega) only[coC,k1,eL,zl,zo,go_sem]
 repeat' first
  |(refine cA (c21 _) ?_ ?_;exact flk;simp (disch:=omega) only[go_sem])
 --the search
 refine qm (T:=fun i:Nat×Bool×AObj=>qI 64 [(1,.int .i64 (f:Int)),(2,.int .i64 (t:Int)),(3,.op h.length 1 0),(7,.osl (h.length+2) v 2 0 L.length),(8,.int .i64 s),(9,strs w),(10,.bool i.2.1),(11,.int .i64 i.1)])
  (H:=fun i=>h++ .mem 1 26 (coC x):: .emp 1:: .mem v 89 (jy (h.length+8) (if i.2.1=true then jX x f (t-f) (s+1) else L))::i.2.2:: .emp 0::O5::O6:: .emp 0::qdi (if i.2.1=true then jX x f (t-f) (s+1) else L))
  (inv:=fun i=>i.1≤L.length∧qz [i.2.2] 0=true∧(i.2.1=false→ ∀j,j<i.1→(L.getD j default).words≠w)∧(i.2.1=true→(jX x f (t-f) (s+1)).length=L.length)) (m:=fun i=>L.length-i.1) (0,false,O3) ⟨Nat.zero_le _,j3,fun _ j hj=>absurd hj (Nat.not_lt_zero j),fun e=>(by cases e)⟩ (Wk.temps ?_) ?_
 ·(simp only[go_sem,qh,qd,qa,qg];try (repeat' first|(with_reducible apply aiA)|(apply qi;omega)|(apply qe;rfl)|exact qj))
 rintro⟨k,fd,O4⟩ ⟨m1,m2,m3,m4⟩ K2 hK2;simp only at m1 m2 m3 m4 hK2;have m2': ∀m,qz (O4::m) 0=true:=fun _=>m2
 cases fd with
 |true=>
  have m4:=m4 rfl;have hS:L.length=(jX x f (t-f) (s+1)).length:=m4.symm;simp only[if_true]at hK2 ⊢
  by_cases hk:k<L.length
  ·have t1:((k:Int)<L.length)=True:=eq_true (by omega);simp (disch:=omega) only[t1,go_sem];refine hK _ _ (s+1,v,O4,O5,O6) ⟨hs,m2,j5,j6⟩ (by simp only;omega) ?_;simp only[←hS];refine Wk.temps ?_
   (simp only[go_sem,qh,qd,qa,qg];try (repeat' first|(with_reducible apply aiA)|(apply qi;omega)|(apply qe;rfl)|exact qj))
  ·have t1:((k:Int)<L.length)=False:=eq_false (by omega);simp (disch:=omega) only[t1,go_sem];refine hK _ _ (s+1,v,O4,O5,O6) ⟨hs,m2,j5,j6⟩ (by simp only;omega) ?_;simp only[←hS];refine Wk.temps ?_
   (simp only[go_sem,qh,qd,qa,qg];try (repeat' first|(with_reducible apply aiA)|(apply qi;omega)|(apply qe;rfl)|exact qj))
 |false=>
 have m3:=m3 rfl;simp only[Bool.false_eq_true,if_false]at hK2 ⊢
 by_cases hk:k<L.length
 ·have t1:((k:Int)<L.length)=True:=eq_true (by omega);have t0:(0≤(k:Int))=True:=eq_true (by omega);have c86:=fun h=>qvd (L.getD k default).words w h (hwL k) hwl
  obtain⟨A,B,a1,a2,a3⟩:=qbv (h.length+8) L hk;have a3:=a3 ((L.getD k default).src++ [(s:Int)]);have hob:=hob hk;have gw:(jy (h.length+8) L)[k*2]? =some (strs (L.getD k default).words):=by
   rw[a2,List.append_assoc,List.getElem?_append_right (by omega),show k*2-A.length=0 by omega];rfl
  have gg:(jy (h.length+8) L)[k*2+1]? =some (.osl (h.length+8+k) (L.getD k default).src.length 1 0 (L.getD k default).src.length):=by
   rw[a2,List.append_assoc,List.getElem?_append_right (by omega),show k*2+1-A.length=1 by omega];rfl
  have hSl:(L.getD k default).src.length≤1000:=by
   have:=(qcg x f (t-f) s).src (L.getD k default) (by rw[eL,gdqA,zA hk];exact List.getElem_mem hk)
   have:=qcm (hi:=(s:Int)) (lo:=0) this.1 this.2
   omega
  have hrd:qfc L w=k→jX x f (t-f) (s+1)=L.set k ⟨w,(L.getD k default).src++ [(s:Int)]⟩:=fun e=>by
   rw[hst];unfold qds;rw[e,if_neg (by omega),Int.toNat_natCast]
  obtain⟨r,hr⟩: ∃r,r=L.getD k default:=⟨_,rfl⟩
  have er:=hr.symm;rw[er]at a2 a3 hob gw gg hSl hrd;simp only[er]at c86;have k22:(k*2+2≤(jy (h.length+8) L).length)=True:=eq_true (by omega);have k21:(k*2+1≤(jy (h.length+8) L).length)=True:=eq_true (by omega)
  by_cases g:r.words=w
  case neg=>
   rw[decide_eq_false g]at c86;simp (disch:=omega) only[t0,t1,gw,eKl,Option.getD_some,Option.isSome_some,Nat.mul_one,go_sem]
   repeat' first
    |(refine cA (c86 _) ?_ ?_;exact flk;simp (disch:=omega) only[t0,t1,eKl,Option.getD_some,Option.isSome_some,Nat.mul_one,go_sem])
    |with_reducible apply aiA
   all_goals try exact clz
   refine hK2 _ _ (k+1,false,O4) ⟨hk,m2,fun _ j hj=> ?_,fun e=>(by cases e)⟩ (by simp only;omega) ?_
   ·by_cases e:j=k
    ·subst e;rw[er];exact g
    ·exact m3 j (by simp only at hj;omega)
   simp only[Bool.false_eq_true,if_false];refine Wk.temps ?_
   (simp only[go_sem,qh,qd,qa,qg];try (repeat' first|(with_reducible apply aiA)|(apply qi;omega)|(apply qe;rfl)|exact qj))
  rw[decide_eq_true g]at c86;have hix:qfc L w=k:=by
   unfold qfc;refine jv hk (fun j hj=>decide_eq_false fun e=>m3 j hj e.symm) (decide_eq_true ?_);rw[er,g]
  have hst2:=hrd hix;have hos:= @qg2 L k ⟨w,r.src++ [(s:Int)]⟩;rw[←hst2]at hos;rw[g,←hst2]at a3;rw[g]at a2;dsimp only at hos;obtain⟨S,hS⟩: ∃S,S=r.src:=⟨_,rfl⟩
  rw[←hS]at a2 a3 hob hos gg hSl;rw[List.length_append,List.length_singleton]at a3 hos;rw[zN,show qx [(s:Int)]= [AV.int .i64 (s:Int)]from rfl]at hos;have gs:List.take (k*2+1) (jy (h.length+8) L)++ [.osl (h.length+8+k) (S.length+1) 1 0 (S.length+1)]++List.drop (k*2+1+1) (jy (h.length+8) L)=jy (h.length+8) (jX x f (t-f) (s+1)):=by
   rw[a2,a3];exact qkC (by omega)
  have eI:=qV S;have el2:(jX x f (t-f) (s+1)).length=L.length:=by rw[hst2,List.length_set]
  have eTi:List.take S.length (qx S)=qx S:=List.take_of_length_le (by omega);simp (disch:=omega) only[t0,t1,gw,eKl,Option.getD_some,Option.isSome_some,Nat.mul_one,Int.toNat_natCast,go_sem]
  repeat' first
   |(refine cA (c86 _) ?_ ?_;exact flk;simp (disch:=omega) only[t0,t1,gg,m2',eKl,Option.getD_some,Option.isSome_some,qgL,qy0,hob,eTi,Nat.mul_one,Int.toNat_natCast,go_sem])
   |with_reducible apply aiA
  all_goals try exact clz
  all_goals try (simp only[qeH,kU,qgL,hob,qdd,kT,if_true,Option.getD_some,eI,beq_self_eq_true];done)
  all_goals try (simp only[bne_iff_ne];omega)
  all_goals try (simp only[kU,qgL,hob,kT,if_true,Option.getD_some,eI];exact Nat.le_refl _)
  rw[gs];have eD:(AV.int .i64 (s:Int)::List.drop 1 (qS [i6 0] 1))= [AV.int .i64 (s:Int)]:=rfl;simp only[eD];rw[hos];refine hK2 _ _ (k+1,true,.mem (qq (some O4)+1) 3 [.int .i64 (s:Int)]) ⟨hk,rfl,fun e=>(by cases e),fun _=>el2⟩ (by simp only;omega) ?_;simp only[if_true,coC];refine Wk.temps ?_
  (simp only[go_sem,qh,qd,qa,qg];try (repeat' first|(with_reducible apply aiA)|(apply qi;omega)|(apply qe;rfl)|exact qj))
 --not there
 obtain rfl:k=L.length:=by omega
 have t1:((L.length:Int)<L.length)=False:=eq_false (by omega);have hix:qfc L w<0:=by
  rcases qaF L w with⟨i,h1,h2,_⟩|⟨_,h2⟩
  ·exact absurd h2 (m3 i h1)
  ·exact h2
 have hst2:jX x f (t-f) (s+1)=L++ [⟨w,[(s:Int)]⟩]:=by
  rw[hst];unfold qds;rw[if_pos hix]
 have eTk:List.take (L.length*2) (jy (h.length+8) L)=jy (h.length+8) L:=List.take_of_length_le (by omega);clear hK2;simp (disch:=omega) only[t1,j5',j6',eTk,eKl,Nat.mul_one,go_sem]
 repeat' first
  |with_reducible apply aiA
 all_goals try exact clz
 have el2:(jX x f (t-f) (s+1)).length=L.length+1:=by rw[hst2,List.length_append];rfl
 have eo:qdi (jX x f (t-f) (s+1))=qdi L++ [.mem 1 3 [.int .i64 (s:Int)]]:=by rw[hst2,qg0];rfl
 have ek:jy (h.length+8) (jX x f (t-f) (s+1))=jy (h.length+8) L++ [strs w,.osl (h.length+8+L.length) 1 1 0 1]:=by rw[hst2,qeP];rfl
 have eset:(jy (h.length+8) L++ [strs w,AV.osl (h.length+5) (qq (some O5)+1) 1 0 1]).set (L.length*2+1) (.osl (h.length+8+L.length) 1 1 0 1)=jy (h.length+8) L++ [strs w,.osl (h.length+8+L.length) 1 1 0 1]:=by
  rw[List.set_append_right _ _ (by omega),eKl,show L.length*2+1-2*L.length=1 by omega];rfl
 refine hK _ _ (s+1,v+1,O4,.emp (qq (some O5)+1+1),.mem (qq (some O6)+1) 89 [strs w,.osl (h.length+5) (qq (some O5)+1) 1 0 1]) ⟨hs,m2,rfl,rfl⟩ (by simp only;omega)
  (Wk.trans (Wk.moveCell (i:=h.length+2) (j:=h.length+5) (a:=L.length*2+1) (w:=v+1) (v:=qq (some O5)+1) (ty:=3) (ty':=89) (ds:=jy (h.length+8) L++ [strs w,.osl (h.length+5) (qq (some O5)+1) 1 0 1]) (cs:= [.int .i64 (s:Int)]) (sz:=1) (off:=0) (len:=1) ?m1 ?m2 ?m3 (by omega)) ?m4)
 case m1=>simp only[go_sem]
 case m2=>
  rw[List.getElem?_append_right (by omega),show L.length*2+1-(jy (h.length+8) L).length=1 by omega];rfl
 case m3=>simp only[go_sem];rfl
 case m4=>
  have eD:(AV.int .i64 (s:Int)::List.drop 1 (qS [i6 0] 1))= [AV.int .i64 (s:Int)]:=rfl;have eD2: ∀c:AV,(strs w::c::List.drop 2 (qS [AV.nl,AV.nl] 1))= [strs w,c]:=fun _=>rfl
  simp only[eo,ek,el2,coC,eD,eD2,qA1,qg1,go_sem,eset,List.append_assoc,List.cons_append];refine Wk.temps ?_
  (simp only[go_sem,qh,qd,qa,qg];try (repeat' first|(with_reducible apply aiA)|(apply qi;omega)|(apply qe;rfl)|exact qj))
theorem qCh(s:Str)(h:List AObj)(hs:s.length≤1000000000):ACalls Tryz.prog 259 [.str s] h (.bool (qnE s)) h:=by
 have c1:=fun h=>t53 s h hs
 unfold qnE
 by_cases g:s= []
 ·subst g;rw[decide_eq_true rfl,Bool.true_or];refine acO qqZ ?_;simp (disch:=omega) only[qsa,go_sem]
  repeat' first
   |(refine qk ( .bool false) ?_;simp (disch:=omega) only[go_sem])
   |(apply qf;exact rvk;simp only[go_sem];exact qj)
 ·have k1:(s= [])=False:=eq_false g;rw[decide_eq_false g,Bool.false_or];refine acO qqZ ?_;simp (disch:=omega) only[qsa,k1,go_sem]
  repeat' first
   |(refine cG (fun e=>c1 _) ?_ ?_;exact flk;simp (disch:=omega) only[go_sem])
   |(apply qf;exact rvk;simp only[go_sem];exact qj)
theorem qtw(c:UInt8):qfD c=(decide (zK c=1)||(decide (zK c=2)||(decide (zK c=3)||decide (zK c=4)))):=by
 unfold qfD;cases decide (zK c=1)<;>cases decide (zK c=2)<;>cases decide (zK c=3)<;>rfl
theorem qDJ(c:UInt8)(h:List AObj):ACalls Tryz.prog 258 [.int .u8 (c.toNat:Int)] h (.bool (qfD c)) h:=by
 have c5:=fun h=>qcI c h
 rw[qtw];obtain⟨k,hk⟩: ∃k,k=zK c:=⟨_,rfl⟩
 rw[←hk]at c5 ⊢
 by_cases g1:k=1
 ·have q1:(k=1)=True:=eq_true g1;rw[decide_eq_true g1,Bool.true_or];refine acO qgJ ?_;simp (disch:=omega) only[qj8,go_sem]
  repeat' first
   |(refine cA (c5 _) ?_ ?_;exact flk;simp (disch:=omega) only[q1,go_sem])
   |(apply qf;exact rvk;simp only[go_sem];exact qj)
 have q1:(k=1)=False:=eq_false g1;rw[decide_eq_false g1,Bool.false_or]
 by_cases g2:k=2
 ·have q2:(k=2)=True:=eq_true g2;rw[decide_eq_true g2,Bool.true_or];refine acO qgJ ?_;simp (disch:=omega) only[qj8,go_sem]
  repeat' first
   |(refine cA (c5 _) ?_ ?_;exact flk;simp (disch:=omega) only[q1,q2,go_sem])
   |(apply qf;exact rvk;simp only[go_sem];exact qj)
 have q2:(k=2)=False:=eq_false g2;rw[decide_eq_false g2,Bool.false_or]
 by_cases g3:k=3
 ·have q3:(k=3)=True:=eq_true g3;rw[decide_eq_true g3,Bool.true_or];refine acO qgJ ?_;simp (disch:=omega) only[qj8,go_sem]
  repeat' first
   |(refine cA (c5 _) ?_ ?_;exact flk;simp (disch:=omega) only[q1,q2,q3,go_sem])
   |(apply qf;exact rvk;simp only[go_sem];exact qj)
 have q3:(k=3)=False:=eq_false g3;rw[decide_eq_false g3,Bool.false_or];refine acO qgJ ?_;simp (disch:=omega) only[qj8,go_sem]
 repeat' first
  |(refine cA (c5 _) ?_ ?_;exact flk;simp (disch:=omega) only[q1,q2,q3,go_sem])
  |(apply qf;exact rvk;simp only[go_sem];exact qj)
theorem qAo: ∀f:Nat,f<32→decide ((f:Int)/2%2=1)=f.testBit 1:=by decide+kernel
theorem qAp: ∀f:Nat,f<32→decide ((f:Int)/8%2=1)=f.testBit 3:=by decide+kernel
theorem tkR(t:Tk)(h:List AObj)(hz:qqo t)(hp:qaz SG h):ACalls Tryz.prog 211 [.agg (tkC t)] h (.int .i64 (tkE t)) h:=by
 obtain⟨R,hR⟩: ∃R,R=tkE t:=⟨_,rfl⟩
 rw[←hR];unfold tkE at hR
 by_cases g1:t.flags<0
 ·have k1:(t.flags<0)=True:=eq_true g1;rw[if_pos (.inl g1)]at hR;rw[hR];refine acO zM ?_;simp (disch:=omega) only[jA,tkC,go_sem]
  repeat' first
   |(apply qb;exact rvk;simp only[go_sem];exact qj)
   |with_reducible first|intro _|apply aiA
  all_goals try exact clz
 have k1:(t.flags<0)=False:=eq_false g1
 by_cases g2:31<t.flags
 ·have k2:((31:Int)<t.flags)=True:=eq_true g2;rw[if_pos (.inr g2)]at hR;rw[hR];refine acO zM ?_;simp (disch:=omega) only[jA,tkC,go_sem]
  repeat' first
   |(apply qb;exact rvk;simp only[go_sem];exact qj)
   |with_reducible first|intro _|apply aiA
  all_goals try exact clz
 have k2:((31:Int)<t.flags)=False:=eq_false g2;rw[if_neg (by omega)]at hR;obtain⟨f,hf⟩: ∃f:Nat,t.flags=(f:Int):=⟨t.flags.toNat,by omega⟩
 have hf2:f<32:=by omega
 have eg:qoO t.flags=f.testBit 1:=by unfold qoO;rw[hf,Int.toNat_natCast]
 have ek:mkB t.flags=f.testBit 3:=by unfold mkB;rw[hf,Int.toNat_natCast]
 have dA:=fun h=>qCb t.text t.norm t.page t.line t.flags 2 t.name h (by omega) (by omega) (by decide)
 have dB:=fun h=>qCb t.text t.norm t.page t.line t.flags 8 t.name h (by omega) (by omega) (by decide)
 have cP:=fun l=>qCh t.page (h++l) hz.pg
 have cM:=fun l=>qCh t.name (h++l) hz.na
 have hG:=fun l=>qCX t.text (h++l) hz.tx (hp.app l)
 have cW:=fun l=>t93 t.text (h++l) hz.tx
 have cK:=fun h=>qcI (ch t.text 0) h
 have e0:(t.text[0]?).getD 0=ch t.text 0:=by simp[ch,gdqA]
 unfold txB at hR;rw[eg,ek]at hR;rw[hf]at dA dB k1 k2;rw[qAo f hf2]at dA;rw[qAp f hf2]at dB;obtain⟨bp,hbp⟩: ∃b,b=qnE t.page:=⟨_,rfl⟩
 obtain⟨bm,hbm⟩: ∃b,b=qnE t.name:=⟨_,rfl⟩
 obtain⟨bg,hbg⟩: ∃b,b=qfa t.text:=⟨_,rfl⟩
 obtain⟨bw,hbw⟩: ∃b,b=qav t.text:=⟨_,rfl⟩
 rw[←hbp,←hbm,←hbg,←hbw]at hR;simp only[←hbp]at cP;simp only[←hbm]at cM;simp only[←hbg]at hG;simp only[←hbw]at cW;have eM:qys t.text=(decide (t.text.length=1)&&(decide (zK (ch t.text 0)=5)||decide (zK (ch t.text 0)=4))):=rfl;have eN:qu7 t.norm=(decide (t.norm≠ [])&&(decide (t.norm.length≤64)&&(List.range t.norm.length).all fun i=>qfD (ch t.norm i))):=rfl;rw[eM,eN]at hR;obtain⟨kd,hkd⟩: ∃kd,kd=zK (ch t.text 0):=⟨_,rfl⟩
 rw[←hkd]at hR cK;have q2:(t.text.length=1)=True→((0:Int)<t.text.length)=True:=fun e=>eq_true (by have:=of_eq_true e;omega)
 cases ga:f.testBit 1<;>cases gb:f.testBit 3<;>rw[ga]at hR dA<;>rw[gb]at hR dB<;>simp only[Bool.false_eq_true,if_true,if_false,and_true,and_false,and_self]at hR
 ·cases bw with
  |false=>
   rw[Bool.false_and,if_pos rfl]at hR;rw[hR];refine acO zM ?_;simp (disch:=omega) only[jA,tkC,hf,k1,k2,go_sem]
   repeat' first
    |((first|refine cA (dA _) ?_ ?_|refine cA (dB _) ?_ ?_|refine cA (cW _) ?_ ?_);exact flk;simp (disch:=omega) only[go_sem])
    |(apply qb;exact rvk;simp only[go_sem];exact qj)
  |true=>
  rw[Bool.true_and]at hR
  by_cases g5:t.norm= []
  ·have k5:(t.norm= [])=True:=eq_true g5;rw[decide_eq_false (fun hc=>hc g5),Bool.false_and,if_pos rfl]at hR;rw[hR];refine acO zM ?_;simp (disch:=omega) only[jA,tkC,hf,k1,k2,go_sem]
   repeat' first
    |((first|refine cA (dA _) ?_ ?_|refine cA (dB _) ?_ ?_|refine cA (cW _) ?_ ?_);exact flk;simp (disch:=omega) only[k5,go_sem])
    |(apply qb;exact rvk;simp only[go_sem];exact qj)
  have k5:(t.norm= [])=False:=eq_false g5;rw[decide_eq_true g5,Bool.true_and]at hR
  by_cases g6:t.norm.length≤64
  case neg=>
   have k6:((64:Int)<t.norm.length)=True:=eq_true (by omega);rw[decide_eq_false g6,Bool.false_and,if_pos rfl]at hR;rw[hR];refine acO zM ?_;simp (disch:=omega) only[jA,tkC,hf,k1,k2,go_sem]
   repeat' first
    |((first|refine cA (dA _) ?_ ?_|refine cA (dB _) ?_ ?_|refine cA (cW _) ?_ ?_);exact flk;simp (disch:=omega) only[k5,k6,go_sem])
    |(apply qb;exact rvk;simp only[go_sem];exact qj)
  have k6:((64:Int)<t.norm.length)=False:=eq_false (by omega);rw[decide_eq_true g6,Bool.true_and]at hR;refine acO zM ?_;simp (disch:=omega) only[jA,tkC,hf,k1,k2,go_sem]
  repeat' first
   |((first|refine cA (dA _) ?_ ?_|refine cA (dB _) ?_ ?_|refine cA (cW _) ?_ ?_);exact flk;simp (disch:=omega) only[k5,k6,go_sem])
  refine qm (T:=fun i:Nat=>qI 105 [(1,.op h.length 1 0),(5,.int .i64 i)]) (H:=fun _=>h++ [.mem 1 124 [.str t.text,.str t.norm,.str t.page,.int .i64 t.line,.int .i64 (f:Int),.str t.name]]) (inv:=fun i=>i≤t.norm.length∧ ∀j,j<i→qfD (ch t.norm j)=true) (m:=fun i=>t.norm.length-i) 0 ⟨Nat.zero_le _,fun j hj=>absurd hj (Nat.not_lt_zero j)⟩ (Wk.temps ?_) ?_
  ·(simp only[go_sem,qh,qd,qa,qg];try (repeat' first|(with_reducible apply aiA)|(apply qi;omega)|(apply qe;rfl)|exact qj))
  rintro i ⟨i1,i2⟩ K hK
  by_cases hi:i<t.norm.length
  ·have r1:((i:Int)<t.norm.length)=True:=eq_true (by omega);have r0:(0≤(i:Int))=True:=eq_true (by omega);have ei:(t.norm[i]?).getD 0=ch t.norm i:=by unfold ch;exact (gdqA).symm
   have cV:=fun h=>qDJ (ch t.norm i) h
   cases gi:qfD (ch t.norm i)with
   |false=>
    rw[gi]at cV;have hall:((List.range t.norm.length).all fun i=>qfD (ch t.norm i))=false:=by
     rw[List.all_eq_false];exact⟨i,by simpa using hi,by rw[gi];simp⟩
    rw[hall,if_pos rfl]at hR;rw[hR];simp (disch:=omega) only[r0,r1,ei,go_sem]
    repeat' first
     |(refine cA (cV _) ?_ ?_;exact flk;simp (disch:=omega) only[go_sem])
     |(apply qb;exact rvk;simp only[go_sem];exact qj)
   |true=>
    rw[gi]at cV;simp (disch:=omega) only[r0,r1,ei,go_sem]
    repeat' first
     |(refine cA (cV _) ?_ ?_;exact flk;simp (disch:=omega) only[go_sem])
    refine hK _ _ (i+1) ⟨hi,fun j hj=> ?_⟩ (by omega) (Wk.temps ?_)
    ·by_cases e:j=i
     ·subst e;exact gi
     ·exact i2 j (by omega)
    ·(simp only[go_sem,qh,qd,qa,qg];try (repeat' first|(with_reducible apply aiA)|(apply qi;omega)|(apply qe;rfl)|exact qj))
  have r1:((i:Int)<t.norm.length)=False:=eq_false (by omega);have hall:((List.range t.norm.length).all fun i=>qfD (ch t.norm i))=true:=by
   rw[List.all_eq_true];exact fun j hj=>i2 j (by have:=List.mem_range.1 hj;omega)
  rw[hall,if_neg (by simp)]at hR;clear hK
  by_cases g4:t.line<0
  ·have k4:(t.line<0)=True:=eq_true g4;rw[if_pos g4]at hR;rw[hR];simp (disch:=omega) only[r1,k4,go_sem]
   repeat' first
    |(apply qb;exact rvk;simp only[go_sem];exact qj)
  have k4:(t.line<0)=False:=eq_false g4;rw[if_neg g4]at hR;cases bp with
  |false=>
   rw[if_pos (.inl rfl)]at hR;rw[hR];simp (disch:=omega) only[r1,k4,go_sem]
   repeat' first
    |(refine qk ( .bool false) ?_;simp (disch:=omega) only[go_sem])
    |(refine cA (cP _) ?_ ?_;exact flk;simp (disch:=omega) only[go_sem])
    |(apply qb;exact rvk;simp only[go_sem];exact qj)
  |true=>
  cases bm with
  |false=>
   rw[if_pos (.inr rfl)]at hR;rw[hR];simp (disch:=omega) only[r1,k4,go_sem]
   repeat' first
    |((first|refine cA (cP _) ?_ ?_|refine cG (fun e=>cM _) ?_ ?_);exact flk;simp (disch:=omega) only[go_sem])
    |(apply qb;exact rvk;simp only[go_sem];exact qj)
    |with_reducible apply aiA
   all_goals try exact clz
  |true=>
  rw[if_neg (by simp)]at hR;rw[hR];simp (disch:=omega) only[r1,k4,go_sem]
  repeat' first
   |((first|refine cA (cP _) ?_ ?_|refine cG (fun e=>cM _) ?_ ?_);exact flk;simp (disch:=omega) only[go_sem])
   |(apply qb;exact rvk;simp only[go_sem];exact qj)
   |with_reducible apply aiA
  all_goals try exact clz
 ·by_cases g5:t.text.length=1
  case neg=>
   have k5:((t.text.length:Int)=1)=False:=eq_false (by omega);rw[decide_eq_false g5,Bool.false_and,Bool.false_and,if_pos rfl]at hR;rw[hR];refine acO zM ?_;simp (disch:=omega) only[jA,tkC,hf,k1,k2,go_sem]
   repeat' first
    |(refine qk ( .int .i64 0) ?_;simp (disch:=omega) only[go_sem])
    |((first|refine cA (dA _) ?_ ?_|refine cA (dB _) ?_ ?_);exact flk;simp (disch:=omega) only[k5,go_sem])
    |(apply qb;exact rvk;simp only[go_sem];exact qj)
    |with_reducible first|intro _|apply aiA
   all_goals try exact clz
  have k5:((t.text.length:Int)=1)=True:=eq_true (by omega);have k6:((0:Int)<t.text.length)=True:=eq_true (by omega);rw[decide_eq_true g5,Bool.true_and]at hR
  by_cases g50:kd=5
  ·have k50:(kd=5)=True:=eq_true g50;rw[decide_eq_true g50,Bool.true_or,Bool.true_and]at hR
   by_cases g7:t.norm=t.text
   case neg=>
    have k7:(t.norm=t.text)=False:=eq_false g7;rw[decide_eq_false g7,if_pos rfl]at hR;rw[hR];refine acO zM ?_;simp (disch:=omega) only[jA,tkC,hf,k1,k2,false_imp_iff,true_imp_iff,go_sem]
    repeat' first
     |(refine qk ( .int .i64 0) ?_;simp (disch:=omega) only[false_and,false_imp_iff,true_imp_iff,k7,go_sem])
     |((first|refine cA (dA _) ?_ ?_|refine cA (dB _) ?_ ?_|refine cG (fun e=>cK _) ?_ ?_);exact flk;simp (disch:=omega) only[k5,k6,e0,Int.toNat_zero,k50,false_and,false_imp_iff,true_imp_iff,go_sem])
     |(apply qb;exact rvk;simp only[go_sem];exact qj)
     |with_reducible first|intro _|apply aiA
    all_goals try exact clz
   have k7:(t.norm=t.text)=True:=eq_true g7;rw[decide_eq_true g7,if_neg (by simp)]at hR
   by_cases g4:t.line<0
   ·have k4:(t.line<0)=True:=eq_true g4;rw[if_pos g4]at hR;rw[hR];refine acO zM ?_;simp (disch:=omega) only[jA,tkC,hf,k1,k2,false_imp_iff,true_imp_iff,go_sem]
    repeat' first
     |(refine qk ( .int .i64 0) ?_;simp (disch:=omega) only[false_and,false_imp_iff,true_imp_iff,k7,k4,go_sem])
     |((first|refine cA (dA _) ?_ ?_|refine cA (dB _) ?_ ?_|refine cG (fun e=>cK _) ?_ ?_);exact flk;simp (disch:=omega) only[k5,k6,e0,Int.toNat_zero,k50,false_and,false_imp_iff,true_imp_iff,go_sem])
     |(apply qb;exact rvk;simp only[go_sem];exact qj)
     |with_reducible apply aiA
    all_goals try exact clz
   have k4:(t.line<0)=False:=eq_false g4;rw[if_neg g4]at hR;cases bp with
   |false=>
    rw[if_pos (.inl rfl)]at hR;rw[hR];refine acO zM ?_;simp (disch:=omega) only[jA,tkC,hf,k1,k2,false_imp_iff,true_imp_iff,go_sem]
    repeat' first
     |(refine qk ( .int .i64 0) ?_;simp (disch:=omega) only[false_and,false_imp_iff,true_imp_iff,k7,k4,go_sem])
     |((first|refine cA (dA _) ?_ ?_|refine cA (dB _) ?_ ?_|refine cG (fun e=>cK _) ?_ ?_|refine cA (cP _) ?_ ?_);exact flk;simp (disch:=omega) only[k5,k6,e0,Int.toNat_zero,k50,false_and,false_imp_iff,true_imp_iff,go_sem])
     |(apply qb;exact rvk;simp only[go_sem];exact qj)
     |with_reducible apply aiA
    all_goals try exact clz
   |true=>
   cases bm with
   |false=>
    rw[if_pos (.inr rfl)]at hR;rw[hR];refine acO zM ?_;simp (disch:=omega) only[jA,tkC,hf,k1,k2,false_imp_iff,true_imp_iff,go_sem]
    repeat' first
     |(refine qk ( .int .i64 0) ?_;simp (disch:=omega) only[false_and,false_imp_iff,true_imp_iff,k7,k4,go_sem])
     |((first|refine cA (dA _) ?_ ?_|refine cA (dB _) ?_ ?_|refine cG (fun e=>cK _) ?_ ?_|refine cA (cP _) ?_ ?_|refine cG (fun e=>cM _) ?_ ?_);exact flk;simp (disch:=omega) only[k5,k6,e0,Int.toNat_zero,k50,false_and,false_imp_iff,true_imp_iff,go_sem])
     |(apply qb;exact rvk;simp only[go_sem];exact qj)
     |with_reducible apply aiA
    all_goals try exact clz
   |true=>
   rw[if_neg (by simp)]at hR;rw[hR];refine acO zM ?_;simp (disch:=omega) only[jA,tkC,hf,k1,k2,false_imp_iff,true_imp_iff,go_sem]
   repeat' first
    |(refine qk ( .int .i64 0) ?_;simp (disch:=omega) only[false_and,false_imp_iff,true_imp_iff,k7,k4,go_sem])
    |((first|refine cA (dA _) ?_ ?_|refine cA (dB _) ?_ ?_|refine cG (fun e=>cK _) ?_ ?_|refine cA (cP _) ?_ ?_|refine cG (fun e=>cM _) ?_ ?_);exact flk;simp (disch:=omega) only[k5,k6,e0,Int.toNat_zero,k50,false_and,false_imp_iff,true_imp_iff,go_sem])
    |(apply qb;exact rvk;simp only[go_sem];exact qj)
    |with_reducible apply aiA
   all_goals try exact clz
  have k50:(kd=5)=False:=eq_false g50;rw[decide_eq_false g50,Bool.false_or]at hR
  by_cases g40:kd=4
  ·have k40:(kd=4)=True:=eq_true g40;rw[decide_eq_true g40,Bool.true_and]at hR
   by_cases g7:t.norm=t.text
   case neg=>
    have k7:(t.norm=t.text)=False:=eq_false g7;rw[decide_eq_false g7,if_pos rfl]at hR;rw[hR];refine acO zM ?_;simp (disch:=omega) only[jA,tkC,hf,k1,k2,go_sem]
    repeat' first
     |((first|refine cA (dA _) ?_ ?_|refine cA (dB _) ?_ ?_|refine cG (fun e=>cK _) ?_ ?_);exact flk;simp (disch:=omega) only[k5,k6,e0,Int.toNat_zero,k50,k40,k7,go_sem])
     |(apply qb;exact rvk;simp only[go_sem];exact qj)
     |with_reducible apply aiA
    all_goals try exact clz
   have k7:(t.norm=t.text)=True:=eq_true g7;rw[decide_eq_true g7,if_neg (by simp)]at hR
   by_cases g4:t.line<0
   ·have k4:(t.line<0)=True:=eq_true g4;rw[if_pos g4]at hR;rw[hR];refine acO zM ?_;simp (disch:=omega) only[jA,tkC,hf,k1,k2,go_sem]
    repeat' first
     |((first|refine cA (dA _) ?_ ?_|refine cA (dB _) ?_ ?_|refine cG (fun e=>cK _) ?_ ?_);exact flk;simp (disch:=omega) only[k5,k6,e0,Int.toNat_zero,k50,k40,k7,k4,go_sem])
     |(apply qb;exact rvk;simp only[go_sem];exact qj)
     |with_reducible apply aiA
    all_goals try exact clz
   have k4:(t.line<0)=False:=eq_false g4;rw[if_neg g4]at hR;cases bp with
   |false=>
    rw[if_pos (.inl rfl)]at hR;rw[hR];refine acO zM ?_;simp (disch:=omega) only[jA,tkC,hf,k1,k2,go_sem]
    repeat' first
     |(refine qk ( .bool false) ?_;simp (disch:=omega) only[go_sem])
     |((first|refine cA (dA _) ?_ ?_|refine cA (dB _) ?_ ?_|refine cG (fun e=>cK _) ?_ ?_|refine cA (cP _) ?_ ?_);exact flk;simp (disch:=omega) only[k5,k6,e0,Int.toNat_zero,k50,k40,k7,k4,go_sem])
     |(apply qb;exact rvk;simp only[go_sem];exact qj)
     |with_reducible apply aiA
    all_goals try exact clz
   |true=>
   cases bm with
   |false=>
    rw[if_pos (.inr rfl)]at hR;rw[hR];refine acO zM ?_;simp (disch:=omega) only[jA,tkC,hf,k1,k2,go_sem]
    repeat' first
     |((first|refine cA (dA _) ?_ ?_|refine cA (dB _) ?_ ?_|refine cG (fun e=>cK _) ?_ ?_|refine cA (cP _) ?_ ?_|refine cG (fun e=>cM _) ?_ ?_);exact flk;simp (disch:=omega) only[k5,k6,e0,Int.toNat_zero,k50,k40,k7,k4,go_sem])
     |(apply qb;exact rvk;simp only[go_sem];exact qj)
     |with_reducible apply aiA
    all_goals try exact clz
   |true=>
   rw[if_neg (by simp)]at hR;rw[hR];refine acO zM ?_;simp (disch:=omega) only[jA,tkC,hf,k1,k2,go_sem]
   repeat' first
    |((first|refine cA (dA _) ?_ ?_|refine cA (dB _) ?_ ?_|refine cG (fun e=>cK _) ?_ ?_|refine cA (cP _) ?_ ?_|refine cG (fun e=>cM _) ?_ ?_);exact flk;simp (disch:=omega) only[k5,k6,e0,Int.toNat_zero,k50,k40,k7,k4,go_sem])
    |(apply qb;exact rvk;simp only[go_sem];exact qj)
    |with_reducible apply aiA
   all_goals try exact clz
  have k40:(kd=4)=False:=eq_false g40;rw[decide_eq_false g40,Bool.false_and,if_pos rfl]at hR;rw[hR];refine acO zM ?_;simp (disch:=omega) only[jA,tkC,hf,k1,k2,go_sem]
  repeat' first
   |((first|refine cA (dA _) ?_ ?_|refine cA (dB _) ?_ ?_|refine cG (fun e=>cK _) ?_ ?_);exact flk;simp (disch:=omega) only[k5,k6,e0,Int.toNat_zero,k50,k40,go_sem])
   |(apply qb;exact rvk;simp only[go_sem];exact qj)
   |with_reducible apply aiA
  all_goals try exact clz
 ·cases bg with
  |false=>
   rw[Bool.false_and,if_pos rfl]at hR;rw[hR];refine acO zM ?_;simp (disch:=omega) only[jA,tkC,hf,k1,k2,go_sem]
   repeat' first
    |((first|refine cA (dA _) ?_ ?_|refine cA (dB _) ?_ ?_|refine cA (hG _) ?_ ?_);exact flk;simp (disch:=omega) only[go_sem])
    |(apply qb;exact rvk;simp only[go_sem];exact qj)
  |true=>
  rw[Bool.true_and]at hR
  by_cases g7:t.norm=t.text
  case neg=>
   have k7:(t.norm=t.text)=False:=eq_false g7;rw[decide_eq_false g7,if_pos rfl]at hR;rw[hR];refine acO zM ?_;simp (disch:=omega) only[jA,tkC,hf,k1,k2,go_sem]
   repeat' first
    |((first|refine cA (dA _) ?_ ?_|refine cA (dB _) ?_ ?_|refine cA (hG _) ?_ ?_);exact flk;simp (disch:=omega) only[k7,go_sem])
    |(apply qb;exact rvk;simp only[go_sem];exact qj)
  have k7:(t.norm=t.text)=True:=eq_true g7;rw[decide_eq_true g7,if_neg (by simp)]at hR
  by_cases g4:t.line<0
  ·have k4:(t.line<0)=True:=eq_true g4;rw[if_pos g4]at hR;rw[hR];refine acO zM ?_;simp (disch:=omega) only[jA,tkC,hf,k1,k2,go_sem]
   repeat' first
    |((first|refine cA (dA _) ?_ ?_|refine cA (dB _) ?_ ?_|refine cA (hG _) ?_ ?_);exact flk;simp (disch:=omega) only[k7,k4,go_sem])
    |(apply qb;exact rvk;simp only[go_sem];exact qj)
  have k4:(t.line<0)=False:=eq_false g4;rw[if_neg g4]at hR;cases bp with
  |false=>
   rw[if_pos (.inl rfl)]at hR;rw[hR];refine acO zM ?_;simp (disch:=omega) only[jA,tkC,hf,k1,k2,go_sem]
   repeat' first
    |(refine qk ( .bool false) ?_;simp (disch:=omega) only[go_sem])
    |((first|refine cA (dA _) ?_ ?_|refine cA (dB _) ?_ ?_|refine cA (hG _) ?_ ?_|refine cA (cP _) ?_ ?_);exact flk;simp (disch:=omega) only[k7,k4,go_sem])
    |(apply qb;exact rvk;simp only[go_sem];exact qj)
  |true=>
  cases bm with
  |false=>
   rw[if_pos (.inr rfl)]at hR;rw[hR];refine acO zM ?_;simp (disch:=omega) only[jA,tkC,hf,k1,k2,go_sem]
   repeat' first
    |((first|refine cA (dA _) ?_ ?_|refine cA (dB _) ?_ ?_|refine cA (hG _) ?_ ?_|refine cA (cP _) ?_ ?_|refine cG (fun e=>cM _) ?_ ?_);exact flk;simp (disch:=omega) only[k7,k4,go_sem])
    |(apply qb;exact rvk;simp only[go_sem];exact qj)
    |with_reducible apply aiA
   all_goals try exact clz
  |true=>
  rw[if_neg (by simp)]at hR;rw[hR];refine acO zM ?_;simp (disch:=omega) only[jA,tkC,hf,k1,k2,go_sem]
  repeat' first
   |((first|refine cA (dA _) ?_ ?_|refine cA (dB _) ?_ ?_|refine cA (hG _) ?_ ?_|refine cA (cP _) ?_ ?_|refine cG (fun e=>cM _) ?_ ?_);exact flk;simp (disch:=omega) only[k7,k4,go_sem])
   |(apply qb;exact rvk;simp only[go_sem];exact qj)
   |with_reducible apply aiA
  all_goals try exact clz
 ·rw[hR];refine acO zM ?_;simp (disch:=omega) only[jA,tkC,hf,k1,k2,go_sem]
  repeat' first
   |((first|refine cA (dA _) ?_ ?_|refine cA (dB _) ?_ ?_);exact flk;simp (disch:=omega) only[go_sem])
   |(apply qb;exact rvk;simp only[go_sem];exact qj)
end RC
end
