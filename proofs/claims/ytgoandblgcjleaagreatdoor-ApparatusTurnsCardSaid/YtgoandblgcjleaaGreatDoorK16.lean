import Derived.Test.YtgoandblgcjleaaGreatDoorK14
import Derived.Test.YtgoandblgcjleaaGreatDoorK15
import Derived.Test.YtgoandblgcjleaaGreatDoorK3
import Derived.Test.YtgoandblgcjleaaGreatDoorK5
import Derived.Test.YtgoandblgcjleaaGreatDoorK8
import Derived.Test.YtgoandblgcjleaaGreatDoorProg
import Derived.Test.YtgoandblgcjleaaGreatDoorK12
import Derived.Test.YtgoandblgcjleaaGreatDoorK10
import Derived.Test.YtgoandblgcjleaaGreatDoorK13
import Derived.Test.YtgoandblgcjleaaGreatDoorK9
import Derived.Test.YtgoandblgcjleaaGreatDoorK11
set_option linter.all false
set_option linter.unusedSimpArgs false
set_option linter.unusedVariables false
set_option linter.unusedSectionVars false
set_option maxHeartbeats 128000000
set_option maxRecDepth 100000
section
open Go Go.Proofs AF HY LN
namespace RC
theorem qoo(L:List Str)(x:Str):qZ (fun j=>decide (x=L.getD j [])) L.length=decide (x∈L):=by
 by_cases h:x∈L
 ·rw[dqt h,qy];obtain⟨j,hj,e⟩:=List.getElem_of_mem h;exact⟨j,hj,dqt (by rw[gdqA,qY hj];exact e.symm)⟩
 ·rw[dqf h,ql];intro j hj;refine dqf fun e=>h ?_
  rw[e,gdqA,qY hj];exact List.getElem_mem hj
theorem ctS(L:List Str)(x:Str)(h:List AObj)(hn:L.length≤1000000000):ACalls Tryz.prog 43 [strs L,.str x] h (.bool (decide (x∈L))) h:=by
 rw[←qoo];exact qk8 L.length (fun j=>L.getD j []) x h hn
theorem lyP(lay:List Str)(cls:Str)(h:List AObj)(hl:lay.length≤1000000000)(hs: ∀i,(lay.getD i []).length≤100000000):ACalls Tryz.prog 27 [strs lay,.str cls] h (.tup [.int .i64 (lyR lay cls),.int .i64 (lyE lay)]) h:=by
 obtain⟨R,hR⟩: ∃R,R=lyR lay cls:=⟨_,rfl⟩
 obtain⟨E,hE⟩: ∃E,E=lyE lay:=⟨_,rfl⟩
 rw[←hR,←hE];unfold lyR at hR;rw[←hE]at hR;unfold lyE at hE
 by_cases g1:lay.length=0
 ·have k1:((lay.length:Int)=0)=True:=eqt (by omega);rw[ipo g1]at hE;rw[hR,hE];refine acO qtT ?_;simp (disch:=omega) only[qAO,strs,k1,go_sem]
  repeat' first
   |(apply qd;exact rvk;simp only[go_sem];exact qj)
 have k1:((lay.length:Int)=0)=False:=eqf (by omega);rw[ine g1]at hE
 by_cases g2:16<lay.length
 ·have k2:((16:Int)<lay.length)=True:=eqt (by omega);rw[ipo g2]at hE;rw[hR,hE];refine acO qtT ?_;simp (disch:=omega) only[qAO,strs,k1,k2,go_sem]
  repeat' first
   |(apply qd;exact rvk;simp only[go_sem];exact qj)
 have k2:((16:Int)<lay.length)=False:=eqf (by omega);rw[ine g2]at hE;rw[hE,ipo rfl]at hR;rw[hE];unfold lyN at hR;refine acO qtT ?_;simp (disch:=omega) only[qAO,strs,k1,k2,go_sem];refine qp (T:=fun i:Nat=>qQ 37 [(0,strs lay),(1,.str cls),(17,strs lay),(18,.int .i64 lay.length),(19,.int .i64 i)]) (H:=fun _=>h) (inv:=fun i=>i≤lay.length∧ ∀j,j<i→qdi cls (lay.getD j [])=false) (m:=fun i=>lay.length-i) 0 ⟨nzl _,fun j hj=>absurd hj (nnz j)⟩ (Wk.temps ?_) ?_
 ·(simp only[strs,go_sem,qi,qe,qa,qh];try (repeat' first|(with_reducible apply aiA)|(apply qg;omega)|(apply qf;rfl)|exact qj))
 rintro i ⟨i1,i2⟩ K hK
 by_cases hi:i<lay.length
 ·have k3:((i:Int)<lay.length)=True:=eqt (by omega);have hH:=fun h=>qae (p:=fun i=>qdi cls (lay.getD i [])) hi i2 h
  have hS:qdi cls (lay.getD i [])=false→ ∀j,j<i+1→qdi cls (lay.getD j [])=false:=fun hx j hj=>by
   by_cases e:j=i
   ·subst e;exact hx
   ·exact i2 j (by omega)
  have hsp:=qf7 cls (lay.getD i []);have hsi:=hs i;obtain⟨s,hsx⟩: ∃s,s=lay.getD i []:=⟨_,rfl⟩
  have es:=hsx.symm;rw[es]at hsp hS hsi;simp only[es]at hH;have c1:=fun h=>u45 s 32 h (by omega)
  have hcl:=List.count_le_length (a:=(32:UInt8)) (l:=s);have hll:=qbX 32 s;obtain⟨P,hP⟩: ∃P,P=kx 32 s:=⟨_,rfl⟩
  rw[←hP]at hsp hll;simp only[←hP]at c1;have c2:=fun h=>ctS P cls h (by omega)
  unfold strs at c1 c2;obtain⟨b,hb⟩: ∃b,b=decide (cls∈P):=⟨_,rfl⟩
  rw[←hb]at hsp;simp only[←hb]at c2
  by_cases g3:cls= []
  ·have q1:(cls= [])=True:=eqt g3;rw[dqf (fun h=>h g3),Bool.false_and]at hsp;cases b
   all_goals
    simp (disch:=omega) only[strs,k3,es,go_sem]
    repeat' first
     |((first|refine cA (c1 _) ?_ ?_|refine cA (c2 _) ?_ ?_);exact flk;simp (disch:=omega) only[q1,go_sem])
     |with_reducible apply aiA
    all_goals try exact clz
    refine hK _ _ (i+1) ⟨hi,hS hsp⟩ (by omega) (Wk.temps ?_)
    (simp only[strs,go_sem,qi,qe,qa,qh];try (repeat' first|(with_reducible apply aiA)|(apply qg;omega)|(apply qf;rfl)|exact qj))
  have q1:(cls= [])=False:=eqf g3;rw[dqt (show cls≠ []from g3),Bool.true_and]at hsp;cases b with
  |false=>
   simp (disch:=omega) only[strs,k3,es,go_sem]
   repeat' first
    |((first|refine cA (c1 _) ?_ ?_|refine cA (c2 _) ?_ ?_);exact flk;simp (disch:=omega) only[q1,go_sem])
    |with_reducible apply aiA
   all_goals try exact clz
   refine hK _ _ (i+1) ⟨hi,hS hsp⟩ (by omega) (Wk.temps ?_)
   (simp only[strs,go_sem,qi,qe,qa,qh];try (repeat' first|(with_reducible apply aiA)|(apply qg;omega)|(apply qf;rfl)|exact qj))
  |true=>
   have e1:=hH hsp;rw[e1,ine (by omega)]at hR;rw[hR];simp (disch:=omega) only[strs,k3,es,go_sem]
   repeat' first
    |((first|refine cA (c1 _) ?_ ?_|refine cA (c2 _) ?_ ?_);exact flk;simp (disch:=omega) only[q1,go_sem])
    |(apply qd;exact rvk;simp only[go_sem];exact qj)
    |with_reducible apply aiA
   all_goals try exact clz
 ·have k3:((i:Int)<lay.length)=False:=eqf (by omega);have e1:qam (fun i=>qdi cls (lay.getD i [])) lay.length 0= -1:=qay fun j hj=>i2 j (by omega)
  rw[e1,ipo (by decide)]at hR;rw[hR];simp (disch:=omega) only[strs,k3,go_sem]
  repeat' first
   |(apply qd;exact rvk;simp only[go_sem];exact qj)
theorem sp1(w:Wd)(u:Int)(h:List AObj):ACalls Tryz.prog 105 [.agg (wdC w),.ip [.int .i64 u]] h (.bool (decide (w.unit=u))) h:=by
 refine acO qxV ?_;simp (disch:=omega) only[qws,wdC,go_sem]
 repeat' first
  |(apply qb;exact rvk;simp only[go_sem];exact qj)
  |with_reducible apply aiA
 all_goals try exact clz
theorem qC7(w:Wd)(u:Int)(k v:Nat)(h:List AObj)(hk:getO k h=some (.mem v 3 [.int .i64 u])):ACalls Tryz.prog 105 [.agg (wdC w),.op k v 0] h (.bool (decide (w.unit=u))) h:=by
 have hc:=qU hk;refine ACalls.borrow ?_ rfl;have e:([AV.agg (wdC w),AV.op k v 0]).map (rei (fun _=>true) h 8)= [.agg (wdC w),.ip [.int .i64 u]]:=by
  simp only[List.map_cons,List.map_nil,rei_op,if_true,hc,ipOf_some,List.drop_zero,rei_agg];rfl
 rw[e];exact sp1 _ u _
theorem qC0(n:Nat)(g:Nat→Wd)(u:Int)(k v:Nat)(h:List AObj)(hk:getO k h=some (.mem v 3 [.int .i64 u]))(hn:n≤1000000000):
  ACalls Tryz.prog 106 [.sl n (fun j=>wdC (g j)),.fn (.func 105) [] [.op k v 0]] h (.int .i64 (qam (fun j=>decide ((g j).unit=u)) n 0)) h:=by
 refine qaO qg6 n (fun j=>wdC (g j)) (fun j=> .agg (wdC (g j))) _ [] [.op k v 0] _ h (fun i _=>⟨rfl,by simp[zZ,wdC],rfl,rfl,rfl⟩) (fun i _=> ?_) (by omega);rw[List.nil_append];exact qC7 _ u k v h hk
theorem qDp(n:Nat)(g:Nat→Wd)(u:Int)(k v:Nat)(h:List AObj)(hk:getO k h=some (.mem v 3 [.int .i64 u]))(hn:n≤1000000000):
  ACalls Tryz.prog 92 [.sl n (fun j=>wdC (g j)),.fn (.func 105) [] [.op k v 0]] h (.bool (qZ (fun j=>decide ((g j).unit=u)) n)) h:=
 qib qpq ⟨rfl,rfl⟩ ⟨rfl,rfl⟩ (qC0 n g u k v h hk hn)
theorem qkv{q:Nat→Bool}{n f t:Nat}(hf:f≤t)(ht:t≤n)(h1: ∀j,f≤j→j<t→q j=true)(h2:t<n→q t=false):qfS q n f=t:=by
 obtain⟨b1,b2,b3,b4⟩:=qkw q (n:=n) (f:=f) (by omega);rcases Nat.lt_trichotomy (qfS q n f) t with h|h|h
 ·have:=b4 (by omega)
  rw[h1 _ b1 h]at this;cases this
 ·exact h
 ·have:=b3 t hf h
  rw[h2 (by omega)]at this;cases this
theorem qsv{q:Nat→Bool}{n f t:Nat}(ht:qfS q n f=t)(htn:t≤n):qv5 q n f=qZ (fun j=>q (t+j)) (n-t):=by
 unfold qv5;rw[ht];cases e:qZ (fun j=>q (t+j)) (n-t)with
 |true=>
  obtain⟨j,hj,hq⟩:=qy.1 e;exact qy.2 ⟨t+j,by omega,by rw[hq,dqt (by omega)];rfl⟩
 |false=>
  refine ql.2 fun i hi=> ?_
  by_cases g:t≤i
  ·have:=ql.1 e (i-t) (by omega)
   rw[show t+(i-t)=i by omega]at this;rw[this,Bool.and_false]
  ·rw[dqf g,Bool.false_and]
theorem qD8(b:List Wd)(u:Int)(h:List AObj)(hn:b.length≤1000000000):ACalls Tryz.prog 31 [zc b,.int .i64 u] h (.tup [.int .i64 (qz8 (inU b u) b.length),.int .i64 (qz9 (inU b u) b.length),.int .i64 (qnl (inU b u) b.length)]) h:=by
 have c1:=qC0 b.length (fun j=>b.getD j default) u h.length 1 (h++ [.mem 1 3 [.int .i64 u]]) (by rw[getO_app0];rfl) hn;have ei:qam (fun j=>decide ((b.getD j default).unit=u)) b.length 0=qam (inU b u) b.length 0:=rfl;rw[ei]at c1;unfold qz8 qz9;unfold qnl;rcases zh (inU b u) b.length with⟨f,f1,f2,_,f4⟩|⟨f1,f2⟩
 case inr=>
  rw[f2]at c1 ⊢;simp only[show ((-1:Int)<0)=True from eqt (by decide),if_true,show ((6:Int)=0)=False from eqf (by decide),if_false];refine acO qyZ ?_;simp (disch:=omega) only[qA2,zc,go_sem]
  repeat' first
   |(refine cA (c1) flk ?_;simp (disch:=omega) only[go_sem])
   |(apply qb;exact rvk;simp only[go_sem];exact qj)
   |with_reducible first|intro _|apply aiA
  all_goals try exact clz
 rw[f4]at c1 ⊢;have k1:((f:Int)<0)=False:=eqf (by omega);simp only[k1,if_false,Int.toNat_natCast];refine acO qyZ ?_;simp (disch:=omega) only[qA2,zc,go_sem]
 repeat' first
  |(refine cA (c1) flk ?_;simp (disch:=omega) only[k1,go_sem])
 refine qp (T:=fun t:Nat=>qQ 38 [(0,zc b),(7,.fn (.func 105) [] [.op h.length 1 0]),(8,.int .i64 f),(9,.int .i64 t)]) (H:=fun _=>h++ [.mem 1 3 [.int .i64 u]]) (inv:=fun t=>f≤t∧t≤b.length∧ ∀j,f≤j→j<t→inU b u j=true) (m:=fun t=>b.length-t) f ⟨nlr _,by omega,fun j h1 h2=>by omega⟩ (Wk.temps ?_) ?_
 ·(simp only[zc,go_sem,qi,qe,qa,qh];try (repeat' first|(with_reducible apply aiA)|(apply qg;omega)|(apply qf;rfl)|exact qj))
 rintro t ⟨t1,t2,t3⟩ K hK;have hex:(t<b.length→inU b u t=false)→qfS (inU b u) b.length f=t:=fun hx=>qkv t1 t2 t3 hx
 have kt:((t:Int)≤b.length)=True:=eqt (by omega);have c3:=qDp (b.length-t) (fun j=>b.getD (t+j) default) u h.length 1 (h++ [.mem 1 3 [.int .i64 u]]) (by rw[getO_app0];rfl) (by omega);have eb:qZ (fun j=>decide ((b.getD (t+j) default).unit=u)) (b.length-t)=qZ (fun j=>inU b u (t+j)) (b.length-t):=rfl;rw[eb]at c3;have hbe:(t<b.length→inU b u t=false)→qv5 (inU b u) b.length f=qZ (fun j=>inU b u (t+j)) (b.length-t):=fun hx=>qsv (hex hx) t2
 obtain⟨B,hB⟩: ∃B,B=qZ (fun j=>inU b u (t+j)) (b.length-t):=⟨_,rfl⟩
 rw[←hB]at c3 hbe;have c2:=qC7 (b.getD t default) u h.length 1 (h++ [.mem 1 3 [.int .i64 u]]) (by rw[getO_app0];rfl);have ed:decide ((b.getD t default).unit=u)=inU b u t:=rfl;rw[ed]at c2
 by_cases ht:t<b.length
 ·have k2:((t:Int)<b.length)=True:=eqt (by omega);obtain⟨w,hw⟩: ∃w,w=b.getD t default:=⟨_,rfl⟩
  have ew:=hw.symm;rw[ew]at c2;unfold wdC at c2;cases g:inU b u t with
  |true=>
   rw[g]at c2;simp (disch:=omega) only[zc,wdC,k2,ew,go_sem]
   repeat' first
    |(refine qw (c2) ?_;simp (disch:=omega) only[go_sem])
    |with_reducible apply aiA
   all_goals try exact clz
   refine hK _ _ (t+1) ⟨by omega,ht,fun j h1 h2=> ?_⟩ (by omega) (Wk.temps ?_)
   ·by_cases e:j=t
    ·subst e;exact g
    ·exact t3 j h1 (by omega)
   ·(simp only[zc,go_sem,qi,qe,qa,qh];try (repeat' first|(with_reducible apply aiA)|(apply qg;omega)|(apply qf;rfl)|exact qj))
  |false=>
   rw[g]at c2;have e1:=hex fun _=>g
   have e2:=hbe fun _=>g
   simp only[e1,e2];unfold wdC at c3;cases B with
   |true=>
    simp only[if_true,show ((10:Int)=0)=False from eqf (by decide),if_false];simp (disch:=omega) only[zc,wdC,k2,ew,go_sem]
    repeat' first
     |(refine qw (c2) ?_;simp (disch:=omega) only[kt,go_sem])
     |(refine cA (c3) flk ?_;simp (disch:=omega) only[go_sem])
     |(apply qb;exact rvk;simp only[go_sem];exact qj)
     |with_reducible apply aiA
    all_goals try exact clz
   |false=>
    simp only[Bool.false_eq_true,if_false,if_true];simp (disch:=omega) only[zc,wdC,k2,ew,go_sem]
    repeat' first
     |(refine qw (c2) ?_;simp (disch:=omega) only[kt,go_sem])
     |(refine cA (c3) flk ?_;simp (disch:=omega) only[go_sem])
     |(apply qb;exact rvk;simp only[go_sem];exact qj)
     |with_reducible apply aiA
    all_goals try exact clz
 ·have k2:((t:Int)<b.length)=False:=eqf (by omega);have e1:=hex fun hx=>absurd hx ht
  have e2:=hbe fun hx=>absurd hx ht
  simp only[e1,e2];unfold wdC at c3;cases B with
  |true=>
   simp only[if_true,show ((10:Int)=0)=False from eqf (by decide),if_false];simp (disch:=omega) only[zc,wdC,k2,kt,go_sem]
   repeat' first
    |(refine cA (c3) flk ?_;simp (disch:=omega) only[go_sem])
    |(apply qb;exact rvk;simp only[go_sem];exact qj)
    |with_reducible apply aiA
   all_goals try exact clz
  |false=>
   simp only[Bool.false_eq_true,if_false,if_true];simp (disch:=omega) only[zc,wdC,k2,kt,go_sem]
   repeat' first
    |(refine cA (c3) flk ?_;simp (disch:=omega) only[go_sem])
    |(apply qb;exact rvk;simp only[go_sem];exact qj)
    |with_reducible apply aiA
   all_goals try exact clz
def spF(b:List Wd)(k:Int)(c:Int):Int:=if qnl (inU b k) b.length=0 then qz8 (inU b k) b.length else (cP (bfU b c) b.length:Int)
def spT(b:List Wd)(k:Int)(c:Int):Int:=if qnl (inU b k) b.length=0 then qz9 (inU b k) b.length else (cP (bfU b c) b.length:Int)
theorem qCc(b:List Wd)(k:Int)(u:Un)(h:List AObj)(hn:b.length≤1000000000):ACalls Tryz.prog 160 [zc b,.int .i64 k,.agg (unC u)] h (.tup [.int .i64 (spF b k u.frm),.int .i64 (spT b k u.frm)]) h:=by
 have c1:=fun h=>qD8 b k h hn
 unfold spF spT;obtain⟨F,hF⟩: ∃F,F=qz8 (inU b k) b.length:=⟨_,rfl⟩
 obtain⟨T,hT⟩: ∃T,T=qz9 (inU b k) b.length:=⟨_,rfl⟩
 obtain⟨E,hE⟩: ∃E,E=qnl (inU b k) b.length:=⟨_,rfl⟩
 simp only[←hF,←hT,←hE]at c1 ⊢
 by_cases g:E=0
 ·have k1:(E=0)=True:=eqt g;simp only[k1,if_true];unfold zc at c1;refine acO qrA ?_;simp (disch:=omega) only[qsI,zc,unC,go_sem]
  repeat' first
   |(refine cA (c1 _) flk ?_;simp (disch:=omega) only[k1,go_sem])
   |(apply qb;exact rvk;simp only[go_sem];exact qj)
   |with_reducible apply aiA
  all_goals try exact clz
 have k1:(E=0)=False:=eqf g;simp only[k1,if_false];unfold zc at c1;refine acO qrA ?_;simp (disch:=omega) only[qsI,zc,unC,go_sem]
 repeat' first
  |(refine cA (c1 _) flk ?_;simp (disch:=omega) only[k1,go_sem])
  |with_reducible apply aiA
 all_goals try exact clz
 have hle:=qoF (bfU b u.frm);have hst: ∀n,cP (bfU b u.frm) (n+1)=cP (bfU b u.frm) n+if bfU b u.frm n=true then 1 else 0:=fun _=>rfl
 refine qp (T:=fun i:Nat×AObj=>qQ 41 [(5,.op h.length 1 0),(11,.int .i64 (cP (bfU b u.frm) i.1:Int)),(25,zc b),(26,.int .i64 b.length),(27,.int .i64 i.1)]) (H:=fun i=>h++ [.mem 1 83 (unC u),i.2]) (inv:=fun i=>i.1≤b.length∧qH [i.2] 0=true) (m:=fun i=>b.length-i.1) (0,.emp 0) ⟨nzl _,rfl⟩ (Wk.temps ?_) ?_
 ·(simp only[zc,cP,go_sem,qi,qe,qa,qh];try (repeat' first|(with_reducible apply aiA)|(apply qg;omega)|(apply qf;rfl)|exact qj))
 rintro⟨i,O⟩ ⟨i1,i2⟩ K hK;simp only at i1 i2 hK;have i2': ∀m,qH (O::m) 0=true:=fun _=>i2
 have hle:=hle i;have hst:=hst i;have hb:bfU b u.frm i=decide ((b.getD i default).col<u.frm):=rfl;obtain⟨c,hc⟩: ∃c,c=cP (bfU b u.frm) i:=⟨_,rfl⟩
 have ec:=hc.symm;rw[ec]at hle hst
 by_cases hi:i<b.length
 ·have k2:((i:Int)<b.length)=True:=eqt (by omega);obtain⟨w,hw⟩: ∃w,w=b.getD i default:=⟨_,rfl⟩
  have ew:=hw.symm;rw[ew]at hb
  by_cases g2:w.col<u.frm
  ·have k3:(w.col<u.frm)=True:=eqt g2;rw[hb,dqt g2,ipo rfl]at hst;simp (disch:=omega) only[zc,wdC,unC,k2,ec,ew,i2',k3,go_sem]
   repeat' first
    |with_reducible apply aiA
   all_goals try exact clz
   refine hK _ _ (i+1,.mem (qr (some O)+1) 64 (wdC w)) ⟨hi,rfl⟩ (by simp only;omega) ?_;simp only[hst];refine Wk.temps ?_
   (simp only[zc,go_sem,qi,qe,qa,qh];try (repeat' first|(with_reducible apply aiA)|(apply qg;omega)|(apply qf;rfl)|exact qj))
  ·have k3:(w.col<u.frm)=False:=eqf g2;rw[hb,dqf g2,ine (by simp),Nat.add_zero]at hst;simp (disch:=omega) only[zc,wdC,unC,k2,ec,ew,i2',k3,go_sem]
   repeat' first
    |with_reducible apply aiA
   all_goals try exact clz
   refine hK _ _ (i+1,.mem (qr (some O)+1) 64 (wdC w)) ⟨hi,rfl⟩ (by simp only;omega) ?_;simp only[hst];refine Wk.temps ?_
   (simp only[zc,go_sem,qi,qe,qa,qh];try (repeat' first|(with_reducible apply aiA)|(apply qg;omega)|(apply qf;rfl)|exact qj))
 ·have k2:((i:Int)<b.length)=False:=eqf (by omega);obtain rfl:i=b.length:=by omega
  rw[ec];simp (disch:=omega) only[zc,k2,go_sem]
  repeat' first
   |(apply qb;exact rvk;simp only[go_sem];exact qj)
end RC
end
section
open Go Go.Proofs AF
def qt5:List Nat:= []
def qsX:C:=
 ((C.ops [O1 7 (.box 0 26) 0,O1 11 (.box 1 44) 4,⟨some 14,none,.alloc 2 49 [.nl],[]⟩,⟨some 15,none,.alloc 3 35 [i6 0],[]⟩]).seq (((C.ops [O1 37 (.load (some 4)) 7,MV 38 1,
 MV 39 3,ON 40 (.call 38 true) [.t 37,.t 38,.t 39],MV 16 40]).seq ((C.ops [MV 41 16,BC 42 .neq 41 (i6 0)]).seq (C.cond (.t 42) ((C.ops [MV 43 16,⟨none,none,.store 1,[.t 14,
 .c .nl]⟩,ST 1 15 43]).seq C.ret) C.skip))).seq (((C.ops [O1 44 (.fldA 1) 7,LD 45 44,LD 46 11,O2 47 (.call 122 true) 45 46,BC 48 .neq 47 (i6 0)]).seq (C.cond (.t 48) ((C.ops
 [⟨none,none,.store 1,[.t 14,.c .nl]⟩,⟨none,none,.store 1,[.t 15,.c (i6 1)]⟩]).seq C.ret) C.skip)).seq (((C.ops [MV 50 5,OC 51 (.call 27 true) 50 (.str []),MV 49 51,O1
 52 (.ext 0) 49,O1 53 (.ext 1) 49,MV 17 52,MV 18 53]).seq ((C.ops [MV 54 18,BC 55 .neq 54 (i6 0)]).seq (C.cond (.t 55) ((C.ops [MV 56 18,⟨none,none,.store 1,[.t 14,.c
 .nl]⟩,ST 1 15 56]).seq C.ret) C.skip))).seq (((C.ops [MV 57 6,O1 58 .len 57,MV 59 5,O1 60 .len 59,BI 61 .neq 58 60,MV 62 61,MG 63 62 false 2,P1 64 62 false .len 63,MG 65
 62 false 1,P1 66 62 false .len 65,P2 67 62 false (.bin .neq) 64 66,PT 68 62 67]).seq (C.cond (.t 68) ((C.ops [⟨none,none,.store 1,[.t 14,.c .nl]⟩,⟨none,none,.store 1,[.t
 15,.c (i6 9)]⟩]).seq C.ret) C.skip)).seq (((C.ops [MV 69 1,O1 70 .len 69,MC 71 (i6 0)]).seq (C.block 0 ((C.ops [BI 72 .lss 71 70]).seq ((C.cond (.t 72) C.skip (C.exit 0)).seq
 ((C.block 1 ((C.ops [MV 73 71,O2 74 (.idxA 3) 69 71,O1 75 (.load (some 3)) 74,⟨some 20,none,.alloc 4 83 [i6 0,i6 0,.nl],[]⟩,MV 19 73,ST 3 20 75]).seq ((C.ops [MV 76 2,MV
 77 19,O2 78 (.idxA 1) 76 77,LD 79 78,O1 80 .len 79,O1 81 (.fldA 2) 20,LD 82 81,O1 83 .len 82,BI 84 .neq 80 83]).seq (C.cond (.t 84) ((C.ops [⟨none,none,.store 1,[.t 14,
 .c .nl]⟩,⟨none,none,.store 1,[.t 15,.c (i6 9)]⟩]).seq C.ret) C.skip)))).seq (C.ops [BC 85 .add 71 (i6 1),MV 71 85])))).loop)).seq ((C.ops [ON 21 (.nilo 5 6 58) []]).seq
 (((C.ops [MV 86 1,O1 87 .len 86,MC 88 (i6 0)]).seq (C.block 2 ((C.ops [BI 89 .lss 88 87]).seq ((C.cond (.t 89) C.skip (C.exit 2)).seq ((C.block 3 ((C.ops [MV 90 88,O2 91 (.idxA
 3) 86 88,O1 92 (.load (some 3)) 91,⟨some 23,none,.alloc 6 83 [i6 0,i6 0,.nl],[]⟩,MV 22 90,ST 3 23 92]).seq ((C.ops [MV 94 3,MV 95 22,O1 96 (.load (some 3)) 23,ON 97
 (.call 160 true) [.t 94,.t 95,.t 96],MV 93 97,O1 98 (.ext 0) 93,O1 99 (.ext 1) 93,MV 24 98,MV 25 99]).seq ((C.ops [⟨some 26,none,.alloc 7 22 [.nl],[]⟩]).seq (((C.ops [MV
 100 3,MV 101 24,MV 102 25,ON 103 (.slc 7 true true) [.t 100,.t 101,.t 102],O1 104 .len 103,MC 105 (i6 0)]).seq (C.block 4 ((C.ops [BI 106 .lss 105 104]).seq ((C.cond (.t
 106) C.skip (C.exit 4)).seq ((C.block 5 ((C.ops [O2 107 (.idxA 7) 103 105,O1 108 (.load (some 7)) 107,⟨some 28,none,.alloc 8 64 [.str [],i6 0,i6 0,i6 0,.bool false,.bool
 false,.str []],[]⟩,ST 7 28 108]).seq (C.ops [LD 109 26,O1 110 (.fldA 0) 28,LD 111 110,⟨some 112,none,.bslc 9 1 1 9 [.str []] [(0,1)],[.t 111]⟩,O2 113 (.app 10 1 9 16)
 109 112,ST 1 26 113]))).seq (C.ops [BC 114 .add 105 (i6 1),MV 105 114])))).loop)).seq ((C.ops [MV 115 5,O1 116 .len 115,MC 117 (i6 0)]).seq (C.block 6 ((C.ops [BI 118 .lss 117
 116]).seq ((C.cond (.t 118) C.skip (C.exit 6)).seq ((C.block 7 ((C.ops [MV 119 117,MV 29 119]).seq ((C.ops [MV 120 29,MV 121 24,MV 122 25,MV 123 6,MV 124 29,O2 125 (.idxA 1)
 123 124,LD 126 125,⟨some 127,none,.build [i6 0,i6 0,i6 0,.bool false,.nl,.nl] [(0,1),(1,1),(2,1),(3,1)],[.t 120,.t 121,.t 122,.t 126]⟩,⟨some 30,none,.alloc
 11 58 [i6 0,i6 0,i6 0,.bool false,.nl,.nl],[]⟩,ST 6 30 127]).seq (((C.wk.seq (C.ops [O1 128 (.load (some 3)) 23,MV 129 2,MV 130 22,O2 131 (.idxA 1) 129 130,LD 132 131,
 LD 133 26,MV 134 5,MV 135 29,ON 136 (.call 161 true) [.t 128,.t 132,.t 133,.t 134,.t 135]])).seq (C.block 8 (C.range (.t 136) [137] (C.ops [⟨some 31,none,.alloc 12 89
 [.nl,.nl],[]⟩,ST 2 31 137]) (C.block 9 ((C.ops [O1 139 (.fldA 1) 7,LD 140 139,LD 141 11,O1 142 (.fldA 1) 31,LD 143 142,ON 144 (.call 142 true) [.t 140,.t 141,.t 143],MV
 138 144,O1 145 (.ext 0) 138,O1 146 (.ext 1) 138,MV 32 145,MV 33 146]).seq (((C.ops [MV 147 33,BC 148 .neq 147 (.int .i64 (Int.ofNat 0))]).seq (C.cond (.t 148) ((C.ops [MV 149
 33,⟨none,none,.store 1,[.t 14,.c .nl]⟩,ST 1 15 149]).seq C.ret) C.skip)).seq (C.ops [O1 150 (.fldA 5) 30,LD 151 150,O1 152 (.fldA 0) 31,LD 153 152,MV 154 32,⟨some 155,
 none,.build [.nl,.nl] [(0,1),(1,1)],[.t 153,.t 154]⟩,⟨some 156,none,.bslc 13 2 1 85 [.nl,.nl] [(0,2)],[.t 155]⟩,O2 157 (.app 14 2 85 48) 151 156,O1 158 (.fldA 5) 30,
 ST 1 158 157]))))))).seq (((C.wk.seq (C.ops [O1 159 (.fldA 5) 30,LD 160 159,O1 161 .len 160,BC 162 .eql 161 (i6 0)])).seq (C.cond (.t 162) (C.exit 7) C.skip)).seq ((C.ops [O1
 163 (.fldA 2) 23,LD 164 163,O1 165 (.mkfn (Fn.func 162) 0) 26,O2 166 (.call 127 true) 164 165,MV 34 166]).seq (((C.ops [MV 167 6,MV 168 29,O2 169 (.idxA 1) 167 168,LD 170
 169,MV 171 170,MG 172 171 true 34,PC 173 171 true (.bin .geq) 172 (i6 0),PF 174 171 173]).seq (C.cond (.t 174) ((C.ops [O1 176 (.fldA 1) 7,LD 177 176,LD 178 11,O1 179 (.fldA
 2) 23,LD 180 179,MV 181 34,O2 182 (.idxA 2) 180 181,O1 183 (.fldA 1) 182,LD 184 183,ON 185 (.call 142 true) [.t 177,.t 178,.t 184],MV 175 185,O1 186 (.ext 0) 175,O1 187
 (.ext 1) 175,MV 35 186,MV 36 187]).seq (((C.ops [MV 188 36,BC 189 .neq 188 (.int .i64 (Int.ofNat 0))]).seq (C.cond (.t 189) ((C.ops [MV 190 36,⟨none,none,.store 1,[.t 14,.c
 .nl]⟩,ST 1 15 190]).seq C.ret) C.skip)).seq (C.ops [MV 191 35,O1 192 (.fldA 4) 30,ST 1 192 191]))) C.skip)).seq (C.ops [MV 193 21,O1 194 (.load (some 6)) 30,⟨some 195,none,
 .bslc 15 6 1 58 [i6 0,i6 0,i6 0,.bool false,.nl,.nl] [(0,6)],[.t 194]⟩,O2 196 (.app 16 6 58 80) 193 195,MV 21 196])))))))).seq (C.ops [BC 197 .add 117 (i6 1),MV 117
 197])))).loop))))))).seq (C.ops [BC 198 .add 88 (i6 1),MV 88 198])))).loop)).seq ((C.ops [MV 199 21,ST 1 14 199,⟨none,none,.store 1,[.t 15,.c (i6 0)]⟩]).seq
 C.ret)))))))))
theorem qis:qE Tryz.prog 96 200 17 [RV.cell 14 none,RV.cell 15 none] qsX:=fi Tryz.f96 [7,11,14,15,20,21,23,26,28,112,113,30,31,156,157,195,196] qt5 [32,38]
end
section
open Go Go.Proofs AF HY LN
namespace RC
def flG{α:Type}(p:Nat→Bool)(g:Nat→α):Nat→List α
 |0=> []
 |i+1=>flG p g i++if p i=true then [g i] else []
theorem qxS{α:Type}{p:Nat→Bool}{g:Nat→α}{i:Nat}(hp:p i=true): ∀ {n:Nat},i<n→ ∃h:(flG p g i).length<(flG p g n).length,(flG p g n)[(flG p g i).length]=g i:=by
 intro n
 induction n with
 |zero=>intro h;exact absurd h (nnz _)
 |succ n ih=>
  intro hi
  by_cases e:i=n
  ·subst e;have e1:flG p g (i+1)=flG p g i++ [g i]:=by
    show flG p g i++(if p i=true then [g i] else [])=_;rw[ipo hp]
   refine⟨by rw[e1];simp,?_⟩;simp only[e1];rw[List.getElem_append_right (nlr _)];simp
  ·obtain⟨h1,h2⟩:=ih (by omega);have e1:flG p g (n+1)=flG p g n++(if p n=true then [g n] else []):=rfl;refine⟨by rw[e1,List.length_append];omega,?_⟩;simp only[e1];rw[List.getElem_append_left h1];exact h2
theorem qxU{α:Type}(p:Nat→Bool)(g:Nat→α): ∀n,(flG p g n).length≤n:=by
 intro n
 induction n with
 |zero=>exact nlr _
 |succ n ih=>
  show (flG p g n++if p n=true then [g n] else []).length≤_;rw[List.length_append];split
  ·simp only[List.length_cons,List.length_nil];omega
  ·simp only[List.length_nil];omega
theorem qlr{α β:Type}(p:Nat→Bool)(g:Nat→α)(k:Nat→β): ∀n,(flG p g n).length=(flG p k n).length:=by
 intro n
 induction n with
 |zero=>rfl
 |succ n ih=>
  show (flG p g n++if p n=true then [g n] else []).length=(flG p k n++if p n=true then [k n] else []).length;rw[List.length_append,List.length_append,ih];split<;>rfl
def vtB(rds:List Rd)(cls own lay:List Str)(y:Int)(r:Nat):Bool:=decide (lyR lay (cls.getD r [])=y)&& !decide ((rds.getD r default).words=own)
def vtX(rds:List Rd)(cls own lay:List Str)(y:Int)(n:Nat):List (List AV):=flG (vtB rds cls own lay y) (fun r=> [.agg (rdC (rds.getD r default))]) n
theorem qzU(a b:List Str)(h:List AObj)(h1:a.length≤1000000000)(h2:b.length≤1000000000):ACalls Tryz.prog 139 [strs a,strs b] h (.bool (decide (a=b))) h:=by
 have c:=quW a b.length (fun j=>b.getD j []) h h1 h2;have e:decide (a.length=b.length∧ ∀i,i<a.length→a.getD i []=b.getD i [])=decide (a=b):=decide_eq_decide.2 (jd ([]:Str)).symm;rw[e]at c;exact c
theorem qEm(u:Un)(cls own lay:List Str)(y:Int)(h:List AObj):
  ACalls Tryz.prog 161 [.agg (unC u),strs cls,strs own,strs lay,.int .i64 y] h (.fn (.func 215) [] [.ip (unC u),.ip [strs lay],.ip [strs cls],.ip [.int .i64 y],.ip [strs own]]) h:=by
 refine acO qya ?_;simp (disch:=omega) only[qwE,unC,go_sem]
 repeat' first
  |(apply qb;exact rvk;simp only[go_sem];exact qj)
theorem itV(u:Un)(cls own lay:List Str)(y:Int)(hr:u.rds.length≤1000000000)(hc:cls.length=u.rds.length)(hw: ∀j,(u.rds.getD j default).words.length≤1000000000)(ho:own.length≤1000000000)(hl:lay.length≤1000000000)(hs: ∀i,(lay.getD i []).length≤100000000):
  qv1 Tryz.prog 215 [.ip (unC u),.ip [strs lay],.ip [strs cls],.ip [.int .i64 y],.ip [strs own]] (vtX u.rds cls own lay y u.rds.length):=by
 intro h ts LI S E hS hE body start hts;refine acQ qyr ?_;simp (disch:=omega) only[qwS,unC,jc,go_sem]
 repeat' first
  |with_reducible apply aiA
 all_goals try exact clz
 obtain⟨p,hp⟩: ∃p,p=vtB u.rds cls own lay y:=⟨_,rfl⟩
 obtain⟨g,hg⟩: ∃g:Nat→List AV,g=fun r=> [.agg (rdC (u.rds.getD r default))]:=⟨_,rfl⟩
 have hX:vtX u.rds cls own lay y u.rds.length=flG p g u.rds.length:=by rw[hp,hg];rfl
 refine qp (T:=fun i:Nat×List AObj×AObj=>qQ 45 [(0,.yld h.length),(2,.ip [strs lay]),(3,.ip [strs cls]),(4,.ip [.int .i64 y]),(5,.ip [strs own]),(12,jc u.rds),(13,.int .i64 u.rds.length),(14,.int .i64 i.1)])
  (H:=fun i=>i.2.1++ [.lp .ready ts LI]++ [i.2.2])
  (inv:=fun i=>i.1≤u.rds.length∧S (flG p g i.1).length i.2.1∧qH [i.2.2] 0=true) (m:=fun i=>u.rds.length-i.1) (0,h,.emp 0) ⟨nzl _,start,rfl⟩ (Wk.temps ?_) ?_
 ·(simp only[jc,strs,go_sem,qi,qe,qa,qh];try (repeat' first|(with_reducible apply aiA)|(apply qg;omega)|(apply qf;rfl)|exact qj))
 rintro⟨i,hh,O⟩ ⟨i1,i2,i3⟩ K hK;simp only at i1 i2 i3 hK;obtain⟨hlen,hlow⟩:=hS _ _ i2;have hb:(h++ [AObj.lp LS.ready ts LI]).length=(hh++ [AObj.lp LS.ready ts LI]).length:=by simp[hlen]
 rw[hb];have i3': ∀m,qH (O::m) 0=true:=fun _=>i3
 by_cases hi:i<u.rds.length
 ·have q0:((i:Int)<u.rds.length)=True:=eqt (by omega);have qc:((i:Int)<cls.length)=True:=eqt (by omega);have hst:flG p g (i+1)=flG p g i++if p i=true then [g i] else []:=rfl
  have hpi:p i=(decide (lyR lay (cls.getD i [])=y)&& !decide ((u.rds.getD i default).words=own)):=by rw[hp];rfl
  have c27:=fun h=>lyP lay (cls.getD i []) h hl hs
  have c139:=fun h=>qzU (u.rds.getD i default).words own h (hw i) ho
  have hgi:g i= [.agg (rdC (u.rds.getD i default))]:=by rw[hg]
  have hat:=fun hpp=>qxS (p:=p) (g:=g) (i:=i) hpp hi
  obtain⟨r,hr⟩: ∃r,r=u.rds.getD i default:=⟨_,rfl⟩
  have er:=hr.symm;obtain⟨c,hcx⟩: ∃c,c=cls.getD i []:=⟨_,rfl⟩
  have ec:=hcx.symm;simp only[er,ec]at hpi c27 c139 hgi;obtain⟨z,hz⟩: ∃z,z=lyR lay c:=⟨_,rfl⟩
  obtain⟨ze,hze⟩: ∃ze,ze=lyE lay:=⟨_,rfl⟩
  rw[←hz]at hpi;simp only[←hz,←hze]at c27;obtain⟨b,hbx⟩: ∃b,b=decide (r.words=own):=⟨_,rfl⟩
  rw[←hbx]at hpi;simp only[←hbx]at c139;unfold strs at c27 c139
  by_cases gz:z=y
  ·have q1:(z=y)=True:=eqt gz;rw[dqt gz,Bool.true_and]at hpi;cases b with
   |false=>
    rw[Bool.not_false]at hpi;rw[hpi,ipo rfl]at hst;obtain⟨hdl,hxx⟩:=hat hpi;rw[hgi]at hxx;have hdl':(flG p g i).length<(vtX u.rds cls own lay y u.rds.length).length:=by rw[hX];exact hdl
    have hxx':(vtX u.rds cls own lay y u.rds.length)[(flG p g i).length]= [.agg (rdC r)]:=by simp only[hX];exact hxx
    have hb':=fun O'=>body (flG p g i).length hh [O'] hdl' i2
    rw[hxx']at hb';have hlst:(flG p g (i+1)).length=(flG p g i).length+1:=by rw[hst];simp
    simp (disch:=omega) only[jc,strs,i3',q0,qc,er,ec,rdC,go_sem]
    repeat' first
     |((first|refine cA (c27 _) ?_ ?_|refine cG (fun e=>c139 _) ?_ ?_);exact flk;simp (disch:=omega) only[q1,go_sem])
     |with_reducible apply aiA
    all_goals try exact clz
    ·exact⟨.ready,ts,LI,by rw[List.append_assoc];exact kS hlen⟩
    ·rw[List.append_assoc];refine kM.mono ?_ (hb' _);rintro v h' ⟨hh',⟨rfl,hn,rfl⟩|⟨st,rfl,hs',rfl⟩⟩
     ·simp (disch:=omega) only[go_sem];refine hK _ _ (i+1,hh',.mem (qr (some O)+1) 89 (rdC r)) ⟨hi,by simp only;rw[hlst];exact hn,rfl⟩ (by simp only;omega) ?_;simp only[List.append_assoc];refine Wk.temps ?_
      (simp only[jc,strs,go_sem,qi,qe,qa,qh];try (repeat' first|(with_reducible apply aiA)|(apply qg;omega)|(apply qf;rfl)|exact qj))
     ·simp (disch:=omega) only[go_sem];obtain⟨r1,r2⟩:=(hE _ _ hs').ret (L:=LI) st hts;have eO: ∀O',hh'++AObj.lp st ts LI:: [O']=(hh'++ [AObj.lp st ts LI])++ [O']:=fun _=>by simp
      rw[eO];exact qtU trivial r1 r2 ⟨_,.inr ⟨st,hs',rfl⟩⟩ (qj)
   |true=>
    rw[Bool.not_true]at hpi;rw[hpi,ine (by simp),List.append_nil]at hst;simp (disch:=omega) only[jc,strs,i3',q0,qc,er,ec,rdC,go_sem]
    repeat' first
     |((first|refine cA (c27 _) ?_ ?_|refine cG (fun e=>c139 _) ?_ ?_);exact flk;simp (disch:=omega) only[q1,go_sem])
     |with_reducible apply aiA
    all_goals try exact clz
    refine hK _ _ (i+1,hh,.mem (qr (some O)+1) 89 (rdC r)) ⟨hi,by simp only;rw[hst];exact i2,rfl⟩ (by simp only;omega) ?_;simp only;refine Wk.temps ?_
    (simp only[jc,strs,go_sem,qi,qe,qa,qh];try (repeat' first|(with_reducible apply aiA)|(apply qg;omega)|(apply qf;rfl)|exact qj))
  ·have q1:(z=y)=False:=eqf gz;rw[dqf gz,Bool.false_and]at hpi;rw[hpi,ine (by simp),List.append_nil]at hst;simp (disch:=omega) only[jc,strs,i3',q0,qc,er,ec,rdC,go_sem]
   repeat' first
    |(refine qk ( .bool false) ?_;simp (disch:=omega) only[go_sem])
    |(refine cA (c27 _) flk ?_;simp (disch:=omega) only[q1,go_sem])
    |with_reducible apply aiA
   all_goals try exact clz
   refine hK _ _ (i+1,hh,.mem (qr (some O)+1) 89 (rdC r)) ⟨hi,by simp only;rw[hst];exact i2,rfl⟩ (by simp only;omega) ?_;simp only;refine Wk.temps ?_
   (simp only[jc,strs,go_sem,qi,qe,qa,qh];try (repeat' first|(with_reducible apply aiA)|(apply qg;omega)|(apply qf;rfl)|exact qj))
 ·have e:i=u.rds.length:=by omega
  subst e;have q0:((u.rds.length:Int)<u.rds.length)=False:=eqf (by omega);simp (disch:=omega) only[jc,i3',q0,go_sem];obtain⟨r1,r2⟩:=(hS _ _ i2).ret (L:=LI) .ready hts;exact qpr trivial r1 r2 ⟨hh,.inl ⟨by rw[hX];exact i2,rfl⟩⟩ (qj)
theorem qe1{names:List Str}{gs:List Gr}(h:qlH names gs=false)(hs:sgE names gs=0):names.length≤8∧gs.length≤8:=by
 have ho:=qda hs;have h1:=ho.n32;have h2:=ho.g16;unfold qlH at h;simp only[Bool.or_eq_false_iff,Bool.and_eq_false_iff,decide_eq_false_iff_not]at h;omega
theorem qrR{names:List Str}{gs:List Gr}(h:qlH names gs=false):Szs names gs:=by
 obtain⟨h1,h2,h3,h4⟩:=qtY h;exact⟨by omega,by omega,fun i=>by have:=h3 i;omega,fun i=>by have:=(h4 i).1;omega,fun i=>by have:=(h4 i).2;omega⟩
theorem qxT{α β:Type}{p:Nat→Bool}{g:Nat→α}{k:Nat→β}: ∀ {n i:Nat} (hi:i<(flG p g n).length),∃r,r<n∧p r=true∧(flG p g n)[i]=g r∧(flG p k n)[i]? =some (k r):=by
 intro n
 induction n with
 |zero=>intro i hi;exact absurd hi (nnz _)
 |succ n ih=>
  intro i hi;have e1:flG p g (n+1)=flG p g n++(if p n=true then [g n] else []):=rfl;have e2:flG p k (n+1)=flG p k n++(if p n=true then [k n] else []):=rfl;have el:=qlr p g k n
  by_cases hl:i<(flG p g n).length
  ·obtain⟨r,r1,r2,r3,r4⟩:=ih hl;refine⟨r,by omega,r2,?_,?_⟩
   ·simp only[e1];rw[List.getElem_append_left hl];exact r3
   ·rw[e2,List.getElem?_append_left (by omega)];exact r4
  ·cases hp:p n with
   |false=>
    rw[e1,hp,ine (by simp),List.append_nil]at hi;exact absurd hi hl
   |true=>
    have hi2:i=(flG p g n).length:=by
     rw[e1,hp,ipo rfl,List.length_append,List.length_singleton]at hi;omega
    refine⟨n,by omega,hp,?_,?_⟩
    ·simp only[e1,hp,if_true];rw[List.getElem_append_right (by omega)];simp[hi2]
    ·rw[e2,hp,ipo rfl,List.getElem?_append_right (by omega)];simp[hi2,el]
theorem qAh{a:Ap}(hl:lyE a.lay=0)(k y:Nat)(n:Nat):vrG a k y n=flG (vtB (a.l.getD k default).rds (a.cls.getD k []) (qfJ a k) a.lay y) (fun r=>(⟨((a.l.getD k default).rds.getD r default).words,shR a.x.sig a.gs ((a.l.getD k default).rds.getD r default).src⟩:Va)) n:=by
 induction n with
 |zero=>rfl
 |succ n ih=>
  unfold vrG flG;rw[ih];congr 1;unfold vtB lyR;rw[ipo hl]
  by_cases h1:lyN a.lay ((a.cls.getD k []).getD n [])=y
  ·by_cases h2:((a.l.getD k default).rds.getD n default).words=qfJ a k
   ·rw[ine (fun h=>h.2 h2),dqt h1,dqt h2,ine (by simp)]
   ·rw[ipo ⟨h1,h2⟩,dqt h1,dqf h2,ipo (by simp)]
  ·rw[ine (fun h=>h1 h.1),dqf h1,ine (by simp)]
def qdS(L:List Va):List AV:=L.flatMap vaC
theorem qhJ(L:List Va):(qdS L).length=L.length*2:=by
 induction L with
 |nil=>rfl
 |cons a L ih=>show (vaC a++qdS L).length=_;rw[List.length_append,ih];simp[vaC];omega
theorem qq6(A B:List Va):qdS (A++B)=qdS A++qdS B:=by simp[qdS]
theorem qq7{L:List Va}: ∀ {i:Nat},i<L.length→((qdS L).drop (i*2)).take 2=vaC (L.getD i default):=by
 induction L with
 |nil=>intro i h;exact absurd h (nnz _)
 |cons a L ih=>
  intro i h;cases i with
  |zero=>rfl
  |succ i=>
   have e:(i+1)*2=i*2+1+1:=by omega
   rw[e];show ((strs a.words::strs a.sigla::qdS L).drop (i*2+1+1)).take 2=_;rw[List.drop_succ_cons,List.drop_succ_cons];exact ih (by simpa using h)
theorem qqE{v n:Nat}{L:List Va}{fz:Nat→Bool}{h:List AObj}{d:Nat}(hn:n=L.length):VLe (qeC (some (zP v 85 (qdS L))) v 2 0 n (rei fz h (d+1))) (zM L):=by
 subst hn
 by_cases h0:L= []
 ·subst h0;show VLe (qeC (some (.emp v)) v 2 0 0 _) _;rw[slOf_emp,ipo rfl];exact jX
 ·have e0:zP v 85 (qdS L)= .mem v 85 (qdS L):=jH (fun e=>h0 (by
   cases L with
   |nil=>rfl
   |cons a L=>cases e))
  rw[e0,slOf_mem,ipo ⟨rfl,by rw[qhJ];omega⟩];refine VLe.sl_eq rfl (fun i hi=> ?_);simp only[Nat.zero_add];rw[qq7 hi];rfl
theorem qm7{v n:Nat}{L:List En}{fz:Nat→Bool}{h:List AObj}{d:Nat}(hn:n=L.length):VLe (qeC (some (zP v 58 (kh L))) v 6 0 n (rei fz h (d+1))) (jl L):=by
 by_cases h0:L= []
 ·subst h0;subst hn;show VLe (qeC (some (.emp v)) v 6 0 0 _) _;rw[slOf_emp,ipo rfl];exact jX
 ·have e0:zP v 58 (kh L)= .mem v 58 (kh L):=jH (fun e=>h0 (by
   cases L with
   |nil=>rfl
   |cons a L=>cases e))
  rw[e0];exact qqC hn
theorem qDz(r:Rd)(own:List Str)(h:List AObj)(h1:r.words.length≤1000000000)(h2:own.length≤1000000000):ACalls Tryz.prog 162 [.agg (rdC r),.ip [strs own]] h (.bool (decide (r.words=own))) h:=by
 have c1:=fun h=>qzU r.words own h h1 h2
 unfold strs at c1;refine acO qyb ?_;simp (disch:=omega) only[qwF,rdC,strs,go_sem]
 repeat' first
  |(refine cA (c1 _) flk ?_;simp (disch:=omega) only[go_sem])
  |(apply qb;exact rvk;simp only[go_sem];exact qj)
  |with_reducible apply aiA
 all_goals try exact clz
theorem qBR(L:List Rd)(own:List Str)(k v:Nat)(h:List AObj)(hk:getO k h=some (.mem v 22 [strs own]))(hl:L.length≤1000000000)(hw: ∀j,(L.getD j default).words.length≤1000000000)(ho:own.length≤1000000000):
  ACalls Tryz.prog 127 [jc L,.fn (.func 162) [] [.op k v 0]] h (.int .i64 (qam (fun r=>decide ((L.getD r default).words=own)) L.length 0)) h:=by
 have hc:=qU hk;unfold jc;refine qaO qrv L.length (fun j=>rdC (L.getD j default)) (fun j=> .agg (rdC (L.getD j default))) _ [] [.op k v 0] _ h (fun i _=>⟨rfl,by simp[zZ,rdC],rfl,rfl,rfl⟩) (fun i _=> ?_) (by omega);refine ACalls.borrow ?_ rfl;have e:([AV.agg (rdC (L.getD i default))]++ [AV.op k v 0]).map (rei (fun _=>true) h 8)= [.agg (rdC (L.getD i default)),.ip [strs own]]:=by
  simp only[List.cons_append,List.nil_append,List.map_cons,List.map_nil,rei_op,if_true,hc,ipOf_some,List.drop_zero,rei_agg];rfl
 rw[List.nil_append,e];exact qDz _ own _ (hw i) ho
theorem spK{a:Ap}(h:qoi a.x a.l a.b){k:Nat}(hk:k<a.l.length):spF a.b k (a.l.getD k default).frm=(frK a k:Int)∧spT a.b k (a.l.getD k default).frm=(toK a k:Int):=by
 obtain⟨F,G,hFG,hG,hb,hq,e1,e2⟩:=qhE h hk;have f1:frK a k=F:=e1;have f2:toK a k=G:=by
  unfold toK;rw[f1,e2];omega
 rw[f1,f2];have hi:=qt4 hG hq;unfold spF spT qz8 qz9
 by_cases hlt:F<G
 ·rw[ipo hlt]at hi;have hk1:qfS (inU a.b k) a.b.length F=G:=qkv hFG hG (fun j h1 h2=>(hq j (by omega)).2 ⟨h1,h2⟩) fun h3=>by
   cases e:inU a.b k G with
   |false=>rfl
   |true=>exact absurd ((hq G h3).1 e).2 (Nat.lt_irrefl _)
  have hbe:qv5 (inU a.b k) a.b.length F=false:=by
   unfold qv5;rw[hk1];refine ql.2 fun i hi=> ?_
   by_cases g:G≤i
   ·cases e:inU a.b k i with
    |false=>rw[Bool.and_false]
    |true=>have:=((hq i hi).1 e).2;omega
   ·rw[dqf g,Bool.false_and]
  have hE:qnl (inU a.b k) a.b.length=0:=by
   unfold qnl;rw[hi,ine (by omega),Int.toNat_natCast,hbe,ine (by simp)]
  rw[hE,ipo rfl,ipo rfl,ipo rfl,ipo rfl,hi,Int.toNat_natCast,hk1];exact⟨rfl,rfl⟩
 ·rw[ine hlt]at hi;have hE:qnl (inU a.b k) a.b.length=6:=by
   unfold qnl;rw[hi];rfl
  rw[hE,ine (by decide),ine (by decide),e1];exact⟨rfl,by omega⟩
theorem qnC{t:List Str}{f d:Nat}(h:f+d<t.length):qa7 t f (f+(d+1))=qa7 t f (f+d)++ [t.getD (f+d) []]:=by
 unfold qa7;rw[show f+(d+1)-f=d+1 by omega,show f+d-f=d by omega,List.take_add_one];congr 1;rw[List.getElem?_drop,gdqA,qY h];rfl
structure ES where
 i:Nat
 v:Nat
 O6:AObj
 O7:AObj
 O8:AObj
 O9:AObj
 e10:Nat
 O11:AObj
 O12:AObj
 O13:AObj
 e14:Nat
 O15:AObj
theorem qhK(L:List Va)(n:Nat): ∀c∈qdS L,jb n c=true:=by
 intro c hc;unfold qdS at hc;obtain⟨x,_,hx⟩:=List.mem_flatMap.1 hc;simp only[vaC,List.mem_cons,List.not_mem_nil,or_false]at hx;rcases hx with rfl|rfl<;>rfl
theorem qlk(a:Ap)(k y:Nat):(enU a k++enY a k y).length≤k*a.lay.length+y:=by
 have h1: ∀k n,(enY a k n).length≤n:=by
  intro k n
  induction n with
  |zero=>exact nlr _
  |succ n ih=>
   show (enY a k n++if vrK a k n= [] then [] else [enK a k n]).length≤_;rw[List.length_append];split
   ·simp only[List.length_nil];omega
   ·simp only[List.length_cons,List.length_nil];omega
 have h2: ∀n,(enU a n).length≤n*a.lay.length:=by
  intro n
  induction n with
  |zero=>exact nzl _
  |succ n ih=>
   show (enU a n++enY a n a.lay.length).length≤_;rw[List.length_append,Nat.add_mul,Nat.one_mul]
   have:=h1 n a.lay.length
   omega
 rw[List.length_append]
 have:=h1 k y
 have:=h2 k
 omega
structure EY where
 y:Nat
 v:Nat
 O11:AObj
 O12:AObj
 O13:AObj
 e14:Nat
 O15:AObj
theorem qCV(a:Ap)(h:List AObj)(hz:qsh a)(hp:qai SG h):
  ACalls Tryz.prog 96 [.agg (coC a.x),qO a.l,jO a.cls,zc a.b,qL a.gs,strs a.lay,km a.pos] h (.tup [jl (enR a),.int .i64 (enE a)]) h:=by
 have hsz:=qrR hz.g42;have z1:=hz.l12;have z2:=hz.b14;have z3:=hz.y18;have z4:=hz.p20;have z5:=hz.c12;have c38:=fun l'=>pvP a.x a.l a.b (h++l') hz.co hz.un (by omega) (fun i=>by have:=hz.bt i;omega) (hp.app l')
 have c122:=fun h=>sgP a.x.sig a.gs h hsz
 have c27:=fun h=>lyP a.lay [] h (by omega) (fun i=>by have:=hz.yl i;omega)
 have nl0:VLe AV.nl (jl []):=jX;obtain⟨R,hR⟩: ∃R,R=enR a:=⟨_,rfl⟩
 obtain⟨E,hE⟩: ∃E,E=enE a:=⟨_,rfl⟩
 rw[←hR,←hE];unfold enR at hR;rw[←hE]at hR;unfold enE at hE;unfold coC qO zc strs at c38;unfold strs at c122 c27
 by_cases g1:pvE a.x a.l a.b=0
 case neg=>
  have k1:(pvE a.x a.l a.b=0)=False:=eqf g1;rw[ipo g1]at hE;rw[hE,ine g1]at hR;rw[hR,hE];refine acO qis ?_;simp (disch:=omega) only[qsX,coC,qO,jO,strs,km,zc,go_sem]
  repeat' first
   |(refine cA (c38 _) flk ?_;simp (disch:=omega) only[k1,go_sem])
   |(apply qb;exact rvk;simp only[go_sem])
  exact zA ⟨nl0,qj,trivial⟩
 rw[ine (fun hc=>hc g1)]at hE;rw[g1]at c38
 by_cases g2:sgE a.x.sig a.gs=0
 case neg=>
  have k2:(sgE a.x.sig a.gs=0)=False:=eqf g2;rw[ipo g2]at hE;rw[hE,ine (by decide)]at hR;rw[hR,hE];refine acO qis ?_;simp (disch:=omega) only[qsX,coC,qO,jO,strs,km,zc,go_sem]
  repeat' first
   |((first|refine cA (c38 _) ?_ ?_|refine cA (c122 _) ?_ ?_);exact flk;simp (disch:=omega) only[k2,go_sem])
   |(apply qb;exact rvk;simp only[go_sem])
   |with_reducible apply aiA
  all_goals try exact clz
  exact zA ⟨nl0,qj,trivial⟩
 rw[ine (fun hc=>hc g2)]at hE;rw[g2]at c122
 by_cases g3:lyE a.lay=0
 case neg=>
  have k3:(lyE a.lay=0)=False:=eqf g3;rw[ipo g3]at hE;rw[hE,ine g3]at hR;rw[hR,hE];refine acO qis ?_;simp (disch:=omega) only[qsX,coC,qO,jO,strs,km,zc,go_sem]
  repeat' first
   |((first|refine cA (c38 _) ?_ ?_|refine cA (c122 _) ?_ ?_|refine cA (c27 _) ?_ ?_);exact flk;simp (disch:=omega) only[k3,go_sem])
   |(apply qb;exact rvk;simp only[go_sem])
   |with_reducible apply aiA
  all_goals try exact clz
  exact zA ⟨nl0,qj,trivial⟩
 rw[ine (fun hc=>hc g3)]at hE;rw[g3]at c27
 by_cases g4:a.pos.length=a.lay.length
 case neg=>
  have k4:((a.pos.length:Int)=a.lay.length)=False:=eqf (by omega);rw[ipo (.inl g4)]at hE;rw[hE,ine (by decide)]at hR;rw[hR,hE];refine acO qis ?_;simp (disch:=omega) only[qsX,coC,qO,jO,strs,km,zc,go_sem]
  repeat' first
   |((first|refine cA (c38 _) ?_ ?_|refine cA (c122 _) ?_ ?_|refine cA (c27 _) ?_ ?_);exact flk;simp (disch:=omega) only[k4,go_sem])
   |(apply qb;exact rvk;simp only[go_sem])
   |with_reducible apply aiA
  all_goals try exact clz
  exact zA ⟨nl0,qj,trivial⟩
 have k4:((a.pos.length:Int)=a.lay.length)=True:=eqt (by omega)
 by_cases g5:a.cls.length=a.l.length
 case neg=>
  have k5:((a.cls.length:Int)=a.l.length)=False:=eqf (by omega);rw[ipo (.inr g5)]at hE;rw[hE,ine (by decide)]at hR;rw[hR,hE];refine acO qis ?_;simp (disch:=omega) only[qsX,coC,qO,jO,strs,km,zc,go_sem]
  repeat' first
   |((first|refine cA (c38 _) ?_ ?_|refine cA (c122 _) ?_ ?_|refine cA (c27 _) ?_ ?_);exact flk;simp (disch:=omega) only[k4,k5,go_sem])
   |(apply qb;exact rvk;simp only[go_sem])
   |with_reducible apply aiA
  all_goals try exact clz
  exact zA ⟨nl0,qj,trivial⟩
 have k5:((a.cls.length:Int)=a.l.length)=True:=eqt (by omega);rw[ine (by rintro (h|h)<;>contradiction)]at hE;refine acO qis ?_;simp (disch:=omega) only[qsX,coC,qO,jO,strs,km,zc,go_sem]
 repeat' first
  |((first|refine cA (c38 _) ?_ ?_|refine cA (c122 _) ?_ ?_|refine cA (c27 _) ?_ ?_);exact flk;simp (disch:=omega) only[k4,k5,go_sem])
  |with_reducible apply aiA
 all_goals try exact clz
 have vv:(∀j,j<a.l.length→(a.cls.getD j []).length=(a.l.getD j default).rds.length)→E=0:=fun hx=>by
  rw[hE,ql.2 (fun j hj=>by rw[dqt (hx j hj)];rfl),ine (by simp)]
 refine qp (T:=fun i:Nat×AObj=>qQ 200 [(1,qO a.l),(2,jO a.cls),(3,zc a.b),(5,strs a.lay),(6,km a.pos),(7,.op h.length 1 0),(11,.op (h.length+1) 1 0),(14,.op (h.length+2) 1 0),(15,.op (h.length+3) 1 0),(69,qO a.l),(70,.int .i64 a.l.length),(71,.int .i64 i.1)])
  (H:=fun i=>h++ [.mem 1 26 (coC a.x),.mem 1 44 [qL a.gs],.mem 1 49 [.nl],.mem 1 35 [.int .i64 0],i.2,.emp 0,.emp 0,.emp 0,.emp 0,.emp 0,.emp 0,.emp 0,.emp 0,.emp 0,.emp 0,.emp 0,.emp 0])
  (inv:=fun i=>i.1≤a.l.length∧qH [i.2] 0=true∧ ∀j,j<i.1→(a.cls.getD j []).length=(a.l.getD j default).rds.length) (m:=fun i=>a.l.length-i.1) (0,.emp 0) ⟨nzl _,rfl,fun j hj=>absurd hj (nnz j)⟩ (Wk.temps ?_) ?_
 ·(simp only[qO,jO,zc,strs,km,go_sem,qi,qe,qa,qh];try (repeat' first|(with_reducible apply aiA)|(apply qg;omega)|(apply qf;rfl)|exact qj))
 rintro⟨i,O4⟩ ⟨i1,i2,i3⟩ K hK;simp only at i1 i2 i3 hK;have i2': ∀m,qH (O4::m) 0=true:=fun _=>i2
 by_cases hi:i<a.l.length
 ·have k6:((i:Int)<a.l.length)=True:=eqt (by omega);have k7:((i:Int)<a.cls.length)=True:=eqt (by omega);have hbad: ¬(a.cls.getD i []).length=(a.l.getD i default).rds.length→E=9:=fun hx=>by
   rw[hE,qy.2 ⟨i,hi,by rw[dqf hx];rfl⟩,ipo rfl]
  have hS:(a.cls.getD i []).length=(a.l.getD i default).rds.length→ ∀j,j<i+1→(a.cls.getD j []).length=(a.l.getD j default).rds.length:=fun hx j hj=>by
   by_cases e:j=i
   ·subst e;exact hx
   ·exact i3 j (by omega)
  obtain⟨u,hu⟩: ∃u,u=a.l.getD i default:=⟨_,rfl⟩
  have eu:=hu.symm;obtain⟨c,hc⟩: ∃c,c=a.cls.getD i []:=⟨_,rfl⟩
  have ec:=hc.symm;rw[eu,ec]at hbad hS
  by_cases g6:c.length=u.rds.length
  ·have k8:((c.length:Int)=u.rds.length)=True:=eqt (by omega);simp (disch:=omega) only[qO,jO,strs,unC,jc,k6,k7,k8,eu,ec,i2',go_sem]
   repeat' first
    |with_reducible apply aiA
   all_goals try exact clz
   refine hK _ _ (i+1,.mem (qr (some O4)+1) 83 (unC u)) ⟨hi,rfl,hS g6⟩ (by simp only;omega) (Wk.temps ?_)
   (simp only[qO,jO,zc,strs,km,go_sem,qi,qe,qa,qh];try (repeat' first|(with_reducible apply aiA)|(apply qg;omega)|(apply qf;rfl)|exact qj))
  ·have k8:((c.length:Int)=u.rds.length)=False:=eqf (by omega);have hE9:=hbad g6;rw[hE9,ine (by decide)]at hR;rw[hR,hE9];simp (disch:=omega) only[qO,jO,strs,unC,jc,k6,k7,k8,eu,ec,i2',go_sem]
   repeat' first
    |(apply qb;exact rvk;simp only[go_sem])
    |with_reducible apply aiA
   all_goals try exact clz
   exact zA ⟨nl0,qj,trivial⟩
 have k6:((i:Int)<a.l.length)=False:=eqf (by omega);have hE0:E=0:=vv fun j hj=>i3 j (by omega)
 have hcl: ∀j,j<a.l.length→(a.cls.getD j []).length=(a.l.getD j default).rds.length:=fun j hj=>i3 j (by omega)
 rw[hE0,ipo rfl]at hR;rw[hR,hE0];clear hK hE hE0 vv hR i3;have hok:=qsa g1;simp (disch:=omega) only[qO,k6,go_sem];refine qp (T:=fun s:ES=>qQ 200 [(2,jO a.cls),(3,zc a.b),(5,strs a.lay),(6,km a.pos),(7,.op h.length 1 0),(11,.op (h.length+1) 1 0),(14,.op (h.length+2) 1 0),(15,.op (h.length+3) 1 0),(21,.osl (h.length+5) s.v 6 0 (enU a s.i).length),(86,qO a.l),(87,.int .i64 a.l.length),(88,.int .i64 s.i)])
  (H:=fun s=>h++ [.mem 1 26 (coC a.x),.mem 1 44 [qL a.gs],.mem 1 49 [.nl],.mem 1 35 [.int .i64 0],O4,zP s.v 58 (kh (enU a s.i)),s.O6,s.O7,s.O8,s.O9,.emp s.e10,s.O11,s.O12,s.O13,.emp s.e14,s.O15,.emp 0])
  (inv:=fun s=>s.i≤a.l.length∧qH [s.O6] 0=true∧qH [s.O7] 0=true∧qH [s.O8] 0=true∧qH [s.O9] 0=true∧qH [s.O11] 0=true∧qH [s.O12] 0=true∧qH [s.O13] 0=true∧qH [s.O15] 0=true) (m:=fun s=>a.l.length-s.i) ⟨0,1,.emp 0,.emp 0,.emp 0,.emp 0,0,.emp 0,.emp 0,.emp 0,0,.emp 0⟩ ⟨nzl _,rfl,rfl,rfl,rfl,rfl,rfl,rfl,rfl⟩ (Wk.temps ?_) ?_
 ·(simp only[qO,jO,zc,strs,km,enU,List.length_nil,go_sem,qi,qe,qa,qh];try (repeat' first|(with_reducible apply aiA)|(apply qg;omega)|(apply qf;rfl)|exact qj))
 rintro⟨k,v,O6,O7,O8,O9,e10,O11,O12,O13,e14,O15⟩ ⟨s1,p6,p7,p8,p9,p11,p12,p13,p15⟩ K hK;simp only at s1 p6 p7 p8 p9 p11 p12 p13 p15 hK;have p6': ∀m,qH (O6::m) 0=true:=fun _=>p6
 have p7': ∀m,qH (O7::m) 0=true:=fun _=>p7
 have p8': ∀m,qH (O8::m) 0=true:=fun _=>p8
 have p9': ∀m,qH (O9::m) 0=true:=fun _=>p9
 have p11': ∀m,qH (O11::m) 0=true:=fun _=>p11
 have p12': ∀m,qH (O12::m) 0=true:=fun _=>p12
 have p13': ∀m,qH (O13::m) 0=true:=fun _=>p13
 have p15': ∀m,qH (O15::m) 0=true:=fun _=>p15
 by_cases hk:k<a.l.length
 case neg=>
  have k7:((k:Int)<a.l.length)=False:=eqf (by omega);obtain rfl:k=a.l.length:=by omega
  simp (disch:=omega) only[qO,k7,go_sem]
  repeat' first
   |(apply qb;exact rvk;simp only[go_sem])
  exact zA ⟨qm7 rfl,qj,trivial⟩
 have k7:((k:Int)<a.l.length)=True:=eqt (by omega);have k8:((k:Int)<a.cls.length)=True:=eqt (by omega);have hcu:=hcl k hk;obtain⟨e1,e2⟩:=spK hok hk;obtain⟨f1,f2,_,_⟩:=qaX hok hk;have hown:=qmq hok hk;have c160:=fun h=>qCc a.b (k:Int) (a.l.getD k default) h (by omega)
 rw[e1,e2]at c160;obtain⟨u,hu⟩: ∃u,u=a.l.getD k default:=⟨_,rfl⟩
 have eu:=hu.symm;obtain⟨F,hF⟩: ∃F,F=frK a k:=⟨_,rfl⟩
 obtain⟨G,hG⟩: ∃G,G=toK a k:=⟨_,rfl⟩
 rw[←hF,←hG]at hown f1;rw[←hG]at f2;simp only[←hF,←hG,eu]at c160;unfold zc unC at c160;have q1:((F:Int)≤G)=True:=eqt (by omega);have q2:((G:Int)≤a.b.length)=True:=eqt (by omega);have q3:(0≤(F:Int))=True:=eqt (by omega);simp (disch:=omega) only[qO,zc,unC,wdC,k7,eu,p6',go_sem]
 repeat' first
  |(refine cA (c160 _) flk ?_;simp (disch:=omega) only[q1,q2,q3,p7',Int.toNat_natCast,go_sem])
  |with_reducible apply aiA
 all_goals try exact clz
 obtain⟨v6,hv6⟩: ∃v6,v6=qr (some O6)+1:=⟨_,rfl⟩
 obtain⟨v7,hv7⟩: ∃v7,v7=qr (some O7)+1:=⟨_,rfl⟩
 simp only[←hv6,←hv7];have t0:qa7 (ki a.b) F (F+0)= []:=by unfold qa7;simp
 have tl:(ki a.b).length=a.b.length:=by unfold ki;simp
 refine qp (T:=fun s:Nat×Nat×AObj×AObj=>qQ 200 [(2,jO a.cls),(3,zc a.b),(5,strs a.lay),(6,km a.pos),(7,.op h.length 1 0),(11,.op (h.length+1) 1 0),(14,.op (h.length+2) 1 0),(15,.op (h.length+3) 1 0),(22,.int .i64 (k:Int)),(23,.op (h.length+6) v6 0),(24,.int .i64 (F:Int)),(25,.int .i64 (G:Int)),(26,.op (h.length+7) v7 0),(86,qO a.l),(87,.int .i64 a.l.length),(88,.int .i64 (k:Int)),(21,.osl (h.length+5) v 6 0 (enU a k).length),(103,.sl (G-F) fun j=>wdC (a.b.getD (F+j) default)),(104,.int .i64 ((G-F:Nat):Int)),(105,.int .i64 s.1)])
  (H:=fun s=>h++ [.mem 1 26 (coC a.x),.mem 1 44 [qL a.gs],.mem 1 49 [.nl],.mem 1 35 [.int .i64 0],O4,zP v 58 (kh (enU a k)),.mem v6 83 (unC u),.mem v7 22 [.osl (h.length+10) s.2.1 1 0 s.1],s.2.2.1,s.2.2.2,zP s.2.1 9 (jn (qa7 (ki a.b) F (F+s.1))),O11,O12,O13,.emp e14,O15,.emp 0])
  (inv:=fun s=>s.1≤G-F∧qH [s.2.2.1] 0=true∧qH [s.2.2.2] 0=true) (m:=fun s=>G-F-s.1) (0,e10,O8,O9) ⟨nzl _,p8,p9⟩
  (Wk.trans (Wk.ownNil (j:=h.length+7) (i:=0) (k:=h.length+10) (v:=v7) (ty:=22) (cs:= [.nl]) (ve:=e10) (sz:=1) ?c1 rfl ?c2) ?c3) ?c4
 case c1=>simp only[go_sem]
 case c2=>simp only[go_sem]
 case c3=>
  have eo:zP e10 9 (jn (qa7 (ki a.b) F (F+0)))= .emp e10:=by rw[t0];rfl
  have eo2:zP e10 9 (jn (qa7 (ki a.b) F F))= .emp e10:=eo;simp only[go_sem,eo2,List.set_cons_zero,unC];refine Wk.temps ?_
  (simp only[qO,jO,zc,wdC,strs,km,unC,go_sem,qi,qe,qa,qh];try (repeat' first|(with_reducible apply aiA)|(apply qg;omega)|(apply qf;rfl)|exact qj))
 case c4=>
 rintro⟨j,w,O8,O9⟩ ⟨j1,p8,p9⟩ K2 hK2;simp only at j1 p8 p9 hK2;have p8': ∀m,qH (O8::m) 0=true:=fun _=>p8
 have p9': ∀m,qH (O9::m) 0=true:=fun _=>p9
 have hsl:=qet (t:=ki a.b) (f:=F) (g:=F+j) (by omega) (by omega)
 by_cases hj:j<G-F
 ·have r1:((j:Int)<((G-F:Nat):Int))=True:=eqt (by omega);have hsn:=qnC (t:=ki a.b) (f:=F) (d:=j) (by omega);have htx:(ki a.b).getD (F+j) []=(a.b.getD (F+j) default).text:=by
   unfold ki;rw[gdqA,List.getElem?_map,gdqA,qY (show F+j<a.b.length by omega)];rfl
  obtain⟨wd,hwd⟩: ∃wd,wd=a.b.getD (F+j) default:=⟨_,rfl⟩
  have ewd:=hwd.symm;rw[htx,ewd]at hsn;obtain⟨S,hS⟩: ∃S,S=qa7 (ki a.b) F (F+j):=⟨_,rfl⟩
  have eS:=hS.symm;rw[eS]at hsn hsl;have hsl:S.length=j:=by omega
  have eC:=jR S;have eTk:List.take j (jn S)=jn S:=ltl (by omega);rw[hsl]at eC;simp (disch:=omega) only[wdC,r1,ewd,eS,p8',p9',eC,eTk,Nat.mul_one,go_sem]
  repeat' first
   |with_reducible apply aiA
  all_goals try exact clz
  have eA:jn S++ [AV.str wd.text]=jn (qa7 (ki a.b) F (F+(j+1))):=by rw[hsn,qcA];rfl
  try rw[eA]
  refine hK2 _ _ (j+1,w+1,.mem (qr (some O8)+1) 64 (wdC wd),.mem (qr (some O9)+1) 9 [.str wd.text]) ⟨hj,rfl,rfl⟩ (by simp only;omega) ?_;simp only[wdC];refine Wk.temps ?_
  (simp only[qO,jO,zc,wdC,strs,km,unC,go_sem,qi,qe,qa,qh];try (repeat' first|(with_reducible apply aiA)|(apply qg;omega)|(apply qf;rfl)|exact qj))
 ·have r1:((j:Int)<((G-F:Nat):Int))=False:=eqf (by omega);obtain rfl:j=G-F:=by omega
  have hG2:F+(G-F)=G:=by omega
  rw[hG2,←hown];rw[hG2,←hown]at hsl;clear hK2;simp (disch:=omega) only[strs,r1,go_sem];obtain⟨W,hW⟩: ∃W,W=qfJ a k:=⟨_,rfl⟩
  have eW:=hW.symm;rw[eW]at hsl ⊢;have hWl:W.length=G-F:=by omega
  have hWb:W.length≤1000000000:=by omega
  have hy0:enU a k++enY a k 0=enU a k:=by show enU a k++ []=_;simp
  refine qp (T:=fun s:EY=>qQ 200 [(2,jO a.cls),(3,zc a.b),(5,strs a.lay),(6,km a.pos),(7,.op h.length 1 0),(11,.op (h.length+1) 1 0),(14,.op (h.length+2) 1 0),(15,.op (h.length+3) 1 0),(22,.int .i64 (k:Int)),(23,.op (h.length+6) v6 0),(24,.int .i64 (F:Int)),(25,.int .i64 (G:Int)),(26,.op (h.length+7) v7 0),(86,qO a.l),(87,.int .i64 a.l.length),(88,.int .i64 (k:Int)),(21,.osl (h.length+5) s.v 6 0 (enU a k++enY a k s.y).length),(116,.int .i64 a.lay.length),(117,.int .i64 s.y)])
   (H:=fun s=>h++ [.mem 1 26 (coC a.x),.mem 1 44 [qL a.gs],.mem 1 49 [.nl],.mem 1 35 [.int .i64 0],O4,zP s.v 58 (kh (enU a k++enY a k s.y)),.mem v6 83 (unC u),.mem v7 22 [strs W],O8,O9,.emp (w+1),s.O11,s.O12,s.O13,.emp s.e14,s.O15,.emp 0])
   (inv:=fun s=>s.y≤a.lay.length∧qH [s.O11] 0=true∧qH [s.O12] 0=true∧qH [s.O13] 0=true∧qH [s.O15] 0=true) (m:=fun s=>a.lay.length-s.y) ⟨0,v,O11,O12,O13,e14,O15⟩ ⟨nzl _,p11,p12,p13,p15⟩
   (Wk.trans (Wk.fzCell (j:=h.length+7) (k:=h.length+10) (i:=0) (v:=v7) (ty:=22) (cs:= [.osl (h.length+10) w 1 0 (G-F)]) (c:= .osl (h.length+10) w 1 0 (G-F)) (c':=strs W) ?d1 rfl ?d2 (by omega) ?d3) ?d4) ?d5
  case d1=>simp only[go_sem]
  case d2=>simp only[go_sem]
  case d3=>
   rw[qcs,getO_app];exact qcz (fun _=>rfl) hWl.symm
  case d4=>
   simp only[go_sem,hy0,List.set_cons_zero,unC];refine Wk.temps ?_
   (simp only[qO,jO,zc,wdC,strs,km,unC,go_sem,qi,qe,qa,qh];try (repeat' first|(with_reducible apply aiA)|(apply qg;omega)|(apply qf;rfl)|exact qj))
  case d5=>
  rintro⟨y,v,O11,O12,O13,e14,O15⟩ ⟨y1,p11,p12,p13,p15⟩ K3 hK3;simp only at y1 p11 p12 p13 p15 hK3;have p11': ∀m,qH (O11::m) 0=true:=fun _=>p11
  have p12': ∀m,qH (O12::m) 0=true:=fun _=>p12
  have p13': ∀m,qH (O13::m) 0=true:=fun _=>p13
  have p15': ∀m,qH (O15::m) 0=true:=fun _=>p15
  have hys:enY a k (y+1)=enY a k y++if vrK a k y= [] then [] else [enK a k y]:=rfl
  by_cases hy:y<a.lay.length
  case neg=>
   have r2:((y:Int)<a.lay.length)=False:=eqf (by omega);obtain rfl:y=a.lay.length:=by omega
   have hus:enU a k++enY a k a.lay.length=enU a (k+1):=rfl;rw[hus];simp (disch:=omega) only[strs,r2,go_sem];refine hK _ _ ⟨k+1,v,.mem v6 83 (unC u),.mem v7 22 [strs W],O8,O9,w+1,O11,O12,O13,e14,O15⟩ ⟨hk,rfl,rfl,p8,p9,p11,p12,p13,p15⟩ (by simp only;omega) ?_;simp only[unC];refine Wk.temps ?_
   (simp only[qO,jO,zc,wdC,strs,km,unC,go_sem,qi,qe,qa,qh];try (repeat' first|(with_reducible apply aiA)|(apply qg;omega)|(apply qf;rfl)|exact qj))
  have r2:((y:Int)<a.lay.length)=True:=eqt (by omega);have r3:((y:Int)<a.pos.length)=True:=eqt (by omega);obtain⟨pb,hpb⟩: ∃pb,pb=a.pos.getD y false:=⟨_,rfl⟩
  have epb:=hpb.symm;obtain⟨cl,hclx⟩: ∃cl,cl=a.cls.getD k []:=⟨_,rfl⟩
  have ecl:=hclx.symm;simp (disch:=omega) only[strs,km,r2,r3,epb,p11',go_sem]
  repeat' first
   |with_reducible apply aiA
  all_goals try exact clz
  obtain⟨v11,hv11⟩: ∃v11,v11=qr (some O11)+1:=⟨_,rfl⟩
  simp only[←hv11];refine⟨_,_,Wk.trans (Wk.cells (j:=h.length+11) (v:=v11) (ty:=58) (cs:= [.int .i64 (y:Int),.int .i64 (F:Int),.int .i64 (G:Int),.bool pb,.nl,.nl]) (cs':= [.int .i64 (y:Int),.int .i64 (F:Int),.int .i64 (G:Int),.bool pb,strs [],.nl]) ?m1 ?m2)
   (Wk.ownNil (j:=h.length+11) (i:=5) (k:=h.length+14) (v:=v11) (ty:=58) (cs:= [.int .i64 (y:Int),.int .i64 (F:Int),.int .i64 (G:Int),.bool pb,strs [],.nl]) (ve:=e14) (sz:=2) ?m3 rfl ?m4),?_⟩
  case m1=>simp only[go_sem]
  case m2=>exact⟨qj,qj,qj,qj,jX,qj,trivial⟩
  case m3=>simp only[go_sem]
  case m4=>simp only[go_sem]
  have c161:=fun h=>qEm u cl W a.lay (y:Int) h
  unfold unC strs at c161;have kc:((k:Int)<a.cls.length)=True:=k8;simp (disch:=omega) only[List.set_cons_succ,List.set_cons_zero,jO,strs,unC,k8,ecl,go_sem]
  repeat' first
   |(refine cA (c161 _) flk ?_;simp (disch:=omega) only[go_sem])
   |with_reducible apply aiA
  all_goals try exact clz
  have hmem:u∈a.l:=by rw[hu,gdqA,qY hk];exact List.getElem_mem hk
  have hur:=(qa8 hok.un).rg u hmem;have hri:qfK u.rds a.x.sig.length:=by rw[hur.2.2.2];exact qhv _ _ _
  have hsgl:=(qgX hok.co).sg;have hsr: ∀r,r<u.rds.length→(u.rds.getD r default).src.length≤32∧qes a.x.sig a.gs (u.rds.getD r default).src=0:=fun r hr=>by
   have h1:=hri.src (u.rds.getD r default) (by rw[gdqA,qY hr];exact List.getElem_mem hr);have h2:=qfQ (hi:=((a.x.sig.length:Nat):Int)) (lo:=0) h1.1 h1.2;refine⟨by omega,?_⟩;unfold qes;rw[ipo g2];exact qrZ h1.1 h1.2
  have h8:=qe1 hz.g42 g2;have zrl:=hz.un.rd k;have zwd:=hz.un.wd k;rw[eu]at zrl;simp only[eu]at zwd;have zcl:cl.length=u.rds.length:=by rw[←ecl,←eu];exact hcu
  have hV:=qAh g3 k y (a.l.getD k default).rds.length;rw[eu,ecl,eW]at hV;obtain⟨VL,hVL⟩: ∃VL,VL=vrK a k y:=⟨_,rfl⟩
  have hV:VL=flG (vtB u.rds cl W a.lay (y:Int)) (fun r=>(⟨(u.rds.getD r default).words,shR a.x.sig a.gs (u.rds.getD r default).src⟩:Va)) u.rds.length:=by
   rw[hVL,←hV];unfold vrK;rw[eu]
  have hxl:(vtX u.rds cl W a.lay (y:Int) u.rds.length).length=VL.length:=by rw[hV];exact qlr _ _ _ _
  have hVLn:VL.length≤u.rds.length:=by rw[hV];exact qxU _ _ _
  have hix:=fun i hi=>qxT (p:=vtB u.rds cl W a.lay (y:Int)) (g:=fun r=>([.agg (rdC (u.rds.getD r default))]:List AV)) (k:=fun r=>(⟨(u.rds.getD r default).words,shR a.x.sig a.gs (u.rds.getD r default).src⟩:Va)) (n:=u.rds.length) (i:=i) hi
  rw[←hV]at hix;refine qa1 (xs:=vtX u.rds cl W a.lay (y:Int) u.rds.length) (itV u cl W a.lay (y:Int) zrl zcl zwd hWb (by omega) (fun i=>by have:=hz.yl i;omega)) ?e0
   (S:=fun i hh=> ∃w2 Q12 Q13,qH [Q12] 0=true∧qH [Q13] 0=true∧(Q12=O12∨ ∀n,qan n Q12)∧(Q13=O13∨ ∀n,qan n Q13)∧hh=h++ [.mem 1 26 (coC a.x),.mem 1 44 [qL a.gs],.mem 1 49 [.nl],.mem 1 35 [.int .i64 0],O4,zP v 58 (kh (enU a k++enY a k y)),.mem v6 83 (unC u),.mem v7 22 [strs W],O8,O9,.emp (w+1),.mem v11 58 [.int .i64 (y:Int),.int .i64 (F:Int),.int .i64 (G:Int),.bool pb,strs [],.osl (h.length+14) w2 2 0 i],Q12,Q13,zP w2 85 (qdS (VL.take i)),O15,.emp 0])
   (E:=fun _ _=>False) ?e1 (fun _ _ h=>h.elim) ?e2 ?e3 ?e4 ?e5 (fun _ _ h=>h.elim)
  case e0=>
   intro x hx;unfold vtX at hx;obtain⟨i,hi,e⟩:=List.getElem_of_mem hx;obtain⟨r,_,_,r3,_⟩:=hix i hi;rw[←e,r3];rfl
  case e1=>
   rintro i hh ⟨w2,Q12,Q13,_,_,l12,l13,rfl⟩;refine LowI.app rfl (fun o ho=> ?_);simp only[List.mem_cons,List.not_mem_nil,or_false]at ho;have lft: ∀ {p q:Prop},p→p∨q:=fun h=> .inl h
   rcases ho with rfl|rfl|rfl|rfl|rfl|rfl|rfl|rfl|rfl|rfl|rfl|rfl|rfl|rfl|rfl|rfl|rfl
   case inr.inr.inr.inr.inr.inr.inr.inr.inr.inr.inr.inl=>
    right;constructor<;>(intro c hc;simp only[List.mem_cons,List.not_mem_nil,or_false]at hc;rcases hc with rfl|rfl|rfl|rfl|rfl|rfl<;>simp[jb,qec])
   case inr.inr.inr.inr.inr.inr.inr.inr.inr.inr.inr.inr.inl=>
    rcases l12 with rfl|l12
    ·left;simp only[List.mem_cons,true_or,or_true]
    ·right;exact⟨l12 _,l12 _⟩
   case inr.inr.inr.inr.inr.inr.inr.inr.inr.inr.inr.inr.inr.inl=>
    rcases l13 with rfl|l13
    ·left;simp only[List.mem_cons,true_or,or_true]
    ·right;exact⟨l13 _,l13 _⟩
   case inr.inr.inr.inr.inr.inr.inr.inr.inr.inr.inr.inr.inr.inr.inl=>
    right;exact⟨qaK (qhK _ _),qaK (qhK _ _)⟩
   all_goals
    left;simp only[List.mem_cons,unC,strs,true_or,or_true]
  case e2=>exact⟨e14,O12,O13,p12,p13,.inl rfl,.inl rfl,rfl⟩
  case e3=>
   have lw: ∀n,jb n (zc a.b)=true:=fun _=>rfl
   have lu: ∀n,jb n (qO a.l)=true:=fun _=>rfl
   have lr: ∀n,jb n (jc u.rds)=true:=fun _=>rfl
   simp[jb,jb.lowVs,lw,lu,lr]
   try omega
  case e4=>
   rintro i hh tl LI TS hi ⟨w2,Q12,Q13,q12,q13,l12,l13,rfl⟩ hlen K4 K5 hK4 hN hR' hX;obtain⟨r,ra,rb,rc,rd4⟩:=hix i hi;have rc':(vtX u.rds cl W a.lay (y:Int) u.rds.length)[i]= [.agg (rdC (u.rds.getD r default))]:=rc;rw[rc'];rw[hxl]at hi;have q12': ∀m,qH (Q12::m) 0=true:=fun _=>q12
   have q13': ∀m,qH (Q13::m) 0=true:=fun _=>q13
   obtain⟨sl,sE⟩:=hsr r ra;have zw:=zwd r;obtain⟨rd,hrd⟩: ∃rd,rd=u.rds.getD r default:=⟨_,rfl⟩
   rw[←hrd]at rd4 sl sE zw ⊢;have c142:=fun h=>qB7 a.x.sig a.gs rd.src h hsz (by omega) (fun _=>h8)
   simp only[sE]at c142;obtain⟨sh,hsh⟩: ∃sh,sh=shR a.x.sig a.gs rd.src:=⟨_,rfl⟩
   rw[←hsh]at rd4;simp only[←hsh]at c142;have hTk:VL.take (i+1)=VL.take i++ [⟨rd.words,sh⟩]:=by rw[List.take_add_one,rd4];rfl
   have hTl:(VL.take i).length=i:=by rw[List.length_take];omega
   have eVl:=qhJ (VL.take i);rw[hTl]at eVl;have eVk:List.take (i*2) (qdS (VL.take i))=qdS (VL.take i):=ltl (by omega);have eVn:qdS (VL.take (i+1))=qdS (VL.take i)++ [strs rd.words,strs sh]:=by rw[hTk,qq6];rfl
   unfold strs qn at c142;simp only[qco];simp (disch:=omega) only[List.append_assoc,coC,rdC,q12',go_sem];refine hK4 _ _ (h++ [.mem 1 26 (coC a.x),.mem 1 44 [qL a.gs],.mem 1 49 [.nl],.mem 1 35 [.int .i64 0],O4,zP v 58 (kh (enU a k++enY a k y)),.mem v6 83 (unC u),.mem v7 22 [strs W],O8,O9,.emp (w+1),.mem v11 58 [.int .i64 (y:Int),.int .i64 (F:Int),.int .i64 (G:Int),.bool pb,strs [],.osl (h.length+14) w2 2 0 i],.mem (qr (some Q12)+1) 89 (rdC rd),Q13,zP w2 85 (qdS (VL.take i)),O15,.emp 0]) (by simp[coC,rdC]) (by simp) ?_;simp (disch:=omega) only[List.append_assoc,coC,rdC,qn,strs,go_sem]
   repeat' first
    |(refine cA (c142 _) flk ?_;simp (disch:=omega) only[q13',eVl,eVk,go_sem])
    |with_reducible first|intro _|apply aiA
   all_goals try exact clz
   have hl1: ∀n,qan n (.mem (qr (some Q12)+1) 89 (rdC rd)):=fun n c hc=>by
    simp only[rdC,List.mem_cons,List.not_mem_nil,or_false]at hc;rcases hc with rfl|rfl<;>rfl
   have hl2: ∀n,qan n (.mem (qr (some Q13)+1) 85 [strs rd.words,strs sh]):=fun n c hc=>by
    simp only[List.mem_cons,List.not_mem_nil,or_false]at hc;rcases hc with rfl|rfl<;>rfl
   refine hN _ _ (h++ [.mem 1 26 (coC a.x),.mem 1 44 [qL a.gs],.mem 1 49 [.nl],.mem 1 35 [.int .i64 0],O4,zP v 58 (kh (enU a k++enY a k y)),.mem v6 83 (unC u),.mem v7 22 [strs W],O8,O9,.emp (w+1),.mem v11 58 [.int .i64 (y:Int),.int .i64 (F:Int),.int .i64 (G:Int),.bool pb,strs [],.osl (h.length+14) (w2+1) 2 0 (i+1)],.mem (qr (some Q12)+1) 89 (rdC rd),.mem (qr (some Q13)+1) 85 [strs rd.words,strs sh],zP (w2+1) 85 (qdS (VL.take (i+1))),O15,.emp 0]) (by rw[eVn,List.append_assoc];rfl) (by simp) ⟨w2+1,_,_,rfl,rfl,.inr hl1,.inr hl2,rfl⟩
  case e5=>
   rintro hh ⟨w2,Q12,Q13,q12,q13,l12,l13,rfl⟩;have q12': ∀m,qH (Q12::m) 0=true:=fun _=>q12
   have q13': ∀m,qH (Q13::m) 0=true:=fun _=>q13
   rw[hxl,List.take_length];simp (disch:=omega) only[go_sem];refine⟨_,_,Wk.fzCell (j:=h.length+11) (k:=h.length+14) (i:=5) (v:=v11) (ty:=58) (cs:= [.int .i64 (y:Int),.int .i64 (F:Int),.int .i64 (G:Int),.bool pb,strs [],.osl (h.length+14) w2 2 0 VL.length]) (c:= .osl (h.length+14) w2 2 0 VL.length) (c':=zM VL) ?n1 rfl ?n2 (by omega) ?n3,?_⟩
   case n1=>simp only[go_sem]
   case n2=>simp only[go_sem]
   case n3=>
    rw[qcs,getO_app];exact qqE rfl
   have zv: ∀g,valL g .len [zM VL]= .int .i64 VL.length:=fun _=>rfl
   have zw: ∀g,okL g .len [zM VL]=True:=fun _=>eqt trivial
   by_cases hV0:VL.length=0
   ·have n0:((VL.length:Int)=0)=True:=eqt (by omega);simp (disch:=omega) only[List.set_cons_succ,List.set_cons_zero,zv,zw,n0,go_sem]
    repeat' first
     |with_reducible apply aiA
    all_goals try exact clz
    have hnil:VL= []:=List.eq_nil_of_length_eq_zero hV0;rw[←hVL,hnil,ipo rfl,List.append_nil]at hys;refine hK3 _ _ ⟨y+1,v,.mem v11 58 [.int .i64 (y:Int),.int .i64 (F:Int),.int .i64 (G:Int),.bool pb,strs [],zM VL],Q12,Q13,w2+1,O15⟩ ⟨hy,rfl,q12,q13,p15⟩ (by simp only;omega) ?_;simp only[hys];refine Wk.temps ?_
    (simp only[qO,jO,zc,wdC,strs,km,unC,go_sem,qi,qe,qa,qh];try (repeat' first|(with_reducible apply aiA)|(apply qg;omega)|(apply qf;rfl)|exact qj))
   have n0:((VL.length:Int)=0)=False:=eqf (by omega);have hne: ¬VL= []:=fun e=>hV0 (by rw[e];rfl)
   rw[←hVL,ine hne]at hys;have eBA:baK a k=qam (fun r=>decide ((u.rds.getD r default).words=W)) u.rds.length 0:=by unfold baK;rw[eu,eW]
   have hBc:=zh (fun r=>decide ((u.rds.getD r default).words=W)) u.rds.length;have hsu:suK a k y=if pb=true∧0≤baK a k then shR a.x.sig a.gs (u.rds.getD (baK a k).toNat default).src else []:=by unfold suK;rw[epb,eu]
   have hen:enC (enK a k y)= [.int .i64 (y:Int),.int .i64 (F:Int),.int .i64 (G:Int),.bool pb,strs (suK a k y),zM VL]:=by
    unfold enK enC;rw[epb,←hF,←hG,←hVL]
   have hMl:=qlk a k y;obtain⟨M,hM⟩: ∃M,M=enU a k++enY a k y:=⟨_,rfl⟩
   have hMn:enU a k++enY a k (y+1)=M++ [enK a k y]:=by rw[hys,hM,List.append_assoc]
   rw[←hM]at hMl ⊢;have hMb:M.length≤1000:=by
    have h1:k*a.lay.length≤12*18:=Nat.mul_le_mul (by omega) z3;omega
   have eMl:=qaH M;have eMk:List.take (M.length*6) (kh M)=kh M:=ltl (by omega);have eMn:kh (enU a k++enY a k (y+1))=kh M++enC (enK a k y):=by rw[hMn,qd5,qg1]
   have eMq:(enU a k++enY a k (y+1)).length=M.length+1:=by rw[hMn,List.length_append];rfl
   have c127:=fun H hk=>qBR u.rds W (h.length+7) v7 H hk (by omega) zwd hWb
   rw[←eBA]at c127 hBc;obtain⟨bk,hbk⟩: ∃bk,bk=baK a k:=⟨_,rfl⟩
   rw[←hbk]at hsu hBc;simp only[←hbk]at c127;obtain⟨su,hsux⟩: ∃su,su=suK a k y:=⟨_,rfl⟩
   rw[←hsux]at hsu hen;simp (disch:=omega) only[List.set_cons_succ,List.set_cons_zero,zv,zw,n0,unC,go_sem]
   repeat' first
    |with_reducible apply aiA
   all_goals try exact clz
   refine cA (c127 _ ?ka) (by exact flk) ?_
   case ka=>simp only[go_sem]
   cases pb with
   |false=>
    rw[ine (by simp)]at hsu;rw[hsu]at hen;simp (disch:=omega) only[r3,epb,p15',eMl,eMk,go_sem]
    repeat' first
     |with_reducible first|intro _|apply aiA
    all_goals try exact clz
    rw[hen]at eMn
    try rw[←eMn]
    refine hK3 _ _ ⟨y+1,v+1,.mem v11 58 [.int .i64 (y:Int),.int .i64 (F:Int),.int .i64 (G:Int),.bool false,strs [],zM VL],Q12,Q13,w2+1,.mem (qr (some O15)+1) 58 [.int .i64 (y:Int),.int .i64 (F:Int),.int .i64 (G:Int),.bool false,strs [],zM VL]⟩ ⟨hy,rfl,q12,q13,rfl⟩ (by simp only;omega) ?_;simp only[eMq];refine Wk.temps ?_
    (simp only[qO,jO,zc,wdC,strs,km,unC,go_sem,qi,qe,qa,qh];try (repeat' first|(with_reducible apply aiA)|(apply qg;omega)|(apply qf;rfl)|exact qj))
   |true=>
   by_cases hb0:0≤bk
   case neg=>
    have n1:(0≤bk)=False:=eqf hb0;rw[ine (fun hc=>hb0 hc.2)]at hsu;rw[hsu]at hen;simp (disch:=omega) only[r3,epb,p15',eMl,eMk,n1,go_sem]
    repeat' first
     |with_reducible apply aiA
    all_goals try exact clz
    rw[hen]at eMn
    try rw[←eMn]
    refine hK3 _ _ ⟨y+1,v+1,.mem v11 58 [.int .i64 (y:Int),.int .i64 (F:Int),.int .i64 (G:Int),.bool true,strs [],zM VL],Q12,Q13,w2+1,.mem (qr (some O15)+1) 58 [.int .i64 (y:Int),.int .i64 (F:Int),.int .i64 (G:Int),.bool true,strs [],zM VL]⟩ ⟨hy,rfl,q12,q13,rfl⟩ (by simp only;omega) ?_;simp only[eMq];refine Wk.temps ?_
    (simp only[qO,jO,zc,wdC,strs,km,unC,go_sem,qi,qe,qa,qh];try (repeat' first|(with_reducible apply aiA)|(apply qg;omega)|(apply qf;rfl)|exact qj))
   case pos=>
    have n1:(0≤bk)=True:=eqt hb0;rw[ipo ⟨rfl,hb0⟩]at hsu;obtain⟨r,hr1,hr2⟩: ∃r:Nat,bk=(r:Int)∧r<u.rds.length:=by
     rcases hBc with⟨i,h1,_,_,h4⟩|⟨_,h2⟩
     ·exact⟨i,h4,h1⟩
     ·omega
    rw[hr1]at n1;rw[hr1,Int.toNat_natCast]at hsu;simp only[hr1];have n2:((r:Int)<u.rds.length)=True:=eqt (by omega);obtain⟨sl,sE⟩:=hsr r hr2;obtain⟨rd,hrd⟩: ∃rd,rd=u.rds.getD r default:=⟨_,rfl⟩
    have erd:=hrd.symm;rw[erd]at sl sE hsu;have c142:=fun h=>qB7 a.x.sig a.gs rd.src h hsz (by omega) (fun _=>h8)
    simp only[sE,←hsu]at c142;unfold strs qn at c142;simp (disch:=omega) only[r3,epb,n1,n2,coC,jc,rdC,qn,strs,erd,go_sem]
    repeat' first
     |(refine cA (c142 _) flk ?_;simp (disch:=omega) only[p15',eMl,eMk,List.set_cons_succ,List.set_cons_zero,go_sem])
     |(apply qb;exact rvk;simp only[go_sem])
     |with_reducible first|intro _|apply aiA
    all_goals try exact clz
    rw[hen]at eMn;unfold strs at eMn
    try rw[←eMn]
    refine hK3 _ _ ⟨y+1,v+1,.mem v11 58 [.int .i64 (y:Int),.int .i64 (F:Int),.int .i64 (G:Int),.bool true,strs su,zM VL],Q12,Q13,w2+1,.mem (qr (some O15)+1) 58 [.int .i64 (y:Int),.int .i64 (F:Int),.int .i64 (G:Int),.bool true,strs su,zM VL]⟩ ⟨hy,rfl,q12,q13,rfl⟩ (by simp only;omega) ?_;simp only[eMq];refine Wk.temps ?_
    (simp only[qO,jO,zc,wdC,strs,km,unC,go_sem,qi,qe,qa,qh];try (repeat' first|(with_reducible apply aiA)|(apply qg;omega)|(apply qf;rfl)|exact qj))
theorem qC6(e:En)(h:List AObj)(hs:e.sup.length≤1000000000)(hv:e.vars.length≤1000000000)(hw: ∀j,(e.vars.getD j default).words.length≤1000000000)(hg: ∀j,(e.vars.getD j default).sigla.length≤1000000000):
  ACalls Tryz.prog 30 [.agg (enC e),.agg (enC e)] h (.bool true) h:=by
 have c85:=fun h=>qCb e.sup e.sup h hs hs
 rw[dqt rfl]at c85;have zv1: ∀g,valL g .len [zM e.vars]= .int .i64 e.vars.length:=fun _=>rfl
 have zv2: ∀g,okL g .len [zM e.vars]=True:=fun _=>eqt trivial
 refine acO qBp ?_;simp (disch:=omega) only[qCH,enC,go_sem]
 repeat' first
  |(refine cG (fun e=>c85 _) flk ?_;simp (disch:=omega) only[zv1,zv2,go_sem])
  |with_reducible apply aiA
 all_goals try exact clz
 refine qp (T:=fun i:Nat=>qQ 86 [(2,.op h.length 1 0),(3,.op (h.length+1) 1 0),(5,.int .i64 i)])
  (H:=fun _=>h++ [.mem 1 58 [.int .i64 e.layer,.int .i64 e.frm,.int .i64 e.to,.bool e.pos,strs e.sup,zM e.vars],.mem 1 58 [.int .i64 e.layer,.int .i64 e.frm,.int .i64 e.to,.bool e.pos,strs e.sup,zM e.vars]])
  (inv:=fun i=>i≤e.vars.length) (m:=fun i=>e.vars.length-i) 0 (nzl _) (Wk.temps ?_) ?_
 ·(simp only[go_sem,qi,qe,qa,qh];try (repeat' first|(with_reducible apply aiA)|(apply qg;omega)|(apply qf;rfl)|exact qj))
 rintro i i1 K hK
 by_cases hi:i<e.vars.length
 ·have k1:((i:Int)<e.vars.length)=True:=eqt (by omega);have cw:=fun h=>qCb (e.vars.getD i default).words (e.vars.getD i default).words h (hw i) (hw i)
  have cg:=fun h=>qCb (e.vars.getD i default).sigla (e.vars.getD i default).sigla h (hg i) (hg i)
  rw[dqt rfl]at cw cg;obtain⟨x,hx⟩: ∃x,x=e.vars.getD i default:=⟨_,rfl⟩
  have ex:=hx.symm;simp only[ex]at cw cg;have zz:zM e.vars= .sl e.vars.length fun i=>vaC (e.vars.getD i default):=rfl
  simp (disch:=omega) only[zz,vaC,k1,ex,go_sem]
  repeat' first
   |((first|refine cA (cw _) ?_ ?_|refine cG (fun e=>cg _) ?_ ?_);exact flk;simp (disch:=omega) only[k1,ex,go_sem])
   |with_reducible apply aiA
  all_goals try exact clz
  refine hK _ _ (i+1) hi (by omega) (Wk.temps ?_)
  (simp only[go_sem,qi,qe,qa,qh];try (repeat' first|(with_reducible apply aiA)|(apply qg;omega)|(apply qf;rfl)|exact qj))
 ·have k1:((i:Int)<e.vars.length)=False:=eqf (by omega);simp (disch:=omega) only[k1,zv1,zv2,go_sem]
  repeat' first
   |(apply qb;exact rvk;simp only[go_sem];exact qj)
   |with_reducible apply aiA
  all_goals try exact clz
structure EqZ (l:List En):Prop where
 n:l.length≤1000000000
 s: ∀i,(l.getD i default).sup.length≤1000000000
 v: ∀i,(l.getD i default).vars.length≤1000000000
 w: ∀i j,((l.getD i default).vars.getD j default).words.length≤1000000000
 g: ∀i j,((l.getD i default).vars.getD j default).sigla.length≤1000000000
theorem qD7(l:List En)(h:List AObj)(hz:EqZ l):ACalls Tryz.prog 29 [jl l,jl l] h (.bool true) h:=by
 have c68:=fun i h=>qC6 (l.getD i default) h (hz.s i) (hz.v i) (hz.w i) (hz.g i)
 have hn:=hz.n;refine acO qBo ?_;simp (disch:=omega) only[qCG,jl,go_sem];refine qp (T:=fun i:Nat=>qQ 27 [(0,jl l),(1,jl l),(5,.int .i64 i)]) (H:=fun _=>h) (inv:=fun i=>i≤l.length) (m:=fun i=>l.length-i) 0 (nzl _) (Wk.temps ?_) ?_
 ·(simp only[jl,go_sem,qi,qe,qa,qh];try (repeat' first|(with_reducible apply aiA)|(apply qg;omega)|(apply qf;rfl)|exact qj))
 rintro i i1 K hK
 by_cases hi:i<l.length
 ·have k1:((i:Int)<l.length)=True:=eqt (by omega);have c68:=c68 i;obtain⟨x,hx⟩: ∃x,x=l.getD i default:=⟨_,rfl⟩
  have ex:=hx.symm;simp only[ex]at c68;unfold enC at c68;simp (disch:=omega) only[jl,enC,k1,ex,go_sem]
  repeat' first
   |(refine cA (c68 _) flk ?_;simp (disch:=omega) only[go_sem])
   |with_reducible apply aiA
  all_goals try exact clz
  refine hK _ _ (i+1) hi (by omega) (Wk.temps ?_)
  (simp only[jl,go_sem,qi,qe,qa,qh];try (repeat' first|(with_reducible apply aiA)|(apply qg;omega)|(apply qf;rfl)|exact qj))
 ·have k1:((i:Int)<l.length)=False:=eqf (by omega);simp (disch:=omega) only[jl,k1,go_sem]
  repeat' first
   |(apply qd;exact rvk;simp only[go_sem];exact qj)
theorem qgk(names:List Str)(gs:List Gr)(S:List Int):(shR names gs S).length≤200:=by
 unfold shR;split
 ·rw[List.length_map];unfold qwr;obtain⟨k,_,e⟩:=qky gs (jA S) (kA gs (jA S)) (2^(kA gs (jA S)).length-1);rw[e,qcx];have h1:=zk k.testBit 64;have h2:=zk (anN (jA S) (chN (usM gs (kA gs (jA S))) k)).testBit 64;unfold qjB;omega
 ·exact nzl _
theorem qtG{a:Ap}(hz:qsh a):(enR a).length≤216:=by
 unfold enR;split
 ·have h1:=qlk a a.l.length 0;have h2:a.l.length*a.lay.length≤12*18:=Nat.mul_le_mul hz.l12 hz.y18;have h3:enU a a.l.length++enY a a.l.length 0=enU a a.l.length:=by show _++ []=_;simp
  rw[h3]at h1;omega
 ·exact nzl _
structure EnZ (e:En):Prop where
 s:e.sup.length≤200
 v:e.vars.length≤1000000000
 w: ∀j,(e.vars.getD j default).words.length≤1000000000
 g: ∀j,(e.vars.getD j default).sigla.length≤200
theorem qxM{a:Ap}(hz:qsh a)(k y:Nat):EnZ (enK a k y):=by
 refine⟨?_,?_,?_,?_⟩
 ·show (suK a k y).length≤200;unfold suK;split
  ·exact qgk _ _ _
  ·exact nzl _
 ·show (vrK a k y).length≤_;rw[qew];unfold vrI;have h1:=List.length_filter_le (vrP a k y) (List.range (a.l.getD k default).rds.length);rw[List.length_range]at h1;exact Nat.le_trans h1 (hz.un.rd k)
 ·intro j;show ((vrK a k y).getD j default).words.length≤_
  by_cases hj:j<(vrK a k y).length
  ·obtain⟨r,_,e⟩:=jk hj;rw[e];exact hz.un.wd k r
  ·rw[gdqA,List.getElem?_eq_none (by omega)];exact nzl _
 ·intro j;show ((vrK a k y).getD j default).sigla.length≤_
  by_cases hj:j<(vrK a k y).length
  ·obtain⟨r,_,e⟩:=jk hj;rw[e];exact qgk _ _ _
  ·rw[gdqA,List.getElem?_eq_none (by omega)];exact nzl _
theorem qxN{a:Ap}(hz:qsh a)(i:Nat):EnZ ((enR a).getD i default):=by
 by_cases hi:i<(enR a).length
 ·have hm:=qbi hi
  by_cases hE:enE a=0
  ·obtain⟨k,_,y,_,_,e⟩:=(qbI hE).1 hm;rw[e];exact qxM hz k y
  ·unfold enR at hi;rw[ine hE]at hi;cases hi
 ·rw[gdqA,List.getElem?_eq_none (by omega)];exact⟨nzl _,nzl _,fun _=>nzl _,fun _=>nzl _⟩
deriving instance DecidableEq for Va
deriving instance DecidableEq for En
def tkS(s:Str):Tk:=⟨s,s,[],0,0,[]⟩
def qqu:Str:= [100,101,117,115]
def qAR:Str:= [101,115,116]
def qhC:Str:= [98,111,110,117,115]
def xCo:Co:=⟨[97],[[65],[66]],[[tkS qqu,tkS qAR,tkS qhC],[tkS qqu,tkS qhC]],[[0,0],[1,-1],[2,1]]⟩
def xUn:List Un:= [⟨1,2,[⟨[qAR],[0]⟩,⟨[],[1]⟩]⟩]
def xCl:List (List Str):= [[[98,97,115,101],[111,109,105,115,115,105,111,110]]]
def xBa:List Wd:= [⟨qqu,0,-1,-1,false,false,[]⟩,⟨qAR,1,0,-1,false,false,[]⟩,⟨qhC,2,-1,-1,false,false,[]⟩]
def xLa:List Str:= [[111,109,105,115,115,105,111,110]]
def xAp:Ap:=⟨xCo,xUn,xCl,xBa,[],xLa,[true]⟩
def xEn:List En:= [⟨0,1,2,true,[[65]],[⟨[],[[66]]⟩]⟩]
def xL3:List Str:= [[97,32,98],[99],[100]]
theorem qCA:enE xAp=0:=by decide+kernel
theorem qCB:enR xAp=xEn:=by decide+kernel
theorem qvZ:lyR xL3 [120]=2∧lyE xL3=0:=by decide+kernel
theorem qCC:lyR xL3 [98]=0:=by decide+kernel
end RC
end
section
namespace AF
open Go
end AF
end
section
open Go Go.Proofs AF
def qt7:List Nat:= [96]
def qCE:C:=
 ((C.ops [MC 0 (.bool false)]).seq ((C.ops [⟨some 10,none,.build [.str [],i6 0,i6 0,i6 0,.bool false,.bool false,.str []] [(0,1),(2,1),(3,1)],[.c (.str [100,101,117,
 115]),.c (i6 (-1)),.c (i6 (-1))]⟩,⟨some 11,none,.build [.str [],i6 0,i6 0,i6 0,.bool false,.bool false,.str []] [(0,1),(1,1),(3,1)],[.c (.str [101,115,116]),.c
 (i6 1),.c (i6 (-1))]⟩,⟨some 12,none,.build [.str [],i6 0,i6 0,i6 0,.bool false,.bool false,.str []] [(0,1),(1,1),(2,1),(3,1)],[.c (.str [98,111,110,117,115]),
 .c (i6 2),.c (i6 (-1)),.c (i6 (-1))]⟩,⟨some 13,none,.bslc 0 7 3 64 [.str [],i6 0,i6 0,i6 0,.bool false,.bool false,.str []] [(0,7),(7,7),(14,7)],[.t 10,.t 11,.t
 12]⟩,MV 1 13]).seq ((C.ops [⟨some 14,none,.bslc 1 1 1 9 [.str []] [(0,1)],[.c (.str [101,115,116])]⟩,⟨some 15,none,.bslc 2 1 1 3 [i6 0] [(0,1)],[.c (i6 0)]⟩,⟨some 16,
 none,.build [.nl,.nl] [(0,1),(1,1)],[.t 14,.t 15]⟩,⟨some 17,none,.bslc 3 1 1 3 [i6 0] [(0,1)],[.c (i6 1)]⟩,⟨some 18,none,.build [.nl,.nl] [(1,1)],[.t 17]⟩,⟨some
 19,none,.bslc 4 2 2 89 [.nl,.nl] [(0,2),(2,2)],[.t 16,.t 18]⟩,⟨some 20,none,.build [i6 0,i6 0,.nl] [(0,1),(1,1),(2,1)],[.c (i6 1),.c (i6 2),.t 19]⟩,⟨some 21,
 none,.bslc 5 3 1 83 [i6 0,i6 0,.nl] [(0,3)],[.t 20]⟩,MV 2 21]).seq ((C.ops [ON 23 (.call 97 true) [],MV 24 2,⟨some 25,none,.bslc 6 1 2 9 [.str []] [(0,1),(1,1)],[.c
 (.str [98,97,115,101]),.c (.str [111,109,105,115,115,105,111,110])]⟩,⟨some 26,none,.bslc 7 1 1 22 [.nl] [(0,1)],[.t 25]⟩,MV 27 1,⟨some 28,none,.bslc 8 1 1 9
 [.str []] [(0,1)],[.c (.str [111,109,105,115,115,105,111,110])]⟩,⟨some 29,none,.bslc 9 1 1 4 [.bool false] [(0,1)],[.c (.bool true)]⟩,ON 30 (.call 96 false) [.t 23,
 .t 24,.t 26,.t 27,.c .nl,.t 28,.t 29],MV 22 30,O1 31 (.ext 0) 22,O1 32 (.ext 1) 22,MV 3 31,MV 4 32]).seq ((C.ops [⟨some 33,none,.bslc 10 1 1 9 [.str []] [(0,1)],[.c
 (.str [65])]⟩,⟨some 34,none,.bslc 11 1 1 9 [.str []] [(0,1)],[.c (.str [66])]⟩,⟨some 35,none,.build [.nl,.nl] [(1,1)],[.t 34]⟩,⟨some 36,none,.bslc 12 2 1 85 [.nl,
 .nl] [(0,2)],[.t 35]⟩,⟨some 37,none,.build [i6 0,i6 0,i6 0,.bool false,.nl,.nl] [(1,1),(2,1),(3,1),(4,1),(5,1)],[.c (i6 1),.c (i6 2),.c (.bool true),.t 33,
 .t 36]⟩,⟨some 38,none,.bslc 13 6 1 58 [i6 0,i6 0,i6 0,.bool false,.nl,.nl] [(0,6)],[.t 37]⟩,MV 5 38]).seq ((C.ops [⟨some 40,none,.bslc 14 1 3 9 [.str []] [(0,1),(1,
 1),(2,1)],[.c (.str [97,32,98]),.c (.str [99]),.c (.str [100])]⟩,OC 41 (.call 27 true) 40 (.str [120]),MV 39 41,O1 42 (.ext 0) 39,O1 43 (.ext 1) 39,MV 6 42,MV 7
 43]).seq ((C.ops [⟨some 45,none,.bslc 15 1 3 9 [.str []] [(0,1),(1,1),(2,1)],[.c (.str [97,32,98]),.c (.str [99]),.c (.str [100])]⟩,OC 46 (.call 27 true) 45 (.str
 [98]),MV 44 46,O1 47 (.ext 0) 44,O1 48 (.ext 1) 44,MV 8 47,MV 9 48]).seq ((C.ops [MV 49 4,MV 50 7,MV 51 9,ON 52 (.mm true) [.t 49,.t 50,.t 51],BC 53 .eql 52 (i6 0),MV
 54 53,MG 55 54 true 3,MG 56 54 true 5,P2 57 54 true (.call 29 true) 55 56,PF 58 54 57,MV 59 58,MG 60 59 true 6,PC 61 59 true (.bin .eql) 60 (i6 2),PF 62 59 61,MV 63 62,MG
 64 63 true 8,PC 65 63 true (.bin .eql) 64 (i6 0),PF 66 63 65,MV 0 66]).seq
 C.ret))))))))
theorem qBm:qE Tryz.prog 24 67 16 [RV.tmp 0] qCE:=fi Tryz.f24 [13,14,15,17,19,21,25,26,28,29,33,34,36,38,40,45] qt7 []
end
section
open Go Go.Proofs AF HY LN
namespace RC
theorem il1{f g:Nat→List AV}(h:f 0=g 0):ILe (.sl 1 f) (.sl 1 g):=ILe.sl_eq fun i hi=>by
 obtain rfl:i=0:=by omega
 exact h
theorem il2{f g:Nat→List AV}(h0:f 0=g 0)(h1:f 1=g 1):ILe (.sl 2 f) (.sl 2 g):=ILe.sl_eq fun i hi=>by
 match i,hi with
 |0,_=>exact h0
 |1,_=>exact h1
 |n+2,hi=>exact absurd hi (by omega)
theorem il3{f g:Nat→List AV}(h0:f 0=g 0)(h1:f 1=g 1)(h2:f 2=g 2):ILe (.sl 3 f) (.sl 3 g):=ILe.sl_eq fun i hi=>by
 match i,hi with
 |0,_=>exact h0
 |1,_=>exact h1
 |2,_=>exact h2
 |n+3,hi=>exact absurd hi (by omega)
theorem im1{f g:Nat→List AV}(h:qah (f 0) (g 0)):ILe (.sl 1 f) (.sl 1 g):=ILe.sl fun i hi=>by
 obtain rfl:i=0:=by omega
 exact h
theorem im2{f g:Nat→List AV}(h0:qah (f 0) (g 0))(h1:qah (f 1) (g 1)):ILe (.sl 2 f) (.sl 2 g):=ILe.sl fun i hi=>by
 match i,hi with
 |0,_=>exact h0
 |1,_=>exact h1
 |n+2,hi=>exact absurd hi (by omega)
theorem vl1{f g:Nat→List AV}(h:qah (f 0) (g 0)):VLe (.sl 1 f) (.sl 1 g):=VLe.sl fun i hi=>by
 obtain rfl:i=0:=by omega
 exact h
theorem vl2{f g:Nat→List AV}(h0:qah (f 0) (g 0))(h1:qah (f 1) (g 1)):VLe (.sl 2 f) (.sl 2 g):=VLe.sl fun i hi=>by
 match i,hi with
 |0,_=>exact h0
 |1,_=>exact h1
 |n+2,hi=>exact absurd hi (by omega)
theorem vl3{f g:Nat→List AV}(h0:qah (f 0) (g 0))(h1:qah (f 1) (g 1))(h2:qah (f 2) (g 2)):VLe (.sl 3 f) (.sl 3 g):=VLe.sl fun i hi=>by
 match i,hi with
 |0,_=>exact h0
 |1,_=>exact h1
 |2,_=>exact h2
 |n+3,hi=>exact absurd hi (by omega)
theorem ie{a b:AV}(h:a=b):ILe a b:=by rw[h];exact ILe.refl _
theorem qCf(s:Str)(h:List AObj):ACalls Tryz.prog 163 [.str s] h (.agg (tkC (tkS s))) h:=by
 unfold tkS tkC;refine acO qyc ?_;simp (disch:=omega) only[qwG,go_sem]
 repeat' first
  |(apply qb;exact rvk;simp only[go_sem];exact qj)
theorem qvY:qoc xAp=false:=by decide+kernel
theorem qEu:qsh xAp:=qlI qvY
theorem qCa(h:List AObj):ACalls Tryz.prog 97 [] h (.agg (coC xCo)) h:=by
 have c1:=fun s h=>qCf s h
 unfold tkC tkS at c1;refine acO qBJ ?_;simp (disch:=omega) only[qCT,go_sem]
 repeat' first
  |((first|refine cA (c1 qqu _) ?_ ?_|refine cA (c1 qAR _) ?_ ?_|refine cA (c1 qhC _) ?_ ?_);exact flk;simp (disch:=omega) only[go_sem])
  |(apply qb;exact rvk;simp only[go_sem])
 refine VLe.agg ⟨qj,vl2 ⟨ie rfl,trivial⟩ ⟨ie rfl,trivial⟩,vl2 ⟨?a1,trivial⟩ ⟨?a2,trivial⟩,vl3 ⟨?a3,trivial⟩ ⟨?a4,trivial⟩ ⟨?a5,trivial⟩,trivial⟩
 case a1=>simp only[go_sem];exact il3 rfl rfl rfl
 case a2=>simp only[go_sem];exact il2 rfl rfl
 case a3=>simp only[go_sem];exact il2 rfl rfl
 case a4=>simp only[go_sem];exact il2 rfl rfl
 case a5=>simp only[go_sem];exact il2 rfl rfl
theorem qBV(a:Ap)(h:List AObj)(hz:qsh a)(hp:qai SG h):ACalls Tryz.prog 25 [.agg (apC a)] h (.tup [jl (enR a),.int .i64 (enE a)]) h:=by
 have c1:=fun l=>qCV a (h++l) hz (hp.app l)
 unfold coC at c1;refine acO qBn ?_;simp (disch:=omega) only[qCF,apC,go_sem]
 repeat' first
  |(refine cA (c1 _) flk ?_;simp (disch:=omega) only[go_sem])
  |(apply qb;exact rvk;simp only[go_sem];exact qj)
  |with_reducible apply aiA
 all_goals try exact clz
theorem qA0(h:List AObj)(hp:qai SG h):ACalls Tryz.prog 24 [] h (.bool true) h:=by
 have c1:=fun h=>qCa h
 refine acO qBm ?_;simp (disch:=omega) only[qCE,go_sem]
 repeat' first
  |(refine cA (c1 _) flk ?_;simp (disch:=omega) only[go_sem])
 have zm:valP (.mm true) [.int .i64 0,.int .i64 0,.int .i64 0]= .int .i64 0:=rfl;have zn:okP (.mm true) [.int .i64 0,.int .i64 0,.int .i64 0]=True:=eqt (by simp[okP,qcm]);have c2:=fun l=>qCV xAp (h++l) qEu (hp.app l)
 rw[qCA,qCB]at c2;refine qcK (r:= .tup [jl xEn,.int .i64 0]) (h':=h++ [.emp 2,.emp 2,.emp 2,.emp 2,.emp 2,.emp 2,.emp 2,.emp 2,.emp 2,.emp 2,.emp 0,.emp 0,.emp 0,.emp 0,.emp 0,.emp 0])
  (qDL [h.length,h.length+1,h.length+2,h.length+3,h.length+4,h.length+5,h.length+6,h.length+7,h.length+8,h.length+9] (by simp only[ke,go_sem]) ?c) (by exact flk) ?_
 case c=>
  simp only[qc1,go_sem];refine ACalls.le (c2 _) ?_ (qj);obtain⟨fz,hfz⟩: ∃fz:Nat→Bool,fz=fun k=> [h.length,h.length+1,h.length+2,h.length+3,h.length+4,h.length+5,h.length+6,h.length+7,h.length+8,h.length+9].contains k:=⟨_,rfl⟩
  rw[←hfz];have f0:fz h.length=true:=by rw[hfz];simp
  have f1:fz (h.length+1)=true:=by rw[hfz];simp
  have f2:fz (h.length+2)=true:=by rw[hfz];simp
  have f3:fz (h.length+3)=true:=by rw[hfz];simp
  have f4:fz (h.length+4)=true:=by rw[hfz];simp
  have f5:fz (h.length+5)=true:=by rw[hfz];simp
  have f6:fz (h.length+6)=true:=by rw[hfz];simp
  have f7:fz (h.length+7)=true:=by rw[hfz];simp
  have f8:fz (h.length+8)=true:=by rw[hfz];simp
  have f9:fz (h.length+9)=true:=by rw[hfz];simp
  have g0:([h.length,h.length+1,h.length+2,h.length+3,h.length+4,h.length+5,h.length+6,h.length+7,h.length+8,h.length+9]:List Nat).contains h.length=true:=by simp
  have g1:([h.length,h.length+1,h.length+2,h.length+3,h.length+4,h.length+5,h.length+6,h.length+7,h.length+8,h.length+9]:List Nat).contains (h.length+1)=true:=by simp
  have g2:([h.length,h.length+1,h.length+2,h.length+3,h.length+4,h.length+5,h.length+6,h.length+7,h.length+8,h.length+9]:List Nat).contains (h.length+2)=true:=by simp
  have g3:([h.length,h.length+1,h.length+2,h.length+3,h.length+4,h.length+5,h.length+6,h.length+7,h.length+8,h.length+9]:List Nat).contains (h.length+3)=true:=by simp
  have g4:([h.length,h.length+1,h.length+2,h.length+3,h.length+4,h.length+5,h.length+6,h.length+7,h.length+8,h.length+9]:List Nat).contains (h.length+4)=true:=by simp
  have g5:([h.length,h.length+1,h.length+2,h.length+3,h.length+4,h.length+5,h.length+6,h.length+7,h.length+8,h.length+9]:List Nat).contains (h.length+5)=true:=by simp
  have g6:([h.length,h.length+1,h.length+2,h.length+3,h.length+4,h.length+5,h.length+6,h.length+7,h.length+8,h.length+9]:List Nat).contains (h.length+6)=true:=by simp
  have g7:([h.length,h.length+1,h.length+2,h.length+3,h.length+4,h.length+5,h.length+6,h.length+7,h.length+8,h.length+9]:List Nat).contains (h.length+7)=true:=by simp
  have g8:([h.length,h.length+1,h.length+2,h.length+3,h.length+4,h.length+5,h.length+6,h.length+7,h.length+8,h.length+9]:List Nat).contains (h.length+8)=true:=by simp
  have g9:([h.length,h.length+1,h.length+2,h.length+3,h.length+4,h.length+5,h.length+6,h.length+7,h.length+8,h.length+9]:List Nat).contains (h.length+9)=true:=by simp
  clear hfz;simp only[go_sem,coC,List.map_cons,List.map_nil,g0,g5,g7,g8,g9,if_true];refine⟨qj,vl1 ⟨ie rfl,ie rfl,?b1,trivial⟩,vl1 ⟨?b2,trivial⟩,VLe.sl_eq rfl (fun i hi=> ?b3),jX,VLe.sl_eq rfl (fun i hi=> ?b4),VLe.sl_eq rfl (fun i hi=> ?b5),trivial⟩
  case b1=>
   simp only[go_sem,f4,if_true];refine im2 ⟨?u1,?u2,trivial⟩ ⟨ILe.nl,?u3,trivial⟩
   all_goals
    simp only[go_sem,f1,f2,f3,if_true];exact il1 rfl
  case b2=>
   simp only[go_sem,f6,if_true];exact il2 rfl rfl
  case b3=>
   match i,hi with
   |0,_=>rfl
   |1,_=>rfl
   |2,_=>rfl
   |n+3,hi=>exact absurd hi (by omega)
  case b4=>
   obtain rfl:i=0:=by omega
   rfl
  case b5=>
   obtain rfl:i=0:=by omega
   rfl
 simp (disch:=omega) only[go_sem]
 repeat' first
  |with_reducible apply aiA
 all_goals try exact clz
 have lz: ∀i,(xL3.getD i []).length≤100000000:=qV xL3 (fun s=>s.length≤100000000) (by decide) (by decide);refine cA (r:= .tup [.int .i64 2,.int .i64 0]) ?d (by exact flk) ?_
 case d=>
  have c2:=lyP xL3 [120] [] (by decide) lz;rw[qvZ.1,qvZ.2]at c2;refine ACalls.borrow (c2.le ?_ (qj)) (by simp[qbg,jT]);simp only[List.map_cons,List.map_nil,go_sem];exact⟨VLe.sl_eq rfl (fun i hi=>by
   match i,hi with
   |0,_=>rfl
   |1,_=>rfl
   |2,_=>rfl
   |n+3,hi=>exact absurd hi (by omega)),qj,trivial⟩
 simp (disch:=omega) only[go_sem]
 repeat' first
  |with_reducible apply aiA
 all_goals try exact clz
 refine cA (r:= .tup [.int .i64 0,.int .i64 0]) ?e (by exact flk) ?_
 case e=>
  have c2:=lyP xL3 [98] [] (by decide) lz;rw[qCC,qvZ.2]at c2;refine ACalls.borrow (c2.le ?_ (qj)) (by simp[qbg,jT]);simp only[List.map_cons,List.map_nil,go_sem];exact⟨VLe.sl_eq rfl (fun i hi=>by
   match i,hi with
   |0,_=>rfl
   |1,_=>rfl
   |2,_=>rfl
   |n+3,hi=>exact absurd hi (by omega)),qj,trivial⟩
 simp (disch:=omega) only[zm,zn,go_sem]
 repeat' first
  |with_reducible apply aiA
 all_goals try exact clz
 have xz:EqZ xEn:=by
  refine⟨by decide,?_,?_,?_,?_⟩
  ·exact qV xEn (fun e=>e.sup.length≤1000000000) (by decide) (by decide)
  ·exact qV xEn (fun e=>e.vars.length≤1000000000) (by decide) (by decide)
  ·exact qV xEn (fun e=> ∀j,(e.vars.getD j default).words.length≤1000000000) (fun j=>by simp[show (default:En).vars= []from rfl,show (default:Va).words= []from rfl]) fun i hi=>by
    obtain rfl:i=0:=by have:xEn.length=1:=rfl;omega
    exact qV _ (fun v:Va=>v.words.length≤1000000000) (by decide) (by decide)
  ·exact qV xEn (fun e=> ∀j,(e.vars.getD j default).sigla.length≤1000000000) (fun j=>by simp[show (default:En).vars= []from rfl,show (default:Va).sigla= []from rfl]) fun i hi=>by
    obtain rfl:i=0:=by have:xEn.length=1:=rfl;omega
    exact qV _ (fun v:Va=>v.sigla.length≤1000000000) (by decide) (by decide)
 refine cG (fun _=>ACalls.borrow ((qD7 xEn [] xz).le ?g1 (qj)) rfl) (fun _=>by exact flk) ?_
 case g1=>
  simp only[List.map_cons,List.map_nil,go_sem];refine⟨qj,vl1 ⟨ie rfl,ie rfl,ie rfl,ie rfl,?h1,?h2,trivial⟩,trivial⟩
  case h1=>simp only[go_sem,if_true];exact il1 rfl
  case h2=>
   simp only[go_sem,if_true];refine im1 ⟨ILe.nl,?h3,trivial⟩;simp only[go_sem,if_true];exact il1 rfl
 simp (disch:=omega) only[go_sem]
 repeat' first
  |(apply qb;exact rvk;simp only[go_sem];exact qj)
end RC
end
section
open Go Go.Proofs AF
end
section
open Go Go.Proofs AF HY LN
namespace RC
end RC
end
section
open Go Go.Proofs AF
end
section
open Go Go.Proofs AF HY LN
namespace RC
section
variable {q : En → Bool} {L : List En} {J : Nat}
end
section
variable {k v w : Nat} {h l : List AObj} {ty : TypeId} {cs : List AV}
end
end RC
end
section
open Go Go.Proofs AF
end
section
open Go Go.Proofs AF HY LN
namespace RC
end RC
end
section
open Go Go.Proofs AF
def qlP:List Nat:= []
def qA6:C:=
 ((C.ops [MC 2 (.bool false)]).seq ((C.ops [MV 3 0,OC 4 (.call 92 true) 3 (.fn (Fn.func 136) [] []),O1 5 (.un UnOp.not) 4,MV 2 5]).seq
 C.ret))
theorem qy3:qE Tryz.prog 64 6 0 [RV.tmp 2] qA6:=fi Tryz.f64 [] qlP []
def qsF:C:=
 ((C.ops [O1 1 (.box 0 64) 0,MC 2 (.bool false)]).seq ((C.ops [O1 3 (.fldA 0) 1,LD 4 3,⟨some 5,none,.build [.str [],.str [],i6 0] [(0,1)],[.t 4]⟩,O1 6 (.call 137 true) 5,
 BC 7 .neq 6 (i6 0),MV 2 7]).seq
 C.ret))
theorem qrx:qE Tryz.prog 136 8 1 [RV.tmp 2] qsF:=fi Tryz.f136 [1] qlP []
end
section
open Go Go.Proofs AF
def qt8:List Nat:= [68]
def qv6:C:=
 ((C.ops [O1 2 (.box 0 47) 0,MC 4 (.bool false)]).seq (((C.ops [O1 13 (.load (some 10)) 2,O1 14 (.call 23 true) 13,MV 15 14,P1 16 15 false (.fldA 6) 2,P1 17 15 false (.load
 none) 16,P1 18 15 false (.call 64 true) 17,P1 19 15 false (.un UnOp.not) 18,PT 20 15 19]).seq (C.cond (.t 20) ((C.ops [ON 21 (.call 24 true) [],MV 4 21]).seq C.ret)
 C.skip)).seq ((C.ops [O1 23 (.load (some 10)) 2,O1 24 (.call 25 true) 23,MV 22 24,O1 25 (.ext 0) 22,O1 26 (.ext 1) 22,MV 5 25,MV 6 26]).seq (((C.ops [MV 27 6,BC 28 .neq 27
 (i6 0),MV 29 28,MG 30 29 false 5,P1 31 29 false .len 30,PC 32 29 false (.bin .eql) 31 (i6 0),PT 33 29 32]).seq (C.cond (.t 33) ((C.ops [ON 34 (.call 24 true) [],MV 4 34]).seq
 C.ret) C.skip)).seq ((C.ops [MV 35 1,O1 36 (.conv .i64) 35,MV 37 5,O1 38 .len 37,BI 39 .rem 36 38,MV 7 39]).seq ((C.ops [O1 41 (.fldA 0) 2,O1 42 (.fldA 1) 41,LD 43 42,O1 44
 (.fldA 7) 2,LD 45 44,MV 46 5,MV 47 7,ON 48 (.call 67 true) [.t 43,.t 45,.t 46,.t 47],MV 40 48,O1 49 (.ext 0) 40,O1 50 (.ext 1) 40,⟨some 8,none,.alloc 1 58 [i6 0,i6 0,
 i6 0,.bool false,.nl,.nl],[]⟩,ST 6 8 49,MV 9 50]).seq ((C.ops [MV 51 5,O1 52 (.call 68 false) 51,MV 10 52]).seq ((C.ops [MV 53 10,MV 54 7,O1 55 (.load (some 6)) 8,O2 56
 (.idxA 6) 53 54,ST 6 56 55]).seq ((C.wk.seq (C.ops [O1 58 (.fldA 0) 2,O1 59 (.fldA 1) 58,LD 60 59,O1 61 (.fldA 7) 2,LD 62 61,MV 63 10,MV 64 7,ON 65 (.call 67 true) [.t 60,
 .t 62,.t 63,.t 64],MV 57 65,O1 66 (.ext 0) 57,O1 67 (.ext 1) 57,⟨some 11,none,.alloc 2 58 [i6 0,i6 0,i6 0,.bool false,.nl,.nl],[]⟩,ST 6 11 66,MV 12 67])).seq
 (((C.ops [MV 68 9,BC 69 .neq 68 (i6 0),MV 70 69,MG 71 70 false 12,PC 72 70 false (.bin .neq) 71 (i6 0),PT 73 70 72,MV 74 73,P1 75 74 false (.fldA 3) 8,P1 76 74 false (.load
 none) 75,MG 77 74 false 5,MG 78 74 false 7,P2 79 74 false (.idxA 6) 77 78,P1 80 74 false (.fldA 3) 79,P1 81 74 false (.load none) 80,P2 82 74 false (.bool false) 76 81,PT 83
 74 82,MV 84 83,P1 85 84 false (.load (some 6)) 11,MG 86 84 false 5,MG 87 84 false 7,P2 88 84 false (.idxA 6) 86 87,P1 89 84 false (.load (some 6)) 88,P2 90 84 false (.call
 30 true) 85 89,P1 91 84 false (.un UnOp.not) 90,PT 92 84 91]).seq (C.cond (.t 92) ((C.ops [MC 4 (.bool false)]).seq C.ret) C.skip)).seq ((C.ops [O1 93 (.fldA 0) 2,O1 94 (.fldA
 1) 93,LD 95 94,O1 96 (.fldA 7) 2,LD 97 96,O1 98 (.fldA 6) 2,LD 99 98,O1 100 (.call 48 true) 99,O1 101 (.load (some 6)) 8,ON 102 (.call 65 true) [.t 95,.t 97,.t 100,.t
 101],BC 103 .eql 102 (i6 0),MV 104 103,PN 105 104 true (.call 24 true) [],PF 106 104 105,MV 4 106]).seq
 C.ret)))))))))))
theorem qlA:qE Tryz.prog 12 107 4 [RV.tmp 4] qv6:=fi Tryz.f12 [2,8,11,52] qt8 [10]
end
section
open Go Go.Proofs AF HY LN
namespace RC
theorem qCz(b:List Wd)(h:List AObj)(hn:b.length≤1000000):ACalls Tryz.prog 48 [zc b] h (strs (ki b)) h:=by
 refine acO qBu ?_;simp (disch:=omega) only[qCJ,zc,go_sem];refine qp (T:=fun s:Nat×Nat×AObj×AObj=>qQ 19 [(6,zc b),(7,.int .i64 b.length),(8,.int .i64 s.1),(3,.osl (h.length+1) s.2.1 1 0 s.1)])
  (H:=fun s=>h++ [.emp 1,zP s.2.1 9 (jn (ki (b.take s.1))),s.2.2.1,s.2.2.2,.emp 0])
  (inv:=fun s=>s.1≤b.length∧qH [s.2.2.1] 0=true∧qH [s.2.2.2] 0=true) (m:=fun s=>b.length-s.1) (0,1,.emp 0,.emp 0) ⟨nzl _,rfl,rfl⟩ (Wk.temps ?_) ?_
 ·(simp only[zc,go_sem,qi,qe,qa,qh];try (repeat' first|(with_reducible apply aiA)|(apply qg;omega)|(apply qf;rfl)|exact qj))
 rintro⟨i,v,O1,O2⟩ ⟨i1,i2,i3⟩ K hK;simp only at i1 i2 i3 hK;have i2': ∀m,qH (O1::m) 0=true:=fun _=>i2
 have i3': ∀m,qH (O2::m) 0=true:=fun _=>i3
 have eL:(ki (b.take i)).length=i:=by unfold ki;rw[List.length_map,List.length_take];omega
 by_cases hi:i<b.length
 ·have k1:((i:Int)<b.length)=True:=eqt (by omega);have hS:ki (b.take (i+1))=ki (b.take i)++ [(b.getD i default).text]:=by
   unfold ki;rw[List.take_add_one,qY hi,gdqA,qY hi,List.map_append];rfl
  obtain⟨L,hL⟩: ∃L,L=ki (b.take i):=⟨_,rfl⟩
  rw[←hL]at hS eL ⊢;obtain⟨w,hw⟩: ∃w,w=b.getD i default:=⟨_,rfl⟩
  have ew:=hw.symm;rw[ew]at hS;have eC:=jR L;have eTk:List.take i (jn L)=jn L:=ltl (by omega);simp (disch:=omega) only[zc,wdC,k1,ew,i2',i3',eC,eL,eTk,Nat.mul_one,go_sem]
  repeat' first
   |with_reducible apply aiA
  all_goals try exact clz
  have eA:jn L++ [AV.str w.text]=jn (L++ [w.text]):=by simp[jn]
  have eD:(AV.str w.text::List.drop 1 (zu [AV.str []] 1))= [AV.str w.text]:=rfl;rw[eA,eD];refine hK _ _ (i+1,v+1,.mem (qr (some O1)+1) 64 (wdC w),.mem (qr (some O2)+1) 9 [.str w.text]) ⟨hi,rfl,rfl⟩ (by simp only;omega) ?_;simp only[hS,wdC];refine Wk.temps ?_
  (simp only[zc,wdC,go_sem,qi,qe,qa,qh];try (repeat' first|(with_reducible apply aiA)|(apply qg;omega)|(apply qf;rfl)|exact qj))
 have k1:((i:Int)<b.length)=False:=eqf (by omega);obtain rfl:i=b.length:=by omega
 rw[List.take_length]at eL ⊢;simp (disch:=omega) only[k1,go_sem]
 repeat' first
  |(apply qb;exact rvk;simp only[go_sem])
 exact qcz (fun _=>rfl) eL.symm
theorem kn1(w:Wd)(h:List AObj)(hs:w.text.length≤1000000000)(hp:qai SG h):ACalls Tryz.prog 136 [.agg (wdC w)] h (.bool (decide (¬wE w.text=0))) h:=by
 have c1:=fun l=>qDV w.text (h++l) hs (hp.app l)
 by_cases g:wE w.text=0
 ·have k1:(wE w.text=0)=True:=eqt g;rw[dqf (fun hc=>hc g)];refine acO qrx ?_;simp (disch:=omega) only[qsF,wdC,go_sem]
  repeat' first
   |(refine cA (c1 _) flk ?_;simp (disch:=omega) only[k1,go_sem])
   |(apply qb;exact rvk;simp only[go_sem];exact qj)
 ·have k1:(wE w.text=0)=False:=eqf g;rw[dqt g];refine acO qrx ?_;simp (disch:=omega) only[qsF,wdC,go_sem]
  repeat' first
   |(refine cA (c1 _) flk ?_;simp (disch:=omega) only[k1,go_sem])
   |(apply qb;exact rvk;simp only[go_sem];exact qj)
theorem knP(b:List Wd)(h:List AObj)(hn:b.length≤1000000)(hs: ∀i,(b.getD i default).text.length≤1000000000)(hp:qai SG h):ACalls Tryz.prog 64 [zc b] h (.bool (decide (jf (ki b)=0))) h:=by
 have ht: ∀j,j<b.length→(ki b).getD j []=(b.getD j default).text:=fun j hj=>by
  unfold ki;rw[gdqA,List.getElem?_map,qY hj,gdqA,qY hj];rfl
 have hl:(ki b).length=b.length:=by unfold ki;rw[List.length_map]
 have e0:qZ (fun j=>decide (¬wE (b.getD j default).text=0)) b.length= !decide (jf (ki b)=0):=by
  by_cases g:jf (ki b)=0
  ·rw[dqt g,Bool.not_true,ql];intro j hj;refine dqf fun hc=>hc ?_
   have:=jo.1 g j (by omega)
   rwa [ht j hj]at this
  ·rw[dqf g,Bool.not_false];cases h1:qZ (fun j=>decide (¬wE (b.getD j default).text=0)) b.length with
   |true=>rfl
   |false=>
    exfalso;refine g (jo.2 fun j hj=> ?_)
    have:=of_decide_eq_false (ql.1 h1 j (by omega))
    rw[ht j (by omega)];exact Classical.not_not.1 this
 have c1:=fun l=>qib qpq ⟨rfl,rfl⟩ ⟨rfl,rfl⟩ (qaO qg6 b.length (fun j=>wdC (b.getD j default)) (fun j=> .agg (wdC (b.getD j default))) 136 [] [] (fun j=>decide (¬wE (b.getD j default).text=0)) (h++l) (fun i _=>⟨rfl,by simp[zZ,wdC],rfl,rfl,rfl⟩) (fun i _=>kn1 _ _ (hs i) (hp.app l)) (by omega))
 simp only[e0]at c1;have c1:=c1 [];rw[List.append_nil]at c1;have zz:zc b= .sl b.length fun j=>wdC (b.getD j default):=rfl
 rw[zz]
 by_cases g:jf (ki b)=0
 ·rw[dqt g];simp only[dqt g,Bool.not_true]at c1;refine acO qy3 ?_;simp (disch:=omega) only[qA6,go_sem]
  repeat' first
   |(refine cA (c1) flk ?_;simp (disch:=omega) only[go_sem])
   |(apply qd;exact rvk;simp only[go_sem];exact qj)
 ·rw[dqf g];simp only[dqf g,Bool.not_false]at c1;refine acO qy3 ?_;simp (disch:=omega) only[qA6,go_sem]
  repeat' first
   |(refine cA (c1) flk ?_;simp (disch:=omega) only[go_sem])
   |(apply qd;exact rvk;simp only[go_sem];exact qj)
end RC
end
