import Derived.Test.YtgoandblgcjleaaGreatDoorK10
import Derived.Test.YtgoandblgcjleaaGreatDoorK3
import Derived.Test.YtgoandblgcjleaaGreatDoorK5
import Derived.Test.YtgoandblgcjleaaGreatDoorK8
import Derived.Test.YtgoandblgcjleaaGreatDoorProg
set_option linter.all false
set_option linter.unusedSimpArgs false
set_option linter.unusedVariables false
set_option linter.unusedSectionVars false
set_option maxHeartbeats 64000000
set_option maxRecDepth 100000
section
open Go Go.Proofs AF HY LN
namespace AF
structure qu3 (E:AV) (n:Nat) (cs:List AV):Prop where
 fl:E.flag=true
 st:E.strip=E
 vl: ∀g,valL g .len [E]= .int .i64 n
 ok: ∀g,okL g .len [E]=True
 sc: ∀g,qs g E=some (n,cs)
 ap: ∀k v z p m,qck (.osl k v z p m) E=true
theorem qu3.sl(n:Nat)(f:Nat→List AV):qu3 (.sl n f) n ((List.range n).flatMap f):=⟨rfl,rfl,fun _=>rfl,fun _=>eq_true trivial,fun _=>rfl,fun _ _ _ _ _=>rfl⟩
theorem qCY{P:Program}{f:FuncId}{args:List AV}{h h':List AObj}{r:AV}(ks:List Nat)(hs:kq ks h=true)(hc:ACalls P f (args.map (frz (fun k=>ks.contains k) h 8)) (qcR ks h) r h'):ACalls P f args h r h':=by
 refine⟨hc.1,fun w σ xs H hv=> ?_⟩;obtain⟨σ',g1,g2,g3,g4⟩:=qcB ks H hs;refine (hc.2 w σ' xs g1 ⟨by rw[hv.1];simp,fun i c x hcc hx=> ?_⟩).mono ?_
 ·rw[List.getElem?_map,Option.map_eq_some_iff]at hcc;obtain⟨c0,hcc,rfl⟩:=hcc;exact qgK H (fun b hb=>(g4 b hb).elim fun j ⟨o,h1,h2,h3⟩=>⟨j,o,by simpa using h1,h2,h3⟩) (fun j o hj ho=>g3 j o (by simpa using hj) ho) 8 (hv.2 i c0 x hcc hx)
 ·rintro e w' ⟨v,σ2,rfl,k1,k2,k3⟩;exact⟨v,σ2,rfl,k1,k2,g2.trans k3⟩
end AF
namespace RC
theorem qoq{L:List En}{n:Nat}{fz:Nat→Bool}{h:List AObj}{d:Nat}(hn:n=L.length):VLe (.sl n fun i=>(((qai L).drop (i*6)).take 6).map (rei fz h (d+1))) (qbm L):=by
 subst hn;refine VLe.sl_eq rfl (fun i hi=> ?_);rw[qgz hi];rfl
theorem qu3.strs(L:List Str):qu3 (strs L) L.length (zH L):=⟨rfl,rfl,fun _=>rfl,fun _=>eq_true trivial,fun g=>qpZ g L,fun _ _ _ _ _=>rfl⟩
theorem qu3.sub{t:List Str}{a b:Nat}(h1:a≤b)(h2:b≤t.length):qu3 (.sl (b-a) fun i=> [.str (t.getD (a+i) [])]) (qci t a b).length (zH (qci t a b)):=by
 rw[qhf h1 h2];exact⟨rfl,rfl,fun _=>rfl,fun _=>eq_true trivial,fun g=>qmM g h1 h2,fun _ _ _ _ _=>rfl⟩
end RC
end
section
open Go Go.Proofs AF HY LN
namespace RC
def anN(a b:Nat):Nat:=a&&&(2^64-1-b)
theorem qqs(a b:Nat):anN a b≤a:=Nat.and_le_left
theorem qgl{a b:Nat}(ha:a<2^64)(hb:b<2^64):qfh .u64 (a:Int) (b:Int)=((anN a b:Nat):Int):=by
 have hab:=qqs a b;unfold qfh;rw[show IntKind.bits IntKind.u64=64 from rfl,jC,jC,BitVec.toNat_and,BitVec.toNat_not,BitVec.toNat_ofNat,BitVec.toNat_ofNat,Nat.mod_eq_of_lt ha,Nat.mod_eq_of_lt hb];exact qbk (Int.natCast_nonneg _) (by unfold anN at hab;omega)
theorem qfg{a b:Nat}(ha:a<2^64)(hb:b<2^64)(i:Nat):(anN a b).testBit i=(a.testBit i&& !b.testBit i):=by
 unfold anN;rw[Nat.testBit_and,show 2^64-1-b=2^64-(b+1) by omega,Nat.testBit_two_pow_sub_succ hb]
 by_cases hi:i<64
 ·simp[hi]
 ·rw[Nat.testBit_lt_two_pow (Nat.lt_of_lt_of_le ha (Nat.pow_le_pow_right (by omega) (by omega)))];rfl
def ql6(n:Nat):Nat:=(zZ n.testBit 64).length
theorem qCj(n:Nat)(h:List AObj)(hn:n<256):ACalls Tryz.prog 199 [.int .u64 (n:Int)] h (.int .i64 (ql6 n)) h:=by
 refine acO qxl ?_;simp (disch:=omega) only[qvP,go_sem]
 repeat' first
  |(apply qf;exact rvk;simp only[go_sem];apply qi)
  |with_reducible apply aiA
 all_goals try exact clz
 clear h;revert n;decide+kernel
def qb7(names:List Str)(gs:List Gr)(set:List Int):Int:=if sgE names gs=0 then qcW names.length set else 1
theorem qDu(names:List Str)(gs:List Gr)(set:List Int)(h:List AObj)(hz:Szs names gs)(hs:set.length≤1000000000):ACalls Tryz.prog 196 [strs names,qF gs,ql set] h (.int .i64 (qb7 names gs set)) h:=by
 have c59:=fun h=>sgP names gs h hz
 have c92:=fun h=>qCl set names.length h hs
 have zl: ∀g,valL g .len [strs names]= .int .i64 names.length:=fun _=>rfl
 have zo: ∀g,okL g .len [strs names]=True:=fun _=>eq_true trivial
 unfold qb7
 by_cases g:sgE names gs=0
 ·rw[if_pos g];simp only[g]at c59;refine acO qqU ?_;simp (disch:=omega) only[qr5,go_sem]
  repeat' first
   |((first|refine cA (c59 _) ?_ ?_|refine cA (c92 _) ?_ ?_);exact flk;simp (disch:=omega) only[zl,zo,go_sem])
   |(apply qf;exact rvk;simp only[go_sem];exact qj)
 ·rw[if_neg g];have k:(sgE names gs=0)=False:=eq_false g;refine acO qqU ?_;simp (disch:=omega) only[qr5,go_sem]
  repeat' first
   |(refine cA (c59 _) ?_ ?_;exact flk;simp (disch:=omega) only[zl,zo,k,go_sem])
   |(apply qf;exact rvk;simp only[go_sem];exact qj)
theorem qfB{names:List Str}{gs:List Gr}(h:sgE names gs=0)(i:Nat):inB 64 (gs.getD i default).mem:=by
 have h:=qha h
 by_cases hi:i<gs.length
 ·intro j hj
  have:=(qbC (qld h hi)).1 j hj
  have:=h.n32
  omega
 ·rw[gdqA,List.getElem?_eq_none (by omega)];intro j hj;exact absurd hj (by simp[show (default:Gr).mem= []from rfl])
def qhm(gs:List Gr)(all:Nat)(i:Nat):Bool:=decide (anN (qam (gs.getD i default).mem) all=0)
def qbK(gs:List Gr)(all:Nat):List Int:=zZ (qhm gs all) gs.length
theorem qDN(gs:List Gr)(all:Nat)(h:List AObj)(hg:gs.length≤1000000)(hm: ∀i,inB 64 (gs.getD i default).mem)(hl: ∀i,(gs.getD i default).mem.length≤1000000000)(ha:all<2^64):ACalls Tryz.prog 197 [qF gs,.int .u64 (all:Int)] h (ql (qbK gs all)) h:=by
 unfold qbK;have zl: ∀g,valL g .len [qF gs]= .int .i64 gs.length:=fun _=>rfl
 have zo: ∀g,okL g .len [qF gs]=True:=fun _=>eq_true trivial
 refine acO qxj ?_;simp (disch:=omega) only[qvN,zl,zo,go_sem];refine qm (T:=fun i:Nat×Nat×AObj×AObj=>qI 27 [(1,.int .u64 (all:Int)),(5,.osl (h.length+1) i.2.1 1 0 (zZ (qhm gs all) i.1).length),(8,qF gs),(9,.int .i64 gs.length),(10,.int .i64 i.1)])
  (H:=fun i=>h++ [.emp 1,zV i.2.1 3 (qx (zZ (qhm gs all) i.1)),i.2.2.1,i.2.2.2,.emp 0])
  (inv:=fun i=>i.1≤gs.length∧qz [i.2.2.1] 0=true∧qz [i.2.2.2] 0=true) (m:=fun i=>gs.length-i.1) (0,1,.emp 0,.emp 0) ⟨Nat.zero_le _,rfl,rfl⟩ (Wk.temps ?_) ?_
 ·(simp only[zZ,List.range_zero,List.filter_nil,List.length_nil,go_sem,qh,qd,qa,qg];try (repeat' first|(with_reducible apply aiA)|(apply qi;omega)|(apply qe;rfl)|exact qj))
 rintro⟨i,v,O2,O3⟩ ⟨i1,i2,i3⟩ K hK;simp only at i1 i2 i3 hK;have i2': ∀m,qz (O2::m) 0=true:=fun _=>i2
 have i3': ∀m,qz (O3::m) 0=true:=fun _=>i3
 have hst:=kM (qhm gs all) i;have hln:=zL (qhm gs all) i;obtain⟨L,hL⟩: ∃L,L=zZ (qhm gs all) i:=⟨_,rfl⟩
 rw[←hL]at hst hln;have eL:=hL.symm;have eC:=qV L
 by_cases hi:i<gs.length
 ·have k1:((i:Int)<gs.length)=True:=eq_true (by omega);have c96:=fun h=>qA6 (gs.getD i default).mem h (hl i) (hm i)
  have hlt:=qdf (hm i);have hB:qhm gs all i=decide (anN (qam (gs.getD i default).mem) all=0):=rfl;obtain⟨gr,hgr⟩: ∃gr,gr=gs.getD i default:=⟨_,rfl⟩
  have egr:=hgr.symm;simp only[egr]at c96 hB;rw[egr]at hlt;have hd:=qgl hlt ha;obtain⟨q,hq⟩: ∃q,q=anN (qam gr.mem) all:=⟨_,rfl⟩
  rw[←hq]at hd hB;have eTk:List.take L.length (qx L)=qx L:=List.take_of_length_le (by omega)
  by_cases g0:q=0
  ·have k2:((q:Int)=0)=True:=eq_true (by omega);rw[if_pos (by rw[hB];exact decide_eq_true g0)]at hst;simp (disch:=omega) only[qF,grC,k1,i2',eL,egr,go_sem]
   repeat' first
    |(refine cA (c96 _) ?_ ?_;exact flk;simp (disch:=omega) only[k2,i3',hd,eC,eTk,Nat.mul_one,go_sem])
    |with_reducible apply aiA
   all_goals try exact clz
   have eA:qx L++ [AV.int .i64 (i:Int)]=qx (zZ (qhm gs all) (i+1)):=by rw[hst,zN];rfl
   rw[eA];refine hK _ _ (i+1,v+1,.mem (qq (some O2)+1) 167 (grC gr),.mem (qq (some O3)+1) 3 [.int .i64 (i:Int)]) ⟨hi,rfl,rfl⟩ (by simp only;omega) ?_;simp only[hst,List.length_append,List.length_cons,List.length_nil];refine Wk.temps ?_
   (simp only[go_sem,qh,qd,qa,qg];try (repeat' first|(with_reducible apply aiA)|(apply qi;omega)|(apply qe;rfl)|exact qj))
  ·have k2:((q:Int)=0)=False:=eq_false (by omega);rw[if_neg (by rw[hB];simpa using g0),List.append_nil]at hst;simp (disch:=omega) only[qF,grC,k1,i2',eL,egr,go_sem]
   repeat' first
    |(refine cA (c96 _) ?_ ?_;exact flk;simp (disch:=omega) only[k2,hd,go_sem])
    |with_reducible apply aiA
   all_goals try exact clz
   refine hK _ _ (i+1,v,.mem (qq (some O2)+1) 167 (grC gr),O3) ⟨hi,rfl,i3⟩ (by simp only;omega) ?_;simp only[hst];refine Wk.temps ?_
   (simp only[go_sem,qh,qd,qa,qg];try (repeat' first|(with_reducible apply aiA)|(apply qi;omega)|(apply qe;rfl)|exact qj))
 ·obtain rfl:i=gs.length:=by omega
  have k1:((gs.length:Int)<gs.length)=False:=eq_false (by omega);rw[eL];simp (disch:=omega) only[k1,go_sem]
  repeat' first
   |(apply qb;exact rvk;simp only[go_sem])
  exact qch (fun _=>rfl) rfl
def qoe(a b:List Int):Int:=qa5 (fun i=>qfr (a.getD i 0) (b.getD i 0)) 0 a.length
theorem qCK(a b:List Int)(h:List AObj)(hl:a.length=b.length)(ha:a.length≤1000000000):ACalls Tryz.prog 66 [ql a,ql b] h (.int .i64 (qoe a b)) h:=by
 obtain⟨R,hR⟩: ∃R,R=qoe a b:=⟨_,rfl⟩
 rw[←hR];unfold qoe at hR;have z1: ∀g,valL g .len [ql a]= .int .i64 a.length:=fun _=>rfl
 have z2: ∀g,okL g .len [ql a]=True:=fun _=>eq_true trivial
 have z3: ∀g,valL g .len [ql b]= .int .i64 a.length:=fun _=>by rw[hl];rfl
 have z4: ∀g,okL g .len [ql b]=True:=fun _=>eq_true trivial
 refine acO qAF ?_;simp (disch:=omega) only[qBV,z1,z2,go_sem];refine qm (T:=fun i:Nat=>qI 36 [(0,ql a),(1,ql b),(9,ql a),(10,.int .i64 a.length),(11,.int .i64 i)]) (H:=fun _=>h) (inv:=fun i=>i≤a.length∧ ∀j,j<i→(fun i=>qfr (a.getD i 0) (b.getD i 0)) j=0) (m:=fun i=>a.length-i) 0 ⟨Nat.zero_le _,fun j hj=>by omega⟩ (Wk.temps ?_) ?_
 ·(simp only[go_sem,qh,qd,qa,qg];try (repeat' first|(with_reducible apply aiA)|(apply qi;omega)|(apply qe;rfl)|exact qj))
 rintro i ⟨i1,i2⟩ K hK
 by_cases hi:i<a.length
 ·have k1:((i:Int)<a.length)=True:=eq_true (by omega);have k2:((a.length:Int)≤i)=False:=eq_false (by omega);have k3:((i:Int)<b.length)=True:=eq_true (by omega);have hE:=zr (f:=fun i=>qfr (a.getD i 0) (b.getD i 0)) hi i2;have c122:=fun h=>qCL (a.getD i 0) (b.getD i 0) h
  have k4:((b.length:Int)≤i)=False:=eq_false (by omega)
  by_cases g:qfr (a.getD i 0) (b.getD i 0)=0
  ·simp only[g]at c122;simp (disch:=omega) only[ql,k1,k3,k4,go_sem]
   repeat' first
    |(refine cA (c122 _) ?_ ?_;exact flk;simp (disch:=omega) only[go_sem])
    |with_reducible apply aiA
   all_goals try exact clz
   refine hK _ _ (i+1) ⟨hi,fun j hj=> ?_⟩ (by omega) (Wk.temps ?_)
   ·by_cases e:j=i
    ·subst e;exact g
    ·exact i2 j (by omega)
   ·(simp only[ql,go_sem,qh,qd,qa,qg];try (repeat' first|(with_reducible apply aiA)|(apply qi;omega)|(apply qe;rfl)|exact qj))
  ·have k5:(qfr (a.getD i 0) (b.getD i 0)=0)=False:=eq_false g;rw[hR,hE g];simp (disch:=omega) only[ql,k1,k3,k4,go_sem]
   repeat' first
    |(refine cA (c122 _) ?_ ?_;exact flk;simp (disch:=omega) only[k5,go_sem])
    |(apply qf;exact rvk;simp only[go_sem];exact qj)
    |with_reducible apply aiA
   all_goals try exact clz
 ·have k1:((i:Int)<a.length)=False:=eq_false (by omega);have hz:=qP (f:=fun i=>qfr (a.getD i 0) (b.getD i 0)) (n:=a.length) (fun j hj=>i2 j (by omega));rw[hR,hz];have k2:((a.length:Int)<a.length)=False:=eq_false (by omega);simp (disch:=omega) only[z1,z2,z3,z4,k1,go_sem]
  repeat' first
   |(apply qf;exact rvk;simp only[go_sem];first|exact qj|apply qi)
   |with_reducible first|intro _|apply aiA
  all_goals try exact clz
def ke(ms:List Nat):AV:= .sl ms.length fun i=> [.int .u64 ((ms.getD i 0:Nat):Int)]
theorem qhQ(L:List Nat):(ke L).flag=true:=rfl
theorem qf7(L:List Nat):(ke L).strip=ke L:=rfl
theorem qfW(L:List Nat):(ke L).solid=true:=rfl
theorem qfq(L:List Nat):(ke L).cells= [ke L]:=rfl
attribute [go_sem] qhQ qf7 qfW qfq
def qfK(ms:List Nat)(c:Nat):Nat→Nat
 |0=>0
 |i+1=>if c.testBit i=true then qfK ms c i|||ms.getD i 0 else qfK ms c i
theorem qcD(ms:List Nat)(c i:Nat):qfK ms c (i+1)=if c.testBit i=true then qfK ms c i|||ms.getD i 0 else qfK ms c i:=rfl
def chN(ms:List Nat)(c:Nat):Nat:=qfK ms c ms.length
theorem qlq{ms:List Nat}(hm: ∀i,ms.getD i 0<2^64)(c:Nat): ∀i,qfK ms c i<2^64:=by
 intro i
 induction i with
 |zero=>show (0:Nat)<2^64;decide
 |succ i ih=>
  unfold qfK;split
  ·exact Nat.or_lt_two_pow ih (hm i)
  ·exact ih
theorem qqy{ms:List Nat}(hm: ∀i,ms.getD i 0<2^64)(c:Nat):chN ms c<2^64:=qlq hm c _
def qnB(ms:List Nat):List (List AV):=(List.range (2^ms.length)).map fun c=> [.int .u64 ((c:Nat):Int),.int .u64 ((chN ms c:Nat):Int)]
theorem qdw(ms:List Nat):(qnB ms).length=2^ms.length:=by simp[qnB]
theorem qgv{ms:List Nat}{i:Nat}(hi:i<(qnB ms).length):(qnB ms)[i]= [.int .u64 ((i:Nat):Int),.int .u64 ((chN ms i:Nat):Int)]:=by
 simp[qnB]
theorem qob(ms:List Nat): ∀a∈qnB ms,a.length=2:=by
 intro a ha;unfold qnB at ha;obtain⟨_,_,rfl⟩:=List.mem_map.1 ha;rfl
theorem qCH(ms:List Nat)(h:List AObj):ACalls Tryz.prog 198 [ke ms] h (.fn (.func 245) [] [.ip [ke ms]]) h:=by
 refine acO qxk ?_;simp (disch:=omega) only[qvO,go_sem]
 repeat' first
  |(apply qb;exact rvk;simp only[go_sem];exact qj)
set_option maxHeartbeats 16000000 in
theorem itC(ms:List Nat)(hl:ms.length≤16)(hm: ∀i,ms.getD i 0<2^64):qu0 Tryz.prog 245 [.ip [ke ms]] (qnB ms):=by
 intro h ts LI S E hS hE body start hts;have zl: ∀g,valL g .len [ke ms]= .int .i64 ms.length:=fun _=>rfl
 have zo: ∀g,okL g .len [ke ms]=True:=fun _=>eq_true trivial
 have hsh:=qmv (n:=ms.length) (by omega);have hp:2^ms.length≤2^16:=Nat.pow_le_pow_right (by omega) hl;have hxl:=qdw ms;obtain⟨N,hN⟩: ∃N,N=2^ms.length:=⟨_,rfl⟩
 rw[←hN]at hsh hp hxl;refine acQ qxA ?_;simp (disch:=omega) only[qv3,zl,zo,hsh,go_sem]
 repeat' first
  |with_reducible apply aiA
 all_goals try exact clz
 refine qm (T:=fun i:Nat×List AObj=>qI 35 [(0,.yld h.length),(1,.ip [ke ms]),(9,.int .u64 ((N:Nat):Int)),(10,.int .u64 ((i.1:Nat):Int))])
  (H:=fun i=>i.2++ [.lp .ready ts LI])
  (inv:=fun i=>i.1≤N∧S i.1 i.2) (m:=fun i=>N-i.1) (0,h) ⟨Nat.zero_le _,start⟩ (Wk.temps ?_) ?_
 ·(simp only[go_sem,qh,qd,qa,qg];try (repeat' first|(with_reducible apply aiA)|(apply qi;omega)|(apply qe;rfl)|exact qj))
 rintro⟨i,hh⟩ ⟨i1,i2⟩ K hK;simp only at i1 i2 hK;obtain⟨hlen,hlow⟩:=hS _ _ i2;have hb:(h++ [AObj.lp LS.ready ts LI]).length=(hh++ [AObj.lp LS.ready ts LI]).length:=by simp[hlen]
 rw[hb]
 by_cases hi:i<N
 ·have q0:((i:Int)<N)=True:=eq_true (by omega);have hix:i<(qnB ms).length:=by omega
  have hb':=body i hh [] hix i2;rw[qgv hix]at hb';simp (disch:=omega) only[q0,zl,zo,go_sem]
  repeat' first
   |with_reducible apply aiA
  all_goals try exact clz
  have hclt:i<2^64:=by omega
  have hml:=qlq hm i;refine qm (T:=fun j:Nat=>qI 35 [(0,.yld (hh++ [AObj.lp LS.ready ts LI]).length.pred),(1,.ip [ke ms]),(3,.int .u64 ((i:Nat):Int)),(4,.int .u64 ((qfK ms i j:Nat):Int)),(9,.int .u64 ((N:Nat):Int)),(10,.int .u64 ((i:Nat):Int)),(13,ke ms),(14,.int .i64 ms.length),(15,.int .i64 j)])
   (H:=fun _=>hh++ [.lp .ready ts LI]) (inv:=fun j=>j≤ms.length) (m:=fun j=>ms.length-j) 0 (Nat.zero_le _) (Wk.temps ?_) ?_
  ·have e2:(hh++ [AObj.lp LS.ready ts LI]).length.pred=h.length:=by simp[hlen]
   rw[e2]
   (simp only[qfK,go_sem,qh,qd,qa,qg];try (repeat' first|(with_reducible apply aiA)|(apply qi;omega)|(apply qe;rfl)|exact qj))
  have e2:(hh++ [AObj.lp LS.ready ts LI]).length.pred=h.length:=by simp[hlen]
  rw[e2];rintro j j1 K2 hK2
  by_cases hj:j<ms.length
  ·have q1:((j:Int)<ms.length)=True:=eq_true (by omega);have e1:=qjT (a:=i) (n:=j) hclt (by omega);have eo:=qrm (hml j) (hm j);have hs:=qcD ms i j;have q2:(0≤(j:Int))=True:=eq_true (by omega);cases g:i.testBit j with
   |true=>
    rw[g,if_pos rfl]at e1;rw[g,if_pos rfl]at hs;simp (disch:=omega) only[ke,q1,q2,e1,go_sem]
    repeat' first
     |with_reducible apply aiA
    all_goals try exact clz
    refine hK2 _ _ (j+1) hj (by omega) ?_;simp only[hs];refine Wk.temps ?_
    (simp only[ke,go_sem,qh,qd,qa,qg];try (repeat' first|(with_reducible apply aiA)|(apply qi;omega)|(apply qe;rfl)|exact qj))
   |false=>
    rw[g,if_neg (by simp)]at e1;rw[g,if_neg (by simp)]at hs;simp (disch:=omega) only[ke,q1,q2,e1,go_sem]
    repeat' first
     |with_reducible first|intro _|apply aiA
    all_goals try exact clz
    refine hK2 _ _ (j+1) hj (by omega) ?_;simp only[hs];refine Wk.temps ?_
    (simp only[ke,go_sem,qh,qd,qa,qg];try (repeat' first|(with_reducible apply aiA)|(apply qi;omega)|(apply qe;rfl)|exact qj))
  ·obtain rfl:j=ms.length:=by omega
   have q1:((ms.length:Int)<ms.length)=False:=eq_false (by omega);have hch:qfK ms i ms.length=chN ms i:=rfl;rw[hch];simp (disch:=omega) only[q1,go_sem]
   repeat' first
    |with_reducible apply aiA
   ·exact⟨.ready,ts,LI,kz hlen⟩
   ·refine ku.mono ?_ hb';rintro v h' ⟨hh',⟨rfl,hn,rfl⟩|⟨st,rfl,hs',rfl⟩⟩
    ·simp (disch:=omega) only[go_sem];refine hK _ _ (i+1,hh') ⟨hi,hn⟩ (by simp only;omega) (Wk.temps ?_)
     (simp only[go_sem,qh,qd,qa,qg];try (repeat' first|(with_reducible apply aiA)|(apply qi;omega)|(apply qe;rfl)|exact qj))
     rw[qbk (by omega) (by omega)];exact qi (by omega)
    ·simp (disch:=omega) only[go_sem];obtain⟨r1,r2⟩:=(hE _ _ hs').ret (L:=LI) st hts;exact kx trivial r1 r2 ⟨_,.inr ⟨st,hs',rfl⟩⟩ (qj)
 ·have e:i=N:=by omega
  subst e;have q0:((i:Int)<i)=False:=eq_false (by omega);simp (disch:=omega) only[q0,go_sem];obtain⟨r1,r2⟩:=(hS _ _ i2).ret (L:=LI) .ready hts;exact kx trivial r1 r2 ⟨hh,.inl ⟨by rw[hxl];exact i2,rfl⟩⟩ (qj)
def usM(gs:List Gr)(L:List Int):List Nat:=L.map fun i=>qam (gs.getD i.toNat default).mem
theorem qgc(gs:List Gr)(L:List Int):(usM gs L).length=L.length:=by simp[usM]
theorem qgb{gs:List Gr}{L:List Int}{i:Nat}(hi:i<L.length):(usM gs L).getD i 0=qam (gs.getD (L.getD i 0).toNat default).mem:=by
 unfold usM;rw[gdqA,List.getElem?_map,zA hi,gdqA (l:=L),zA hi];rfl
theorem qrx{gs:List Gr}(hm: ∀i,inB 64 (gs.getD i default).mem)(L:List Int)(i:Nat):(usM gs L).getD i 0<2^64:=by
 by_cases hi:i<L.length
 ·rw[qgb hi];exact qdf (hm _)
 ·rw[gdqA,List.getElem?_eq_none (by rw[qgc];omega)];show (0:Nat)<2^64;decide
def kr(gs:List Gr)(all:Nat)(L:List Int)(c:Nat):List Int:=
 (zZ c.testBit 64).map (fun k=>L.getD k.toNat 0)++(zZ (anN all (chN (usM gs L) c)).testBit 64).map (fun s=>(gs.length:Int)+s)
theorem qcf(gs:List Gr)(all:Nat)(L:List Int)(c:Nat):(kr gs all L c).length=ql6 c+ql6 (anN all (chN (usM gs L) c)):=by
 unfold kr ql6;rw[List.length_append,List.length_map,List.length_map]
def qi9(a b:List Int):Bool:=decide (a.length<b.length)||decide (a.length=b.length)&&decide (qoe a b<0)
def bst(gs:List Gr)(all:Nat)(L:List Int):Nat→List Int
 |0=>kr gs all L 0
 |c+1=>if qi9 (kr gs all L (c+1)) (bst gs all L c)=true then kr gs all L (c+1) else bst gs all L c
theorem qjX(gs:List Gr)(all:Nat)(L:List Int): ∀c,∃k,k≤c∧bst gs all L c=kr gs all L k:=by
 intro c
 induction c with
 |zero=>exact⟨0,Nat.le_refl _,rfl⟩
 |succ c ih=>
  obtain⟨k,h1,h2⟩:=ih;unfold bst;split
  ·exact⟨c+1,Nat.le_refl _,rfl⟩
  ·exact⟨k,by omega,h2⟩
def qzY(gs:List Gr)(all:Nat):List Int:=bst gs all (qbK gs all) (2^(qbK gs all).length-1)
def qal(names:List Str)(gs:List Gr)(p:Int):Str:=if p<gs.length then (gs.getD p.toNat default).name else names.getD (p-gs.length).toNat []
def shR(names:List Str)(gs:List Gr)(set:List Int):List Str:=if qb7 names gs set=0 then (qzY gs (qam set)).map (qal names gs) else []
theorem qdM{c n k:Nat}(hc:c<2^n)(hk:c.testBit k=true):k<n:=by
 by_cases h:k<n
 ·exact h
 ·rw[Nat.testBit_lt_two_pow (Nat.lt_of_lt_of_le hc (Nat.pow_le_pow_right (by omega) (by omega)))]at hk;cases hk
theorem kZ{p:Nat→Bool}{n:Nat}{x:Int}(h:x∈zZ p n): ∃k:Nat,x=(k:Int)∧k<n∧p k=true:=by
 unfold zZ at h;obtain⟨k,h1,rfl⟩:=List.mem_map.1 h;obtain⟨h2,h3⟩:=List.mem_filter.1 h1;exact⟨k,rfl,List.mem_range.1 h2,h3⟩
theorem qfL{set:List Int}{n:Nat}(hn:n≤64)(h:inB n set):qam set<2^n:=by
 have h64:inB 64 set:=fun i hi=>by have:=h i hi;omega
 refine Nat.lt_pow_two_of_testBit _ fun i hi=> ?_
 rw[qab h64];refine decide_eq_false fun hm=> ?_
 have:=qaa h _ hm
 omega
theorem qqt{a b n:Nat}(h:a<2^n):anN a b<2^n:=Nat.lt_of_le_of_lt (qqs a b) h
theorem qgj{gs:List Gr}{all:Nat}{x:Int}(h:x∈qbK gs all): ∃k:Nat,x=(k:Int)∧k<gs.length:=by
 obtain⟨k,h1,h2,_⟩:=kZ h;exact⟨k,h1,h2⟩
theorem qro{names:List Str}{gs:List Gr}{set:List Int}{all:Nat}(hs:inB names.length set)(hn:names.length≤64)(ha:all=qam set){c:Nat}(hc:c<2^(qbK gs all).length){p:Int}(hp:p∈kr gs all (qbK gs all) c):0≤p∧p<gs.length+names.length:=by
 unfold kr at hp;rcases List.mem_append.1 hp with hp|hp
 ·obtain⟨k,h1,rfl⟩:=List.mem_map.1 hp;obtain⟨k',rfl,h2,h3⟩:=kZ h1;have hk:=qdM hc h3;have hm:(qbK gs all).getD k' 0∈qbK gs all:=by
   rw[gdqA,zA hk];exact List.getElem_mem hk
  obtain⟨g,e,hg⟩:=qgj hm;rw[Int.toNat_natCast,e];omega
 ·obtain⟨k,h1,rfl⟩:=List.mem_map.1 hp;obtain⟨k',rfl,h2,h3⟩:=kZ h1
  have:=qdM (qqt (b:=chN (usM gs (qbK gs all)) c) (by rw[ha];exact qfL hn hs)) h3
  omega
end RC
end
section
open Go Go.Proofs AF
def qyp:List Nat:= [132,109,174,220,68]
def qrZ:C:=
 ((C.ops [O1 4 (.box 0 44) 1,ON 6 (.nilo 1 1 9) [],MC 7 (i6 0)]).seq (((C.ops [MV 27 0,LD 28 4,MV 29 2,ON 30 (.call 196 true) [.t 27,.t 28,.t 29],MV 8 30]).seq ((C.ops [MV
 31 8,BC 32 .neq 31 (i6 0)]).seq (C.cond (.t 32) ((C.ops [MV 33 8,ON 6 (.nilo 1 1 9) [],MV 7 33]).seq C.ret) C.skip))).seq ((C.ops [MV 34 2,O1 35 (.call 125 true) 34,⟨some 9,
 none,.alloc 2 164 [.int .u64 0],[]⟩,ST 1 9 35]).seq ((C.ops [LD 36 4,LD 37 9,O2 38 (.call 197 true) 36 37,⟨some 10,none,.alloc 3 62 [.nl],[]⟩,ST 1 10 38]).seq ((C.ops [ON
 11 (.nilo 4 1 164) []]).seq (((C.ops [LD 39 10,O1 40 .len 39,MC 41 (i6 0)]).seq (C.block 0 ((C.ops [BI 42 .lss 41 40]).seq ((C.cond (.t 42) C.skip (C.exit 0)).seq ((C.block 1
 ((C.ops [O2 43 (.idxA 1) 39 41,LD 44 43,MV 13 44]).seq (C.ops [MV 45 11,LD 46 4,MV 47 13,O2 48 (.idxA 2) 46 47,O1 49 (.fldA 1) 48,LD 50 49,O1 51 (.call 125 true) 50,⟨some
 52,none,.bslc 5 1 1 164 [.int .u64 0] [(0,1)],[.t 51]⟩,O2 53 (.app 6 1 164 8) 45 52,MV 11 53]))).seq (C.ops [BC 54 .add 41 (i6 1),MV 41 54])))).loop)).seq ((C.ops [⟨some 14,
 none,.alloc 7 62 [.nl],[]⟩]).seq ((C.ops [⟨some 15,none,.alloc 8 4 [.bool false],[]⟩,⟨none,none,.store 1,[.t 15,.c (.bool false)]⟩]).seq (((C.wk.seq (C.ops [MV 55 11,O1
 56 (.call 198 true) 55])).seq (C.block 2 (C.range (.t 56) [57,58] ((C.ops [MV 16 57]).seq (C.ops [MV 17 58])) (C.block 3 ((C.wk.seq (C.ops [MV 59 16,O1 60 (.call 199 true) 59,LD
 61 9,MV 62 17,BI 63 .andNot 61 62,O1 64 (.call 199 true) 63,BI 65 .add 60 64,MV 18 65])).seq (((C.ops [LD 66 15,MV 67 66,MG 68 67 true 18,P1 69 67 true (.load none) 14,P1
 70 67 true .len 69,P2 71 67 true (.bin .gtr) 68 70,PF 72 67 71]).seq (C.cond (.t 72) (C.exit 3) C.skip)).seq ((C.ops [ON 19 (.nilo 9 1 3) []]).seq (((C.ops [MV 73 16,O1 74
 (.call 126 true) 73,O1 75 .len 74,MC 76 (i6 0)]).seq (C.block 4 ((C.ops [BI 77 .lss 76 75]).seq ((C.cond (.t 77) C.skip (C.exit 4)).seq ((C.block 5 ((C.ops [O2 78 (.idxA 1) 74
 76,LD 79 78,MV 21 79]).seq (C.ops [MV 80 19,LD 81 10,MV 82 21,O2 83 (.idxA 1) 81 82,LD 84 83,⟨some 85,none,.bslc 10 1 1 3 [i6 0] [(0,1)],[.t 84]⟩,O2 86 (.app 11 1 3 8)
 80 85,MV 19 86]))).seq (C.ops [BC 87 .add 76 (i6 1),MV 76 87])))).loop)).seq (((C.ops [LD 88 9,MV 89 17,BI 90 .andNot 88 89,O1 91 (.call 126 true) 90,O1 92 .len 91,MC 93 (i6
 0)]).seq (C.block 6 ((C.ops [BI 94 .lss 93 92]).seq ((C.cond (.t 94) C.skip (C.exit 6)).seq ((C.block 7 ((C.ops [O2 95 (.idxA 1) 91 93,LD 96 95,MV 23 96]).seq (C.ops [MV 97 19,
 LD 98 4,O1 99 .len 98,MV 100 23,BI 101 .add 99 100,⟨some 102,none,.bslc 12 1 1 3 [i6 0] [(0,1)],[.t 101]⟩,O2 103 (.app 13 1 3 8) 97 102,MV 19 103]))).seq (C.ops [BC 104
 .add 93 (i6 1),MV 93 104])))).loop)).seq ((C.ops [LD 105 15,O1 106 (.un UnOp.not) 105,MV 107 106,MG 108 107 false 19,P1 109 107 false .len 108,P1 110 107 false (.load none)
 14,P1 111 107 false .len 110,P2 112 107 false (.bin .lss) 109 111,PT 113 107 112,MV 114 113,MG 115 114 false 19,P1 116 114 false (.load none) 14,P2 117 114 false (.call 66
 true) 115 116,PC 118 114 false (.bin .lss) 117 (i6 0),PT 119 114 118]).seq (C.cond (.t 119) (C.ops [MV 120 19,ST 1 14 120,⟨none,none,.store 1,[.t 15,.c (.bool true)]⟩])
 C.skip))))))))))).seq ((C.ops [ON 24 (.nilo 14 1 9) []]).seq (((C.wk.seq (C.ops [LD 121 14,O1 122 .len 121,MC 123 (i6 0)])).seq (C.block 8 ((C.ops [BI 124 .lss 123 122]).seq
 ((C.cond (.t 124) C.skip (C.exit 8)).seq ((C.block 9 ((C.ops [O2 125 (.idxA 1) 121 123,LD 126 125,MV 26 126]).seq ((C.ops [MV 127 26,LD 128 4,O1 129 .len 128,BI 130 .lss 127
 129]).seq (C.cond (.t 130) (C.ops [MV 131 24,LD 132 4,MV 133 26,O2 134 (.idxA 2) 132 133,O1 135 (.fldA 0) 134,LD 136 135,⟨some 137,none,.bslc 15 1 1 9 [.str []] [(0,1)],
 [.t 136]⟩,O2 138 (.app 16 1 9 16) 131 137,MV 24 138]) (C.ops [MV 139 24,MV 140 0,MV 141 26,LD 142 4,O1 143 .len 142,BI 144 .sub 141 143,O2 145 (.idxA 1) 140 144,LD 146
 145,⟨some 147,none,.bslc 17 1 1 9 [.str []] [(0,1)],[.t 146]⟩,O2 148 (.app 18 1 9 16) 139 147,MV 24 148]))))).seq (C.ops [BC 149 .add 123 (i6 1),MV 123 149])))).loop)).seq
 ((C.ops [MV 150 24,MV 6 150,MC 7 (i6 0)]).seq
 C.ret))))))))))))
theorem qqO:qG Tryz.prog 142 151 19 [RV.tmp 6,RV.tmp 7] qrZ:=fi Tryz.f142 [4,6,9,10,11,52,53,14,15,19,85,86,102,103,24,137,138,147,148] qyp [14,17,33]
end
section
open Go Go.Proofs AF HY LN
namespace RC
def qea(ms:List Nat):List AV:=ms.map fun m=> .int .u64 ((m:Nat):Int)
theorem qhg(ms:List Nat):(qea ms).length=ms.length:=by simp[qea]
theorem qqb(a b:List Nat):qea (a++b)=qea a++qea b:=by simp[qea]
theorem qiH{L:List Nat}{i:Nat}(hi:i<L.length):L.take (i+1)=L.take i++ [L.getD i 0]:=by
 rw[List.take_succ_eq_append_getElem hi,gdqA,zA hi];rfl
theorem jh{L:List Int}{i:Nat}(hi:i<L.length):L.take (i+1)=L.take i++ [L.getD i 0]:=by
 rw[List.take_succ_eq_append_getElem hi,gdqA,zA hi];rfl
theorem qqc{L:List Nat}{n:Nat}(g:AV→AV)(hg: ∀n,g (.int .u64 n)= .int .u64 n)(hn:n=L.length):VLe (.sl n fun i=>(((qea L).drop i).take 1).map g) (ke L):=by
 subst hn;refine VLe.sl_eq rfl (fun i hi=> ?_);unfold qea;rw[←List.map_drop,List.drop_eq_getElem_cons hi,List.map_cons,List.take_succ_cons,List.take_zero,List.map_cons,List.map_nil,hg,gdqA,zA hi];rfl
theorem qpQ{v n:Nat}{L:List Nat}{g:AV→AV}(hg: ∀s,g (.int .u64 s)= .int .u64 s)(hn:n=L.length):VLe (qd9 (some (zV v 164 (qea L))) v 1 0 n g) (ke L):=by
 subst hn
 by_cases h:L= []
 ·subst h;show VLe (qd9 (some (.emp v)) v 1 0 0 g) _;rw[slOf_emp,if_pos rfl];exact jS
 ·have e0:zV v 164 (qea L)= .mem v 164 (qea L):=jJ (by simpa[qea] using h);rw[e0,slOf_mem,if_pos ⟨rfl,by rw[qhg];omega⟩];simp only[Nat.zero_add,Nat.mul_one];exact qqc g hg rfl
def shH(h:List AObj)(gs:List Gr)(all:Nat)(L:List Int)(v4:Nat)(O5:AObj)(bc:AV)(fd:Bool)(O9 O10 O12:AObj)(tl:List AObj):List AObj:=
 h++(.mem 1 44 [qF gs]:: .emp 1:: .mem 1 164 [.int .u64 ((all:Nat):Int)]:: .mem 1 62 [ql L]:: .emp v4::O5:: .emp 0:: .mem 1 62 [bc]:: .mem 1 4 [.bool fd]::O9::O10:: .emp 0::O12:: .emp 0:: .emp 0:: .emp 0:: .emp 0:: .emp 0:: .emp 0::tl)
theorem qbD(h:List AObj)(gs:List Gr)(all:Nat)(L:List Int)(v4:Nat)(O5:AObj)(bc:AV)(fd:Bool)(O9 O10 O12:AObj)(tl:List AObj):shH h gs all L v4 O5 bc fd O9 O10 O12 []++tl=shH h gs all L v4 O5 bc fd O9 O10 O12 tl:=by simp[shH]
theorem jr(h:List AObj)(gs:List Gr)(all:Nat)(L:List Int)(v4:Nat)(O5:AObj)(bc:AV)(fd:Bool)(O9 O10 O12:AObj):(shH h gs all L v4 O5 bc fd O9 O10 O12 []).length=h.length+19:=by simp[shH]
def bsC(gs:List Gr)(all:Nat)(L:List Int):Nat→AV
 |0=> .nl
 |i+1=>ql (bst gs all L i)
def bsO(h:List AObj)(gs:List Gr)(all:Nat)(L:List Int)(i:Nat)(bc:AV)(O9:AObj):Prop:=
 (bc=bsC gs all L i∧qz [O9] 0=true)∨ ∃j v,i=j+1∧bc= .osl (h.length+9) v 1 0 (bst gs all L j).length∧O9=zV v 3 (qx (bst gs all L j))
theorem shW{h:List AObj}{gs:List Gr}{all:Nat}{L:List Int}{v4 i:Nat}{O5:AObj}{bc:AV}{fd:Bool}{O9 O10 O12:AObj}{tl:List AObj}(hb:bsO h gs all L i bc O9)(hl: ∀n,qaj n O9):
  ∃O9',qz [O9'] 0=true∧(∀n,qaj n O9')∧ ∀TT,Wk TT (shH h gs all L v4 O5 bc fd O9 O10 O12 tl) TT (shH h gs all L v4 O5 (bsC gs all L i) fd O9' O10 O12 tl):=by
 rcases hb with⟨rfl,h2⟩|⟨j,v,rfl,rfl,rfl⟩
 ·exact⟨O9,h2,hl,fun TT=>Wk.refl _ _⟩
 ·refine⟨.emp (v+1),rfl,fun _=>trivial,fun TT=> ?_⟩;have w:=Wk.fzCell (t:=TT) (h:=shH h gs all L v4 O5 (.osl (h.length+9) v 1 0 (bst gs all L j).length) fd (zV v 3 (qx (bst gs all L j))) O10 O12 tl) (j:=h.length+7) (k:=h.length+9) (i:=0) (v:=1) (ty:=62) (cs:= [.osl (h.length+9) v 1 0 (bst gs all L j).length]) (c:= .osl (h.length+9) v 1 0 (bst gs all L j).length) (c':=ql (bst gs all L j))
   (by unfold shH;simp only[go_sem]) rfl (by unfold shH;simp only[go_sem]) (by omega) (by
    rw[qa4];unfold shH;rw[getO_app]
    exact qch (fun _=>rfl) rfl)
  unfold shH at w ⊢;simp only[go_sem,List.set_cons_zero]at w;exact w
theorem qlp(n:Nat)(L:List Nat):ji n (ke L)=true:=rfl
theorem qba(L:List Int)(n:Nat): ∀c∈qx L,ji n c=true:=by
 intro c hc;unfold qx at hc;obtain⟨x,_,rfl⟩:=List.mem_map.1 hc;rfl
theorem qCJ(a b:List Int)(k v:Nat)(h:List AObj)(n:Nat)(hn:n=a.length)(hk:qH k h=some (zV v 3 (qx a)))(hl:a.length=b.length)(ha:a.length≤1000000000):ACalls Tryz.prog 66 [.osl k v 1 0 n,ql b] h (.int .i64 (qoe a b)) h:=by
 subst hn;refine ACalls.borrow ((qCK a b [] hl ha).le ?_ (qj)) rfl;simp only[List.map_cons,List.map_nil,rei_osl,if_true,hk];exact⟨qch (fun _=>rfl) rfl,qj,trivial⟩
theorem qCn(names:List Str)(gs:List Gr)(set:List Int)(h:List AObj)(hz:Szs names gs)(hs:set.length≤1000000000)(h8:qb7 names gs set=0→names.length≤8∧gs.length≤8):
  ACalls Tryz.prog 142 [strs names,qF gs,ql set] h (.tup [strs (shR names gs set),.int .i64 (qb7 names gs set)]) h:=by
 have c95:=fun h=>qDu names gs set h hz hs
 unfold shR
 by_cases g:qb7 names gs set=0
 case neg=>
  have k0:(qb7 names gs set=0)=False:=eq_false g;rw[if_neg g];refine acO qqO ?_;simp (disch:=omega) only[qrZ,go_sem]
  repeat' first
   |(refine cA (c95 _) ?_ ?_;exact flk;simp (disch:=omega) only[k0,go_sem])
   |(apply qb;exact rvk;simp only[go_sem])
   |with_reducible apply aiA
  all_goals try exact clz
  exact zD ⟨jS,qj,trivial⟩
 rw[if_pos g,g];simp only[g]at c95;obtain⟨n8,g8⟩:=h8 g;have hse:sgE names gs=0∧qcW names.length set=0:=by
  unfold qb7 at g;split at g
  ·rename_i h;exact⟨h,g⟩
  ·cases g
 have hin:=(qbC hse.2).1;have hin64:inB 64 set:=fun i hi=>by have:=hin i hi;omega
 have hmi:=qfB hse.1;have hml:=hz.gm;have hgl:=hz.g;have c96:=fun h=>qA6 set h hs hin64
 have hall:qam set<2^8:=Nat.lt_of_lt_of_le (qfL (by omega) hin) (Nat.pow_le_pow_right (by omega) n8);obtain⟨all,hA⟩: ∃all,all=qam set:=⟨_,rfl⟩
 have hpin:=fun {c} hc {p}=>qro (names:=names) (gs:=gs) (set:=set) (all:=all) hin (by omega) hA (c:=c) hc (p:=p)
 rw[←hA]at hall;simp only[←hA]at c96;have c97:=fun h=>qDN gs all h (by omega) hmi hml (by omega)
 have hLin:=fun {x}=> @qgj gs all x
 have hLl:(qbK gs all).length≤8:=by have:=zL (qhm gs all) gs.length;unfold qbK;omega
 have hbA:qzY gs all=bst gs all (qbK gs all) (2^(qbK gs all).length-1):=rfl;rw[←hA,hbA];have hbs:=qjX gs all (qbK gs all);obtain⟨L,hL⟩: ∃L,L=qbK gs all:=⟨_,rfl⟩
 simp only[←hL]at c97 hLin hpin;rw[←hL]at hLl;rw[←hL]at hbs ⊢;have hmsl:=qgc gs L;have hmsg:=fun {i} hi=>qgb (gs:=gs) (L:=L) (i:=i) hi
 have hmlt:=qrx hmi L;obtain⟨ms,hms⟩: ∃ms,ms=usM gs L:=⟨_,rfl⟩
 rw[←hms]at hmsl;simp only[←hms]at hmsg hmlt;have z1: ∀g,valL g .len [ql L]= .int .i64 L.length:=fun _=>rfl
 have z2: ∀g,okL g .len [ql L]=True:=fun _=>eq_true trivial
 refine acO qqO ?_;simp (disch:=omega) only[qrZ,go_sem]
 repeat' first
  |((first|refine cA (c95 _) ?_ ?_|refine cA (c96 _) ?_ ?_|refine cA (c97 _) ?_ ?_);exact flk;simp (disch:=omega) only[z1,z2,go_sem])
  |with_reducible apply aiA
 all_goals try exact clz
 refine qm (T:=fun s:Nat×Nat×AObj=>qI 151 [(0,strs names),(4,.op h.length 1 0),(9,.op (h.length+2) 1 0),(10,.op (h.length+3) 1 0),(11,.osl (h.length+4) s.2.1 1 0 s.1),(39,ql L),(40,.int .i64 L.length),(41,.int .i64 s.1)])
  (H:=fun s=>h++ [.mem 1 44 [qF gs],.emp 1,.mem 1 164 [.int .u64 ((all:Nat):Int)],.mem 1 62 [ql L],zV s.2.1 164 (qea (ms.take s.1)),s.2.2,.emp 0,.emp 0,.emp 0,.emp 0,.emp 0,.emp 0,.emp 0,.emp 0,.emp 0,.emp 0,.emp 0,.emp 0,.emp 0])
  (inv:=fun s=>s.1≤L.length∧qz [s.2.2] 0=true) (m:=fun s=>L.length-s.1) (0,1,.emp 0) ⟨Nat.zero_le _,rfl⟩ (Wk.temps ?_) ?_
 ·(simp only[go_sem,qh,qd,qa,qg];try (repeat' first|(with_reducible apply aiA)|(apply qi;omega)|(apply qe;rfl)|exact qj))
 rintro⟨i,v,O5⟩ ⟨i1,i2⟩ K hK;simp only at i1 i2 hK;have i2': ∀m,qz (O5::m) 0=true:=fun _=>i2
 by_cases hi:i<L.length
 ·have k1:((i:Int)<L.length)=True:=eq_true (by omega);have hst:=qiH (L:=ms) (i:=i) (by omega);rw[hmsg hi]at hst;have hm:L.getD i 0∈L:=by rw[gdqA,zA hi];exact List.getElem_mem hi
  obtain⟨y,hy,hyl⟩:=hLin hm;rw[hy]at hst;simp only[Int.toNat_natCast]at hst;have k2:((y:Int)<gs.length)=True:=eq_true (by omega);have k3:(0≤(y:Int))=True:=eq_true (by omega);have c96:=fun h=>qA6 (gs.getD y default).mem h (hml y) (hmi y)
  obtain⟨gr,hgr⟩: ∃gr,gr=gs.getD y default:=⟨_,rfl⟩
  have egr:=hgr.symm;simp only[egr]at c96;rw[egr]at hst;have eCl:(qea (ms.take i)).length=i:=by rw[qhg,List.length_take];omega
  have eTk:List.take i (qea (ms.take i))=qea (ms.take i):=List.take_of_length_le (by omega);have zv:ql L= .sl L.length fun i=> [.int .i64 (L.getD i 0)]:=rfl
  simp (disch:=omega) only[qF,grC,zv,k1,k2,k3,hy,egr,Int.toNat_natCast,go_sem]
  repeat' first
   |(refine cA (c96 _) ?_ ?_;exact flk;simp (disch:=omega) only[i2',eCl,eTk,Nat.mul_one,go_sem])
   |with_reducible apply aiA
  all_goals try exact clz
  have eA:qea (ms.take i)++ [AV.int .u64 ((qam gr.mem:Nat):Int)]=qea (ms.take (i+1)):=by rw[hst,qqb];rfl
  rw[eA];refine hK _ _ (i+1,v+1,.mem (qq (some O5)+1) 164 [.int .u64 ((qam gr.mem:Nat):Int)]) ⟨hi,rfl⟩ (by simp only;omega) ?_;simp only[zv,qF,grC];refine Wk.temps ?_
  (simp only[go_sem,qh,qd,qa,qg];try (repeat' first|(with_reducible apply aiA)|(apply qi;omega)|(apply qe;rfl)|exact qj))
 obtain rfl:i=L.length:=by omega
 have k1:((L.length:Int)<L.length)=False:=eq_false (by omega);have emt:ms.take L.length=ms:=List.take_of_length_le (by omega);rw[emt];simp (disch:=omega) only[k1,go_sem];have hbs0:bsO h gs all L 0 .nl (.emp 0):= .inl ⟨rfl,rfl⟩;refine⟨qI 151 [(0,strs names),(4,.op h.length 1 0),(9,.op (h.length+2) 1 0),(10,.op (h.length+3) 1 0),(11,ke ms),(14,.op (h.length+7) 1 0),(15,.op (h.length+8) 1 0)],shH h gs all L (v+1) O5 .nl false (.emp 0) (.emp 0) (.emp 0) [],Wk.trans (Wk.freeze [h.length+4] (by simp only[kq,go_sem])) ?_,?_⟩
 ·unfold shH;simp only[qcR,List.map,go_sem];refine Wk.temps ?_
  (simp only[go_sem,qh,qd,qa,qg];try (repeat' first|(with_reducible apply aiA)|(apply qi;omega)|(apply qe;rfl)|exact qj))
  all_goals first
   |(rw[if_neg (by simp)];exact qj)
   |(rw[if_pos (by simp),if_pos (by simp)];exact qpQ (fun _=>rfl) (by omega))
 have c98:=fun h=>qCH ms h
 simp (disch:=omega) only[go_sem]
 repeat' first
  |(refine cA (c98 _) ?_ ?_;exact flk;simp (disch:=omega) only[go_sem])
 refine qaU (xs:=qnB ms) (itC ms (by omega) hmlt) (qob ms)
  (S:=fun i hh=> ∃bc O9 O10 O12,bsO h gs all L i bc O9∧(∀n,qaj n O9)∧qz [O10] 0=true∧(∀n,qaj n O10)∧qz [O12] 0=true∧(∀n,qaj n O12)∧hh=shH h gs all L (v+1) O5 bc (decide (0<i)) O9 O10 O12 [])
  (E:=fun _ _=>False) ?_ (fun _ _ h=>h.elim) ?_ ?_ ?_ ?_ (fun _ _ h=>h.elim)
 ·rintro i hh ⟨bc,O9,O10,O12,b1,b2,b4,b5,b6,b7,rfl⟩;have hbc:ji (h.length+19) bc=true∧ji (h.length+19+1) bc=true:=by
   rcases b1 with⟨rfl,_⟩|⟨j,w,_,rfl,_⟩
   ·cases i<;>exact⟨rfl,rfl⟩
   ·constructor<;>simp[ji]<;>omega
  unfold shH;refine LowI.app rfl (fun o ho=> ?_);have e19:([.mem 1 44 [qF gs],.emp 1,.mem 1 164 [.int .u64 ((all:Nat):Int)],.mem 1 62 [ql L],.emp (v+1),O5,.emp 0,.mem 1 62 [.nl],.mem 1 4 [.bool false],.emp 0,.emp 0,.emp 0,.emp 0,.emp 0,.emp 0,.emp 0,.emp 0,.emp 0,.emp 0]:List AObj).length=19:=rfl;simp only[List.mem_cons,List.not_mem_nil,or_false]at ho;rcases ho with rfl|rfl|rfl|rfl|rfl|rfl|rfl|rfl|rfl|rfl|rfl|rfl|rfl|rfl|rfl|rfl|rfl|rfl|rfl
  all_goals first
   |(left;simp;done)
   |(right;exact⟨b2 _,b2 _⟩)
   |(right;exact⟨b5 _,b5 _⟩)
   |(right;exact⟨b7 _,b7 _⟩)
   |(right;rw[e19];constructor<;>(intro c hc;simp only[List.mem_cons,List.not_mem_nil,or_false]at hc;subst hc;first|rfl|exact hbc.1|exact hbc.2))
 ·exact⟨.nl,.emp 0,.emp 0,.emp 0,hbs0,fun _=>trivial,rfl,fun _=>trivial,rfl,fun _=>trivial,rfl⟩
 ·rw[jr];simp[ji,ji.lowVs,qdG,qlp]
  try omega
 ·rintro i hh tl LI TS hi ⟨bc,O9,O10,O12,b1,b2,b4,b5,b6,b7,rfl⟩ hq K K2 hK hN hR hX;rw[qgv hi];rw[qdw,hmsl]at hi;simp only[qb6];simp (disch:=omega) only[go_sem];refine hK _ _ (shH h gs all L (v+1) O5 bc (decide (0<i)) O9 O10 O12 []) rfl (by rw[jr,jr]) ?_;rw[qbD];obtain⟨O9',p9,l9,w⟩:=shW (tl:= .lp .busy TS LI::tl) (v4:=v+1) (O5:=O5) (fd:=decide (0<i)) (O10:=O10) (O12:=O12) b1 b2;have p9': ∀m,qz (O9'::m) 0=true:=fun _=>p9
  have hi8:i<256:=Nat.lt_of_lt_of_le hi (Nat.pow_le_pow_right (by omega) hLl:2^L.length≤2^8);have hchl:=qqy hmlt i;obtain⟨m,hm⟩: ∃m,m=chN ms i:=⟨_,rfl⟩
  rw[←hm]at hchl;have hand:=qgl (a:=all) (b:=m) (by omega) hchl;have hanl:anN all m<256:=qqt (n:=8) hall;have c99a:=fun h=>qCj i h hi8
  have c99b:=fun h=>qCj (anN all m) h hanl
  have c100a:=fun h=>qCf i h (by omega)
  have c100b:=fun h=>qCf (anN all m) h (by omega)
  have hplc0:kr gs all L i=(zZ i.testBit 64).map (fun k=>L.getD k.toNat 0)++(zZ (anN all m).testBit 64).map (fun s=>(gs.length:Int)+s):=by unfold kr;rw[←hms,←hm]
  have hpl:=qcf gs all L i;rw[←hms,←hm]at hpl;have hpi:ql6 i=(zZ i.testBit 64).length:=rfl;have hpj:ql6 (anN all m)=(zZ (anN all m).testBit 64).length:=rfl;have hM1: ∀x∈zZ i.testBit 64,∃y:Nat,x=(y:Int)∧y<L.length:=fun x hx=>by
   obtain⟨y,e1,e2,e3⟩:=kZ hx;exact⟨y,e1,qdM hi e3⟩
  have hM2: ∀x∈zZ (anN all m).testBit 64,∃y:Nat,x=(y:Int)∧y<64:=fun x hx=>by
   obtain⟨y,e1,e2,e3⟩:=kZ hx;exact⟨y,e1,e2⟩
  have hM1l:=zL i.testBit 64;have hM2l:=zL (anN all m).testBit 64;obtain⟨M,hM⟩: ∃M,M=zZ i.testBit 64:=⟨_,rfl⟩
  obtain⟨M2,hM'⟩: ∃M2,M2=zZ (anN all m).testBit 64:=⟨_,rfl⟩
  obtain⟨s1,hs1⟩: ∃s1,s1=ql6 i:=⟨_,rfl⟩
  obtain⟨s2,hs2⟩: ∃s2,s2=ql6 (anN all m):=⟨_,rfl⟩
  rw[←hM]at hplc0 hpi hM1 hM1l;rw[←hM']at hplc0 hpj hM2 hM2l;rw[←hs1]at hpi;rw[←hs2]at hpj;rw[←hs1,←hs2]at hpl;simp only[←hM]at c100a;simp only[←hM']at c100b;simp only[←hs1]at c99a;simp only[←hs2]at c99b;obtain⟨F,hF⟩: ∃F,F=M.map (fun k=>L.getD k.toNat 0):=⟨_,rfl⟩
  obtain⟨G,hG⟩: ∃G,G=M2.map (fun s=>(gs.length:Int)+s):=⟨_,rfl⟩
  have hplc:kr gs all L i=F++G:=by rw[hplc0,hF,hG]
  have hFl:F.length=M.length:=by rw[hF,List.length_map]
  have hGl:G.length=M2.length:=by rw[hG,List.length_map]
  have hMF: ∀j,j<M.length→ ∃y:Nat,M.getD j 0=(y:Int)∧y<L.length∧F.getD j 0=L.getD y 0:=fun j hj=>by
   have hm:M.getD j 0∈M:=by rw[gdqA,zA hj];exact List.getElem_mem hj
   obtain⟨y,e1,e2⟩:=hM1 _ hm;refine⟨y,e1,e2,?_⟩;rw[gdqA,zA hj]at e1;have e1:M[j]=(y:Int):=e1;rw[hF,gdqA,List.getElem?_map,zA hj,e1];rfl
  have hMG: ∀j,j<M2.length→ ∃y:Nat,M2.getD j 0=(y:Int)∧y<64∧G.getD j 0=(gs.length:Int)+y:=fun j hj=>by
   have hm:M2.getD j 0∈M2:=by rw[gdqA,zA hj];exact List.getElem_mem hj
   obtain⟨y,e1,e2⟩:=hM2 _ hm;refine⟨y,e1,e2,?_⟩;rw[gdqA,zA hj]at e1;have e1:M2[j]=(y:Int):=e1;rw[hG,gdqA,List.getElem?_map,zA hj,e1];rfl
  have zM1: ∀g,valL g .len [ql M]= .int .i64 M.length:=fun _=>rfl
  have zM2: ∀g,okL g .len [ql M]=True:=fun _=>eq_true trivial
  simp only[←hm];simp (disch:=omega) only[go_sem];refine⟨_,_,w _,?_⟩;clear w;cases i with
  |zero=>
   have hfd:decide (0<0)=false:=rfl;simp (disch:=omega) only[shH,hfd,bsC,go_sem]
   repeat' first
    |((first|refine cA (c99a _) ?_ ?_|refine cA (c99b _) ?_ ?_|refine cA (c100a _) ?_ ?_);exact flk;simp (disch:=omega) only[p9',hand,zM1,zM2,go_sem])
    |with_reducible first|intro _|apply aiA
   all_goals try exact clz
   refine qm (T:=fun j:Nat×Nat×AObj=>qI 151 [(0,strs names),(4,.op h.length 1 0),(9,.op (h.length+2) 1 0),(10,.op (h.length+3) 1 0),(14,.op (h.length+7) 1 0),(15,.op (h.length+8) 1 0),(16,.int .u64 ((0:Nat):Int)),(17,.int .u64 ((m:Nat):Int)),(19,.osl (h.length+9) j.2.1 1 0 j.1),(74,ql M),(75,.int .i64 M.length),(76,.int .i64 j.1)])
    (H:=fun j=>shH h gs all L (v+1) O5 .nl false (zV j.2.1 3 (qx (F.take j.1))) j.2.2 O12 (.lp .busy TS LI::tl))
    (inv:=fun j=>j.1≤M.length∧qz [j.2.2] 0=true∧ ∀n,qaj n j.2.2) (m:=fun j=>M.length-j.1) (0,qq (some O9')+1,O10) ⟨Nat.zero_le _,b4,b5⟩ (Wk.temps ?_) ?_
   ·(simp only[go_sem,qh,qd,qa,qg];try (repeat' first|(with_reducible apply aiA)|(apply qi;omega)|(apply qe;rfl)|exact qj))
   rintro⟨j,u,O10⟩ ⟨j1,j2,j3⟩ KA hKA;simp only at j1 j2 j3 hKA;have j2': ∀m,qz (O10::m) 0=true:=fun _=>j2
   by_cases hj:j<M.length
   ·have q1:((j:Int)<M.length)=True:=eq_true (by omega);obtain⟨y,hy,hyl,hyF⟩:=hMF j hj;have q2:((y:Int)<L.length)=True:=eq_true (by omega);have q3:(0≤(y:Int))=True:=eq_true (by omega);have hst:=jh (L:=F) (i:=j) (by omega);rw[hyF]at hst;have eC:=qV (F.take j);rw[List.length_take,Nat.min_eq_left (by omega)]at eC;have eTk:List.take j (qx (F.take j))=qx (F.take j):=List.take_of_length_le (by omega);have zv: ∀X:List Int,ql X= .sl X.length fun i=> [.int .i64 (X.getD i 0)]:=fun _=>rfl
    simp (disch:=omega) only[shH,q1,q2,q3,j2',zv,hy,Nat.mul_one,Int.toNat_natCast,go_sem]
    repeat' first
     |with_reducible apply aiA
    all_goals try exact clz
    have eA:qx (F.take j)++ [AV.int .i64 (L.getD y 0)]=qx (F.take (j+1)):=by rw[hst,zN];rfl
    try rw[eTk]
    rw[eA];refine hKA _ _ (j+1,u+1,.mem (qq (some O10)+1) 3 [.int .i64 (L.getD y 0)]) ⟨hj,rfl,fun n c hc=>by simp only[List.mem_cons,List.not_mem_nil,or_false]at hc;subst hc;rfl⟩ (by simp only;omega) ?_;simp only[shH,zv];refine Wk.temps ?_
    (simp only[go_sem,qh,qd,qa,qg];try (repeat' first|(with_reducible apply aiA)|(apply qi;omega)|(apply qe;rfl)|exact qj))
   obtain rfl:j=M.length:=by omega
   have q1:((M.length:Int)<M.length)=False:=eq_false (by omega);have eFt:F.take M.length=F:=List.take_of_length_le (by omega);rw[eFt];have zm1: ∀g,valL g .len [ql M2]= .int .i64 M2.length:=fun _=>rfl
   have zm2: ∀g,okL g .len [ql M2]=True:=fun _=>eq_true trivial
   simp (disch:=omega) only[shH,q1,hand,go_sem]
   repeat' first
    |(refine cA (c100b _) ?_ ?_;exact flk;simp (disch:=omega) only[zm1,zm2,go_sem])
    |with_reducible apply aiA
   all_goals try exact clz
   refine qm (T:=fun j:Nat×Nat×AObj=>qI 151 [(0,strs names),(4,.op h.length 1 0),(9,.op (h.length+2) 1 0),(10,.op (h.length+3) 1 0),(14,.op (h.length+7) 1 0),(15,.op (h.length+8) 1 0),(19,.osl (h.length+9) j.2.1 1 0 (F.length+j.1)),(91,ql M2),(92,.int .i64 M2.length),(93,.int .i64 j.1)])
    (H:=fun j=>shH h gs all L (v+1) O5 .nl false (zV j.2.1 3 (qx (F++G.take j.1))) O10 j.2.2 (.lp .busy TS LI::tl))
    (inv:=fun j=>j.1≤M2.length∧qz [j.2.2] 0=true∧ ∀n,qaj n j.2.2) (m:=fun j=>M2.length-j.1) (0,u,O12) ⟨Nat.zero_le _,b6,b7⟩ ?_ ?_
   ·have e0:F++G.take 0=F:=by simp
    simp only[e0,Nat.add_zero,hFl];unfold shH;refine Wk.temps ?_
    (simp only[go_sem,qh,qd,qa,qg];try (repeat' first|(with_reducible apply aiA)|(apply qi;omega)|(apply qe;rfl)|exact qj))
   rintro⟨j,u2,O12⟩ ⟨k1,k2,k3⟩ KB hKB;simp only at k1 k2 k3 hKB;have k2': ∀m,qz (O12::m) 0=true:=fun _=>k2
   by_cases hj2:j<M2.length
   ·have q5:((j:Int)<M2.length)=True:=eq_true (by omega);obtain⟨y,hy,hyl,hyG⟩:=hMG j hj2;have hst:F++G.take (j+1)=(F++G.take j)++ [(gs.length:Int)+y]:=by rw[jh (L:=G) (i:=j) (by omega),hyG,List.append_assoc]
    have eC:=qV (F++G.take j);rw[List.length_append,List.length_take,Nat.min_eq_left (by omega)]at eC;have eTk:List.take (F.length+j) (qx (F++G.take j))=qx (F++G.take j):=List.take_of_length_le (by omega);have zg1: ∀g,valL g .len [qF gs]= .int .i64 gs.length:=fun _=>rfl
    have zg2: ∀g,okL g .len [qF gs]=True:=fun _=>eq_true trivial
    have zv: ∀X:List Int,ql X= .sl X.length fun i=> [.int .i64 (X.getD i 0)]:=fun _=>rfl
    simp (disch:=omega) only[shH,q5,k2',zv,hy,zg1,zg2,Nat.mul_one,Int.toNat_natCast,go_sem]
    repeat' first
     |with_reducible apply aiA
    all_goals try exact clz
    have eA:qx (F++G.take j)++ [AV.int .i64 ((gs.length:Int)+y)]=qx (F++G.take (j+1)):=by rw[hst,zN (F++G.take j)];rfl
    try rw[eTk]
    rw[eA];refine hKB _ _ (j+1,u2+1,.mem (qq (some O12)+1) 3 [.int .i64 ((gs.length:Int)+y)]) ⟨hj2,rfl,fun n c hc=>by simp only[List.mem_cons,List.not_mem_nil,or_false]at hc;subst hc;rfl⟩ (by simp only;omega) ?_;simp only[shH,zv];refine Wk.temps ?_
    (simp only[go_sem,qh,qd,qa,qg];try (repeat' first|(with_reducible apply aiA)|(apply qi;omega)|(apply qe;rfl)|exact qj))
   obtain rfl:j=M2.length:=by omega
   have q5:((M2.length:Int)<M2.length)=False:=eq_false (by omega);have eGt:F++G.take M2.length=kr gs all L 0:=by rw[List.take_of_length_le (by omega),hplc]
   have eln:F.length+M2.length=(kr gs all L 0).length:=by rw[hplc,List.length_append];omega
   rw[eGt,eln];simp (disch:=omega) only[shH,q5,go_sem]
   repeat' first
    |(refine qk (.int .i64 0) ?_;simp (disch:=omega) only[go_sem])
    |with_reducible apply aiA
   all_goals try exact clz
   refine hN _ _ (shH h gs all L (v+1) O5 (.osl (h.length+9) u2 1 0 (kr gs all L 0).length) true (zV u2 3 (qx (kr gs all L 0))) O10 O12 []) ?_ (by rw[jr,jr]) ⟨_,_,_,_,.inr ⟨0,u2,rfl,rfl,rfl⟩,fun n=>qaE (qba _ _),j2,j3,k2,k3,rfl⟩;rw[qbD];rfl
  |succ i'=>
   have hfd:decide (0<i'+1)=true:=decide_eq_true (by omega);have hfd2:decide (0<i'+1+1)=true:=decide_eq_true (by omega);have hbs':bst gs all L (i'+1)=if qi9 (kr gs all L (i'+1)) (bst gs all L i')=true then kr gs all L (i'+1) else bst gs all L i':=rfl
   have hbc:bsC gs all L (i'+1)=ql (bst gs all L i'):=rfl;obtain⟨b,hb⟩: ∃b,b=bst gs all L i':=⟨_,rfl⟩
   rw[←hb]at hbs' hbc;have zb1: ∀g,valL g .len [ql b]= .int .i64 b.length:=fun _=>rfl
   have zb2: ∀g,okL g .len [ql b]=True:=fun _=>eq_true trivial
   by_cases hsk:b.length<s1+s2
   ·have r0:((b.length:Int)<(s1:Int)+s2)=True:=eq_true (by omega);simp (disch:=omega) only[shH,hfd,hbc,go_sem]
    repeat' first
     |((first|refine cA (c99a _) ?_ ?_|refine cA (c99b _) ?_ ?_);exact flk;simp (disch:=omega) only[p9',hand,zb1,zb2,r0,go_sem])
     |with_reducible apply aiA
    all_goals try exact clz
    have hbt:bst gs all L (i'+1)=b:=by rw[hbs',if_neg (by unfold qi9;rw[hpl];simp;omega)]
    refine hN _ _ (shH h gs all L (v+1) O5 (ql b) true O9' O10 O12 []) ?_ (by rw[jr,jr]) ⟨_,_,_,_,.inl ⟨by show ql b=ql (bst gs all L (i'+1));rw[hbt],p9⟩,l9,b4,b5,b6,b7,by rw[hfd2]⟩;rw[qbD];rfl
   have r0:((b.length:Int)<(s1:Int)+s2)=False:=eq_false (by omega);simp (disch:=omega) only[shH,hfd,hbc,go_sem]
   repeat' first
    |((first|refine cA (c99a _) ?_ ?_|refine cA (c99b _) ?_ ?_|refine cA (c100a _) ?_ ?_);exact flk;simp (disch:=omega) only[p9',hand,zM1,zM2,zb1,zb2,r0,go_sem])
    |with_reducible apply aiA
   all_goals try exact clz
   refine qm (T:=fun j:Nat×Nat×AObj=>qI 151 [(0,strs names),(4,.op h.length 1 0),(9,.op (h.length+2) 1 0),(10,.op (h.length+3) 1 0),(14,.op (h.length+7) 1 0),(15,.op (h.length+8) 1 0),(16,.int .u64 (((i'+1):Nat):Int)),(17,.int .u64 ((m:Nat):Int)),(19,.osl (h.length+9) j.2.1 1 0 j.1),(74,ql M),(75,.int .i64 M.length),(76,.int .i64 j.1)])
    (H:=fun j=>shH h gs all L (v+1) O5 (ql b) true (zV j.2.1 3 (qx (F.take j.1))) j.2.2 O12 (.lp .busy TS LI::tl))
    (inv:=fun j=>j.1≤M.length∧qz [j.2.2] 0=true∧ ∀n,qaj n j.2.2) (m:=fun j=>M.length-j.1) (0,qq (some O9')+1,O10) ⟨Nat.zero_le _,b4,b5⟩ (Wk.temps ?_) ?_
   ·(simp only[go_sem,qh,qd,qa,qg];try (repeat' first|(with_reducible apply aiA)|(apply qi;omega)|(apply qe;rfl)|exact qj))
   rintro⟨j,u,O10⟩ ⟨j1,j2,j3⟩ KA hKA;simp only at j1 j2 j3 hKA;have j2': ∀m,qz (O10::m) 0=true:=fun _=>j2
   by_cases hj:j<M.length
   ·have q1:((j:Int)<M.length)=True:=eq_true (by omega);obtain⟨y,hy,hyl,hyF⟩:=hMF j hj;have q2:((y:Int)<L.length)=True:=eq_true (by omega);have q3:(0≤(y:Int))=True:=eq_true (by omega);have hst:=jh (L:=F) (i:=j) (by omega);rw[hyF]at hst;have eC:=qV (F.take j);rw[List.length_take,Nat.min_eq_left (by omega)]at eC;have eTk:List.take j (qx (F.take j))=qx (F.take j):=List.take_of_length_le (by omega);have zv: ∀X:List Int,ql X= .sl X.length fun i=> [.int .i64 (X.getD i 0)]:=fun _=>rfl
    simp (disch:=omega) only[shH,q1,q2,q3,j2',zv,hy,Nat.mul_one,Int.toNat_natCast,go_sem]
    repeat' first
     |with_reducible apply aiA
    all_goals try exact clz
    have eA:qx (F.take j)++ [AV.int .i64 (L.getD y 0)]=qx (F.take (j+1)):=by rw[hst,zN];rfl
    try rw[eTk]
    rw[eA];refine hKA _ _ (j+1,u+1,.mem (qq (some O10)+1) 3 [.int .i64 (L.getD y 0)]) ⟨hj,rfl,fun n c hc=>by simp only[List.mem_cons,List.not_mem_nil,or_false]at hc;subst hc;rfl⟩ (by simp only;omega) ?_;simp only[shH,zv];refine Wk.temps ?_
    (simp only[go_sem,qh,qd,qa,qg];try (repeat' first|(with_reducible apply aiA)|(apply qi;omega)|(apply qe;rfl)|exact qj))
   obtain rfl:j=M.length:=by omega
   have q1:((M.length:Int)<M.length)=False:=eq_false (by omega);have eFt:F.take M.length=F:=List.take_of_length_le (by omega);rw[eFt];have zm1: ∀g,valL g .len [ql M2]= .int .i64 M2.length:=fun _=>rfl
   have zm2: ∀g,okL g .len [ql M2]=True:=fun _=>eq_true trivial
   simp (disch:=omega) only[shH,q1,hand,go_sem]
   repeat' first
    |(refine cA (c100b _) ?_ ?_;exact flk;simp (disch:=omega) only[zm1,zm2,go_sem])
    |with_reducible apply aiA
   all_goals try exact clz
   refine qm (T:=fun j:Nat×Nat×AObj=>qI 151 [(0,strs names),(4,.op h.length 1 0),(9,.op (h.length+2) 1 0),(10,.op (h.length+3) 1 0),(14,.op (h.length+7) 1 0),(15,.op (h.length+8) 1 0),(19,.osl (h.length+9) j.2.1 1 0 (F.length+j.1)),(91,ql M2),(92,.int .i64 M2.length),(93,.int .i64 j.1)])
    (H:=fun j=>shH h gs all L (v+1) O5 (ql b) true (zV j.2.1 3 (qx (F++G.take j.1))) O10 j.2.2 (.lp .busy TS LI::tl))
    (inv:=fun j=>j.1≤M2.length∧qz [j.2.2] 0=true∧ ∀n,qaj n j.2.2) (m:=fun j=>M2.length-j.1) (0,u,O12) ⟨Nat.zero_le _,b6,b7⟩ ?_ ?_
   ·have e0:F++G.take 0=F:=by simp
    simp only[e0,Nat.add_zero,hFl];unfold shH;refine Wk.temps ?_
    (simp only[go_sem,qh,qd,qa,qg];try (repeat' first|(with_reducible apply aiA)|(apply qi;omega)|(apply qe;rfl)|exact qj))
   rintro⟨j,u2,O12⟩ ⟨k1,k2,k3⟩ KB hKB;simp only at k1 k2 k3 hKB;have k2': ∀m,qz (O12::m) 0=true:=fun _=>k2
   by_cases hj2:j<M2.length
   ·have q5:((j:Int)<M2.length)=True:=eq_true (by omega);obtain⟨y,hy,hyl,hyG⟩:=hMG j hj2;have hst:F++G.take (j+1)=(F++G.take j)++ [(gs.length:Int)+y]:=by rw[jh (L:=G) (i:=j) (by omega),hyG,List.append_assoc]
    have eC:=qV (F++G.take j);rw[List.length_append,List.length_take,Nat.min_eq_left (by omega)]at eC;have eTk:List.take (F.length+j) (qx (F++G.take j))=qx (F++G.take j):=List.take_of_length_le (by omega);have zg1: ∀g,valL g .len [qF gs]= .int .i64 gs.length:=fun _=>rfl
    have zg2: ∀g,okL g .len [qF gs]=True:=fun _=>eq_true trivial
    have zv: ∀X:List Int,ql X= .sl X.length fun i=> [.int .i64 (X.getD i 0)]:=fun _=>rfl
    simp (disch:=omega) only[shH,q5,k2',zv,hy,zg1,zg2,Nat.mul_one,Int.toNat_natCast,go_sem]
    repeat' first
     |with_reducible apply aiA
    all_goals try exact clz
    have eA:qx (F++G.take j)++ [AV.int .i64 ((gs.length:Int)+y)]=qx (F++G.take (j+1)):=by rw[hst,zN (F++G.take j)];rfl
    try rw[eTk]
    rw[eA];refine hKB _ _ (j+1,u2+1,.mem (qq (some O12)+1) 3 [.int .i64 ((gs.length:Int)+y)]) ⟨hj2,rfl,fun n c hc=>by simp only[List.mem_cons,List.not_mem_nil,or_false]at hc;subst hc;rfl⟩ (by simp only;omega) ?_;simp only[shH,zv];refine Wk.temps ?_
    (simp only[go_sem,qh,qd,qa,qg];try (repeat' first|(with_reducible apply aiA)|(apply qi;omega)|(apply qe;rfl)|exact qj))
   obtain rfl:j=M2.length:=by omega
   have q5:((M2.length:Int)<M2.length)=False:=eq_false (by omega);have eGt:F++G.take M2.length=kr gs all L (i'+1):=by rw[List.take_of_length_le (by omega),hplc]
   have eln:F.length+M2.length=(kr gs all L (i'+1)).length:=by rw[hplc,List.length_append];omega
   rw[eGt,eln]
   by_cases h1:(kr gs all L (i'+1)).length<b.length
   ·have r1:(((kr gs all L (i'+1)).length:Int)<b.length)=True:=eq_true (by omega);simp (disch:=omega) only[shH,q5,zb1,zb2,r1,go_sem]
    repeat' first
     |(refine qk (.int .i64 0) ?_;simp (disch:=omega) only[go_sem])
     |with_reducible apply aiA
    all_goals try exact clz
    have hbt:bst gs all L (i'+1)=kr gs all L (i'+1):=by rw[hbs',if_pos (by unfold qi9;simp[h1])]
    refine hN _ _ (shH h gs all L (v+1) O5 (.osl (h.length+9) u2 1 0 (kr gs all L (i'+1)).length) true (zV u2 3 (qx (kr gs all L (i'+1)))) O10 O12 []) ?_ (by rw[jr,jr]) ⟨_,_,_,_,.inr ⟨i'+1,u2,rfl,by rw[hbt],by rw[hbt]⟩,fun n=>qaE (qba _ _),j2,j3,k2,k3,by rw[hfd2]⟩;rw[qbD];rfl
   have r1:(((kr gs all L (i'+1)).length:Int)<b.length)=False:=eq_false (by omega);have heq:(kr gs all L (i'+1)).length=b.length:=by omega
   simp (disch:=omega) only[shH,q5,zb1,zb2,r1,go_sem]
   repeat' first
    |with_reducible apply aiA
   all_goals try exact clz
   refine cG (fun _=>qCJ (kr gs all L (i'+1)) b (h.length+9) u2 _ _ rfl (by simp only[go_sem]) heq (by omega)) (fun _=>by exact flk) ?_
   by_cases h2:qoe (kr gs all L (i'+1)) b<0
   ·have r2:(qoe (kr gs all L (i'+1)) b<0)=True:=eq_true h2;simp (disch:=omega) only[r2,go_sem];have hbt:bst gs all L (i'+1)=kr gs all L (i'+1):=by rw[hbs',if_pos (by unfold qi9;simp[heq,h2])]
    refine hN _ _ (shH h gs all L (v+1) O5 (.osl (h.length+9) u2 1 0 (kr gs all L (i'+1)).length) true (zV u2 3 (qx (kr gs all L (i'+1)))) O10 O12 []) ?_ (by rw[jr,jr]) ⟨_,_,_,_,.inr ⟨i'+1,u2,rfl,by rw[hbt],by rw[hbt]⟩,fun n=>qaE (qba _ _),j2,j3,k2,k3,by rw[hfd2]⟩;rw[qbD];rfl
   ·have r2:(qoe (kr gs all L (i'+1)) b<0)=False:=eq_false h2;simp (disch:=omega) only[r2,go_sem];have hbt:bst gs all L (i'+1)=b:=by rw[hbs',if_neg (by unfold qi9;simp[heq,h2])]
    refine hN _ _ (shH h gs all L (v+1) O5 (ql b) true (zV u2 3 (qx (kr gs all L (i'+1)))) O10 O12 []) ?_ (by rw[jr,jr]) ⟨_,_,_,_,.inl ⟨by show ql b=ql (bst gs all L (i'+1));rw[hbt],site_own0⟩,fun n=>qaE (qba _ _),j2,j3,k2,k3,by rw[hfd2]⟩;rw[qbD];rfl
 ·rintro hh ⟨bc,O9,O10,O12,b1,b2,b4,b5,b6,b7,rfl⟩;rw[qdw,hmsl]at b1 ⊢;have hN1:1≤2^L.length:=Nat.one_le_two_pow;obtain⟨N,hN⟩: ∃N,2^L.length=N+1:=⟨2^L.length-1,by omega⟩
  obtain⟨kb,kb1,kb2⟩:=hbs N;have hBin: ∀p∈bst gs all L N,0≤p∧p<gs.length+names.length:=fun p hp=>by
   rw[kb2]at hp;exact hpin (by omega) hp
  have hBl:(bst gs all L N).length≤200:=by
   rw[kb2,qcf];have h1:=zL kb.testBit 64;have h2:=zL (anN all (chN (usM gs L) kb)).testBit 64;unfold ql6;omega
  rw[hN]at b1;rw[show 2^L.length-1=N by omega];obtain⟨fd,hfd⟩: ∃fd,fd=decide (0<2^L.length):=⟨_,rfl⟩
  rw[←hfd];obtain⟨O9',hw⟩: ∃O9',∀TT,Wk TT (h++ [.mem 1 44 [qF gs],.emp 1,.mem 1 164 [.int .u64 ((all:Nat):Int)],.mem 1 62 [ql L],.emp (v+1),O5,.emp 0,.mem 1 62 [bc],.mem 1 4 [.bool fd],O9,O10,.emp 0,O12,.emp 0,.emp 1,.emp 0,.emp 0,.emp 0,.emp 0])
    TT (h++ [.mem 1 44 [qF gs],.emp 1,.mem 1 164 [.int .u64 ((all:Nat):Int)],.mem 1 62 [ql L],.emp (v+1),O5,.emp 0,.mem 1 62 [ql (bst gs all L N)],.mem 1 4 [.bool fd],O9',O10,.emp 0,O12,.emp 0,.emp 1,.emp 0,.emp 0,.emp 0,.emp 0]):=by
   rcases b1 with⟨rfl,p9⟩|⟨j,u,e,rfl,rfl⟩
   ·exact⟨O9,fun TT=>Wk.refl _ _⟩
   ·obtain rfl:N=j:=by omega
    refine⟨.emp (u+1),fun TT=> ?_⟩;have w:=Wk.fzCell (t:=TT) (h:=h++ [.mem 1 44 [qF gs],.emp 1,.mem 1 164 [.int .u64 ((all:Nat):Int)],.mem 1 62 [ql L],.emp (v+1),O5,.emp 0,.mem 1 62 [.osl (h.length+9) u 1 0 (bst gs all L N).length],.mem 1 4 [.bool fd],zV u 3 (qx (bst gs all L N)),O10,.emp 0,O12,.emp 0,.emp 1,.emp 0,.emp 0,.emp 0,.emp 0])
     (j:=h.length+7) (k:=h.length+9) (i:=0) (v:=1) (ty:=62) (cs:= [.osl (h.length+9) u 1 0 (bst gs all L N).length]) (c:= .osl (h.length+9) u 1 0 (bst gs all L N).length) (c':=ql (bst gs all L N))
     (by simp only[go_sem]) rfl (by simp only[go_sem]) (by omega) (by rw[qa4,getO_app];exact qch (fun _=>rfl) rfl)
    simp only[go_sem,List.set_cons_zero]at w;exact w
  simp (disch:=omega) only[shH,go_sem];refine⟨_,_,hw _,?_⟩;obtain⟨B,hB⟩: ∃B,B=bst gs all L N:=⟨_,rfl⟩
  rw[←hB]at hBin hBl ⊢;have zb1: ∀g,valL g .len [ql B]= .int .i64 B.length:=fun _=>rfl
  have zb2: ∀g,okL g .len [ql B]=True:=fun _=>eq_true trivial
  simp (disch:=omega) only[zb1,zb2,go_sem]
  repeat' first
   |with_reducible apply aiA
  all_goals try exact clz
  refine qm (T:=fun s:Nat×Nat×AObj×AObj=>qI 151 [(0,strs names),(4,.op h.length 1 0),(24,.osl (h.length+14) s.2.1 1 0 s.1),(121,ql B),(122,.int .i64 B.length),(123,.int .i64 s.1)])
   (H:=fun s=>h++ [.mem 1 44 [qF gs],.emp 1,.mem 1 164 [.int .u64 ((all:Nat):Int)],.mem 1 62 [ql L],.emp (v+1),O5,.emp 0,.mem 1 62 [ql B],.mem 1 4 [.bool fd],O9',O10,.emp 0,O12,.emp 0,zV s.2.1 9 (zH ((B.map (qal names gs)).take s.1)),s.2.2.1,.emp 0,s.2.2.2,.emp 0])
   (inv:=fun s=>s.1≤B.length∧qz [s.2.2.1] 0=true∧qz [s.2.2.2] 0=true) (m:=fun s=>B.length-s.1) (0,1,.emp 0,.emp 0) ⟨Nat.zero_le _,rfl,rfl⟩ (Wk.temps ?_) ?_
  ·(simp only[go_sem,qh,qd,qa,qg];try (repeat' first|(with_reducible apply aiA)|(apply qi;omega)|(apply qe;rfl)|exact qj))
  rintro⟨i,u,O15,O17⟩ ⟨i1,i2,i3⟩ K hK;simp only at i1 i2 i3 hK;have i2': ∀m,qz (O15::m) 0=true:=fun _=>i2
  have i3': ∀m,qz (O17::m) 0=true:=fun _=>i3
  have eCl:i≤B.length→(zH ((B.map (qal names gs)).take i)).length=i:=fun hi=>by rw[zB,List.length_take,List.length_map];omega
  have zv: ∀X:List Int,ql X= .sl X.length fun i=> [.int .i64 (X.getD i 0)]:=fun _=>rfl
  by_cases hi:i<B.length
  ·have q1:((i:Int)<B.length)=True:=eq_true (by omega);have hm:B.getD i 0∈B:=by rw[gdqA,zA hi];exact List.getElem_mem hi
   obtain⟨p0,p1⟩:=hBin _ hm;have hst:(B.map (qal names gs)).take (i+1)=(B.map (qal names gs)).take i++ [qal names gs (B.getD i 0)]:=by
    rw[←List.map_take,←List.map_take,jh hi,List.map_append];rfl
   have eTk:List.take i (zH ((B.map (qal names gs)).take i))=zH ((B.map (qal names gs)).take i):=List.take_of_length_le (by rw[eCl (by omega)];exact Nat.le_refl _);have eC:=eCl (by omega);have zg1: ∀g,valL g .len [qF gs]= .int .i64 gs.length:=fun _=>rfl
   have zg2: ∀g,okL g .len [qF gs]=True:=fun _=>eq_true trivial
   obtain⟨y,hy⟩: ∃y:Nat,B.getD i 0=(y:Int):=⟨(B.getD i 0).toNat,by omega⟩
   rw[hy]at hst p1
   by_cases hg:y<gs.length
   ·have q2:((y:Int)<gs.length)=True:=eq_true (by omega);have q3:(0≤(y:Int))=True:=eq_true (by omega);have hsg:qal names gs (y:Int)=(gs.getD y default).name:=by unfold qal;rw[if_pos (by omega),Int.toNat_natCast]
    rw[hsg]at hst;simp (disch:=omega) only[zv,qF,grC,q1,q2,q3,hy,i2',Nat.mul_one,Int.toNat_natCast,go_sem]
    repeat' first
     |with_reducible apply aiA
    all_goals try exact clz
    have eA:zH ((B.map (qal names gs)).take i)++ [AV.str (gs.getD y default).name]=zH ((B.map (qal names gs)).take (i+1)):=by rw[hst,qad];rfl
    try rw[eTk]
    rw[eA];refine hK _ _ (i+1,u+1,.mem (qq (some O15)+1) 9 [.str (gs.getD y default).name],O17) ⟨hi,rfl,i3⟩ (by simp only;omega) ?_;simp only[zv,qF,grC];refine Wk.temps ?_
    (simp only[go_sem,qh,qd,qa,qg];try (repeat' first|(with_reducible apply aiA)|(apply qi;omega)|(apply qe;rfl)|exact qj))
   ·have q2:((y:Int)<gs.length)=False:=eq_false (by omega);obtain⟨z,hz⟩: ∃z:Nat,(y:Int)-gs.length=(z:Int):=⟨y-gs.length,by omega⟩
    have q3:((z:Int)<names.length)=True:=eq_true (by omega);have q4:(0≤(z:Int))=True:=eq_true (by omega);have hsg:qal names gs (y:Int)=names.getD z []:=by unfold qal;rw[if_neg (by omega),hz,Int.toNat_natCast]
    rw[hsg]at hst;simp (disch:=omega) only[zv,strs,zg1,zg2,q1,q2,q3,q4,hy,hz,i3',Nat.mul_one,Int.toNat_natCast,go_sem]
    repeat' first
     |with_reducible apply aiA
    all_goals try exact clz
    have eA:zH ((B.map (qal names gs)).take i)++ [AV.str (names.getD z [])]=zH ((B.map (qal names gs)).take (i+1)):=by rw[hst,qad];rfl
    try rw[eTk]
    rw[eA];refine hK _ _ (i+1,u+1,O15,.mem (qq (some O17)+1) 9 [.str (names.getD z [])]) ⟨hi,i2,rfl⟩ (by simp only;omega) ?_;simp only[zv,strs];refine Wk.temps ?_
    (simp only[go_sem,qh,qd,qa,qg];try (repeat' first|(with_reducible apply aiA)|(apply qi;omega)|(apply qe;rfl)|exact qj))
  ·obtain rfl:i=B.length:=by omega
   have q1:((B.length:Int)<B.length)=False:=eq_false (by omega);have eAll:(B.map (qal names gs)).take B.length=B.map (qal names gs):=List.take_of_length_le (by simp);rw[eAll];simp (disch:=omega) only[q1,go_sem]
   repeat' first
    |(apply qb;exact rvk;simp only[go_sem])
   exact zD ⟨qdU (fun _=>rfl) (by simp),qj,trivial⟩
theorem qtB(p:Nat→Bool)(n:Nat):(zZ p n).Pairwise (· < ·):=by
 unfold zZ;rw[List.pairwise_map];exact ((List.pairwise_lt_range (n:=n)).filter _).imp fun h=>by simpa using h
theorem qy2{l:List Int}(h: ∀i,0<i→i<l.length→l.getD (i-1) 0<l.getD i 0):l.Pairwise (· < ·):=by
 rw[List.pairwise_iff_getElem];have key: ∀j i,(hj:j<l.length)→i<j→l.getD i 0<l.getD j 0:=by
  intro j
  induction j with
  |zero=>intro i _ h;omega
  |succ j ih=>
   intro i hj hi;have h1:=h (j+1) (by omega) hj;rw[Nat.add_sub_cancel]at h1
   by_cases e:i=j
   ·subst e;exact h1
   ·have:=ih i (by omega) (by omega)
    omega
 intro i j hi hj hij
 have:=key j i hj hij
 rw[gdqA,zA hi,gdqA,zA hj]at this;exact this
theorem qgQ{l:List Int}(h:l.Pairwise (· < ·)):l.Nodup:=h.imp fun h e=>by omega
theorem qA4{l m:List Int}(hl:l.Pairwise (· < ·))(hm:m.Pairwise (· < ·))(h: ∀x,x∈l↔x∈m):l=m:=
 List.Perm.eq_of_pairwise (le:=(· < ·)) (fun a b _ _ h1 h2=>by omega) hl hm ((List.perm_ext_iff_of_nodup (qgQ hl) (qgQ hm)).2 h)
theorem qpL{l:List Int}{n:Nat}(hn:n≤64)(h:qcW n l=0):l=zZ (qam l).testBit 64:=by
 obtain⟨h1,h2⟩:=qbC h;have h64:inB 64 l:=fun i hi=>by have:=h1 i hi;omega
 refine qA4 (qy2 h2) (qtB _ _) fun x=> ?_
 rw[qgS];constructor
 ·intro hx;have hb:=qaa h64 x hx;exact⟨x.toNat,by omega,by rw[qab h64];exact decide_eq_true (by rw[show ((x.toNat:Nat):Int)=x by omega];exact hx),by omega⟩
 ·rintro⟨k,_,hk,rfl⟩;rw[qab h64]at hk;exact of_decide_eq_true hk
theorem qfI(p q:Nat→Bool)(n:Nat):(zZ p n).filter (fun x=>q x.toNat)=zZ (fun k=>p k&&q k) n:=by
 unfold zZ;rw[List.filter_map,List.filter_filter];congr 1;refine List.filter_congr fun k _=> ?_
 show (q (Int.ofNat k).toNat&&p k)=(p k&&q k);rw[show (Int.ofNat k).toNat=k from rfl,Bool.and_comm]
theorem qnM{a b:Nat}(ha:a<2^64)(hb:b<2^64):anN a b=0↔ ∀k,a.testBit k=true→b.testBit k=true:=by
 constructor
 ·intro h k hk
  have:=qfg ha hb k
  rw[h,Nat.zero_testBit,hk,Bool.true_and]at this;cases e:b.testBit k with
  |true=>rfl
  |false=>rw[e]at this;cases this
 ·intro h;refine Nat.eq_of_testBit_eq fun k=> ?_
  rw[qfg ha hb,Nat.zero_testBit];cases e:a.testBit k with
  |false=>rfl
  |true=>rw[h k e];rfl
theorem quX{gs:List Gr}{l:List Int}{i:Nat}(hm:inB 64 (gs.getD i default).mem)(hl:inB 64 l):qhm gs (qam l) i=decide (∀x∈(gs.getD i default).mem,x∈l):=by
 unfold qhm;refine decide_eq_decide.2 ?_;rw[qnM (qdf hm) (qdf hl)];constructor
 ·intro h x hx;have hb:=qaa hm x hx
  have:=h x.toNat (by rw[qab hm];exact decide_eq_true (by rw[show ((x.toNat:Nat):Int)=x by omega];exact hx))
  rw[qab hl]at this
  have:=of_decide_eq_true this
  rw[show ((x.toNat:Nat):Int)=x by omega]at this;exact this
 ·intro h k hk;rw[qab hm]at hk;rw[qab hl];exact decide_eq_true (h _ (of_decide_eq_true hk))
theorem qsG{a b:Int}:qfr a b<0↔a<b:=by
 unfold qfr;split
 ·simp;omega
 ·split
  ·simp;omega
  ·simp;omega
theorem qqz{a b:Int}:qfr a b=0↔a=b:=by
 unfold qfr;split
 ·constructor
  ·intro h;cases h
  ·intro h;omega
 ·split
  ·constructor
   ·intro h;cases h
   ·intro h;omega
  ·constructor
   ·intro h;omega
   ·intro h;rfl
theorem qCz(a b:List Int)(h:List AObj)(ha:a.length≤1000000000)(hb:b.length≤1000000000):ACalls Tryz.prog 171 [ql a,ql b] h (.bool (qi9 a b)) h:=by
 have z1: ∀g,valL g .len [ql a]= .int .i64 a.length:=fun _=>rfl
 have z2: ∀g,okL g .len [ql a]=True:=fun _=>eq_true trivial
 have z3: ∀g,valL g .len [ql b]= .int .i64 b.length:=fun _=>rfl
 have z4: ∀g,okL g .len [ql b]=True:=fun _=>eq_true trivial
 obtain⟨R,hR⟩: ∃R,R=qi9 a b:=⟨_,rfl⟩
 rw[←hR];unfold qi9 at hR
 by_cases hl:a.length=b.length
 case neg=>
  have k0:((a.length:Int)=b.length)=False:=eq_false (by omega);rw[decide_eq_false hl,Bool.false_and,Bool.or_false]at hR;have e:decide ((a.length:Int)<b.length)=R:=by rw[hR];exact decide_eq_decide.2 (by omega)
  refine acO qqR ?_;simp (disch:=omega) only[qr2,z1,z2,z3,z4,k0,go_sem]
  repeat' first
   |(apply qf;exact rvk;simp only[go_sem];apply qe)
  all_goals try exact clz
 have k0:((a.length:Int)=b.length)=True:=eq_true (by omega);rw[decide_eq_false (by omega),Bool.false_or,decide_eq_true hl,Bool.true_and]at hR;unfold qoe at hR;refine acO qqR ?_;simp (disch:=omega) only[qr2,z1,z2,z3,z4,k0,go_sem];refine qm (T:=fun i:Nat=>qI 40 [(0,ql a),(1,ql b),(5,.int .i64 i)]) (H:=fun _=>h) (inv:=fun i=>i≤a.length∧ ∀j,j<i→(fun i=>qfr (a.getD i 0) (b.getD i 0)) j=0) (m:=fun i=>a.length-i) 0 ⟨Nat.zero_le _,fun j hj=>by omega⟩ (Wk.temps ?_) ?_
 ·(simp only[go_sem,qh,qd,qa,qg];try (repeat' first|(with_reducible apply aiA)|(apply qi;omega)|(apply qe;rfl)|exact qj))
 rintro i ⟨i1,i2⟩ K hK;have zv: ∀X:List Int,ql X= .sl X.length fun i=> [.int .i64 (X.getD i 0)]:=fun _=>rfl
 by_cases hi:i<a.length
 ·have k1:((i:Int)<a.length)=True:=eq_true (by omega);have k2:((i:Int)<b.length)=True:=eq_true (by omega);have hE:=zr (f:=fun i=>qfr (a.getD i 0) (b.getD i 0)) hi i2
  by_cases g:a.getD i 0=b.getD i 0
  ·have k3:(a.getD i 0=b.getD i 0)=True:=eq_true g;simp (disch:=omega) only[zv,k1,k2,k3,go_sem]
   repeat' first
    |with_reducible apply aiA
   all_goals try exact clz
   refine hK _ _ (i+1) ⟨hi,fun j hj=> ?_⟩ (by omega) (Wk.temps ?_)
   ·by_cases e:j=i
    ·subst e;exact qqz.2 g
    ·exact i2 j (by omega)
   ·(simp only[zv,go_sem,qh,qd,qa,qg];try (repeat' first|(with_reducible apply aiA)|(apply qi;omega)|(apply qe;rfl)|exact qj))
  ·have k3:(a.getD i 0=b.getD i 0)=False:=eq_false g;rw[hE (fun hc=>g (qqz.1 hc))]at hR;have e:decide (a.getD i 0<b.getD i 0)=R:=by rw[hR];exact decide_eq_decide.2 qsG.symm
   simp (disch:=omega) only[zv,k1,k2,k3,go_sem]
   repeat' first
    |(apply qf;exact rvk;simp only[go_sem];apply qe)
    |with_reducible apply aiA
   all_goals try exact clz
 ·have k1:((i:Int)<a.length)=False:=eq_false (by omega);have hz:=qP (f:=fun i=>qfr (a.getD i 0) (b.getD i 0)) (n:=a.length) (fun j hj=>i2 j (by omega));rw[hz]at hR;have e:R=false:=by rw[hR];rfl
  rw[e];simp (disch:=omega) only[z1,z2,k1,go_sem]
  repeat' first
   |(apply qf;exact rvk;simp only[go_sem];exact qj)
theorem qCI(names:List Str)(gs:List Gr)(set:List Int)(h:List AObj)(hz:Szs names gs)(hs:set.length≤1000000000):ACalls Tryz.prog 218 [strs names,qF gs,ql set] h (.int .i64 (qb7 names gs set)) h:=by
 have c49:=fun h=>sgR names gs h hz
 have c83:=fun h=>qCm set names.length h hs
 have zl: ∀g,valL g .len [strs names]= .int .i64 names.length:=fun _=>rfl
 have zo: ∀g,okL g .len [strs names]=True:=fun _=>eq_true trivial
 unfold qb7
 by_cases g:sgE names gs=0
 ·rw[if_pos g];simp only[g]at c49;refine acO qqV ?_;simp (disch:=omega) only[qr6,go_sem]
  repeat' first
   |((first|refine cA (c49 _) ?_ ?_|refine cA (c83 _) ?_ ?_);exact flk;simp (disch:=omega) only[zl,zo,go_sem])
   |(apply qf;exact rvk;simp only[go_sem];exact qj)
 ·rw[if_neg g];have k:(sgE names gs=0)=False:=eq_false g;refine acO qqV ?_;simp (disch:=omega) only[qr6,go_sem]
  repeat' first
   |(refine cA (c49 _) ?_ ?_;exact flk;simp (disch:=omega) only[zl,zo,k,go_sem])
   |(apply qf;exact rvk;simp only[go_sem];exact qj)
theorem qDO(a b:List Int)(h:List AObj)(ha:a.length≤1000000000)(hb:b.length≤1000000000):ACalls Tryz.prog 219 [ql a,ql b] h (.bool (decide (∀x∈a,x∈b))) h:=by
 have z1: ∀g,valL g .len [ql a]= .int .i64 a.length:=fun _=>rfl
 have z2: ∀g,okL g .len [ql a]=True:=fun _=>eq_true trivial
 obtain⟨R,hR⟩: ∃R,R=decide (∀x∈a,x∈b):=⟨_,rfl⟩
 rw[←hR];refine acO qxt ?_;simp (disch:=omega) only[qvW,go_sem];refine qm (T:=fun i:Nat=>qI 19 [(0,ql a),(1,ql b),(5,.int .i64 i)]) (H:=fun _=>h) (inv:=fun i=>i≤a.length∧ ∀j,j<i→a.getD j 0∈b) (m:=fun i=>a.length-i) 0 ⟨Nat.zero_le _,fun j hj=>by omega⟩ (Wk.temps ?_) ?_
 ·(simp only[go_sem,qh,qd,qa,qg];try (repeat' first|(with_reducible apply aiA)|(apply qi;omega)|(apply qe;rfl)|exact qj))
 rintro i ⟨i1,i2⟩ K hK;have zv:ql a= .sl a.length fun i=> [.int .i64 (a.getD i 0)]:=rfl
 by_cases hi:i<a.length
 ·have k1:((i:Int)<a.length)=True:=eq_true (by omega);have c56:=fun h=>qyl b (a.getD i 0) h hb
  by_cases g:a.getD i 0∈b
  ·simp only[decide_eq_true g]at c56;simp (disch:=omega) only[zv,k1,go_sem]
   repeat' first
    |(refine cA (c56 _) ?_ ?_;exact flk;simp (disch:=omega) only[go_sem])
    |with_reducible apply aiA
   all_goals try exact clz
   refine hK _ _ (i+1) ⟨hi,fun j hj=> ?_⟩ (by omega) (Wk.temps ?_)
   ·by_cases e:j=i
    ·subst e;exact g
    ·exact i2 j (by omega)
   ·(simp only[zv,go_sem,qh,qd,qa,qg];try (repeat' first|(with_reducible apply aiA)|(apply qi;omega)|(apply qe;rfl)|exact qj))
  ·simp only[decide_eq_false g]at c56;have e:R=false:=by
    rw[hR];refine decide_eq_false fun hc=>g (hc _ ?_)
    rw[gdqA,zA hi];exact List.getElem_mem hi
   rw[e];simp (disch:=omega) only[zv,k1,go_sem]
   repeat' first
    |(refine cA (c56 _) ?_ ?_;exact flk;simp (disch:=omega) only[go_sem])
    |(apply qf;exact rvk;simp only[go_sem];exact qj)
    |with_reducible apply aiA
   all_goals try exact clz
 ·have k1:((i:Int)<a.length)=False:=eq_false (by omega);have e:R=true:=by
   rw[hR];refine decide_eq_true fun x hx=> ?_
   obtain⟨j,hj,rfl⟩:=List.getElem_of_mem hx
   have:=i2 j (by omega)
   rw[gdqA,zA hj]at this;exact this
  rw[e];simp (disch:=omega) only[z1,z2,k1,go_sem]
  repeat' first
   |(apply qf;exact rvk;simp only[go_sem];exact qj)
theorem qd7{n:Int}(h0:0≤n)(h1:n<9223372036854775808):IntKind.i64.wrap n=n:=qp (by omega) (by omega)
theorem qrO{a n:Nat}(ha:a<2^62)(hn:n<62):qnA .i64 (qum .i64 (a:Int) (n:Int)) 1=if a.testBit n=true then 1 else 0:=by
 have e1:qum .i64 (a:Int) (n:Int)=((a>>>n:Nat):Int):=by
  unfold qum;rw[show IntKind.bits IntKind.i64=64 from rfl,Int.toNat_natCast,Nat.min_eq_left (by omega),Nat.shiftRight_eq_div_pow,show ((2:Int)^n)=((2^n:Nat):Int) by simp,Int.fdiv_eq_ediv_of_nonneg _ (Int.natCast_nonneg _)];rfl
 have hlt:a>>>n<2^62:=Nat.lt_of_le_of_lt (by rw[Nat.shiftRight_eq_div_pow];exact Nat.div_le_self _ _) ha;have e2: ∀b:Nat,b<2^62→qnA .i64 (b:Int) 1=((b&&&1:Nat):Int):=fun b hb=>by
  unfold qnA;rw[show IntKind.bits IntKind.i64=64 from rfl,show (1:Int)=((1:Nat):Int)from rfl,jC,jC,BitVec.toNat_and,BitVec.toNat_ofNat,BitVec.toNat_ofNat,Nat.mod_eq_of_lt (by omega),Nat.mod_eq_of_lt (by decide)]
  have:b&&&1≤1:=Nat.and_le_right
  exact qd7 (by omega) (by omega)
 rw[e1,e2 _ hlt]
 have:(a>>>n)&&&1=(a.testBit n).toNat:=by rw[Nat.testBit];simp[Nat.and_comm 1];rcases Nat.mod_two_eq_zero_or_one (a>>>n)with h|h<;>simp[h]
 rw[this];cases a.testBit n<;>rfl
theorem qul{n:Nat}(hn:n<62):qvc .i64 1 (n:Int)=((2^n:Nat):Int):=by
 unfold qvc;rw[show IntKind.bits IntKind.i64=64 from rfl,Int.toNat_natCast,Nat.min_eq_left (by omega)];have h2:(2:Nat)^n<2^62:=Nat.pow_lt_pow_right (by omega) hn;rw[Int.one_mul,show ((2:Int)^n)=((2^n:Nat):Int) by simp];exact qd7 (Int.natCast_nonneg _) (by omega)
theorem qCZ(names:List Str)(gs:List Gr)(set:List Int)(h:List AObj)(hz:Szs names gs)(hs:set.length≤1000000000)(h8:qb7 names gs set=0→names.length≤64):
  ACalls Tryz.prog 169 [strs names,qF gs,ql set] h (.tup [ql (if qb7 names gs set=0 then qbK gs (qam set) else []),.int .i64 (qb7 names gs set)]) h:=by
 have c141:=fun h=>qCI names gs set h hz hs
 by_cases g:qb7 names gs set=0
 case neg=>
  have k0:(qb7 names gs set=0)=False:=eq_false g;rw[if_neg g];refine acO qqQ ?_;simp (disch:=omega) only[qr1,go_sem]
  repeat' first
   |(refine cA (c141 _) ?_ ?_;exact flk;simp (disch:=omega) only[k0,go_sem])
   |(apply qb;exact rvk;simp only[go_sem])
  exact qtF
 rw[if_pos g,g];simp only[g]at c141;have n64:=h8 g;have hse:sgE names gs=0∧qcW names.length set=0:=by
  unfold qb7 at g;split at g
  ·rename_i h;exact⟨h,g⟩
  ·cases g
 have hin:=(qbC hse.2).1;have hin64:inB 64 set:=fun i hi=>by have:=hin i hi;omega
 have hmi:=qfB hse.1;have hml:=hz.gm;have hgl:=hz.g;have zl: ∀g,valL g .len [qF gs]= .int .i64 gs.length:=fun _=>rfl
 have zo: ∀g,okL g .len [qF gs]=True:=fun _=>eq_true trivial
 have hW:qbK gs (qam set)=zZ (qhm gs (qam set)) gs.length:=rfl;rw[hW];obtain⟨pB,hpB⟩: ∃pB,pB=qhm gs (qam set):=⟨_,rfl⟩
 have hpi: ∀i,pB i=decide (∀x∈(gs.getD i default).mem,x∈set):=fun i=>by rw[hpB];exact quX (hmi i) hin64
 rw[←hpB];refine acO qqQ ?_;simp (disch:=omega) only[qr1,go_sem]
 repeat' first
  |(refine cA (c141 _) ?_ ?_;exact flk;simp (disch:=omega) only[go_sem])
 have e0:qS [AV.int .i64 0] 0=qx (zZ pB 0):=rfl;rw[e0];refine qm (T:=fun i:Nat×Nat×AObj=>qI 37 [(1,qF gs),(2,ql set),(9,.osl (h.length+1) i.2.1 1 0 (zZ pB i.1).length),(10,.int .i64 i.1)])
  (H:=fun i=>h++ [.emp 1,.mem i.2.1 3 (qx (zZ pB i.1)),i.2.2,.emp 0])
  (inv:=fun i=>i.1≤gs.length∧qz [i.2.2] 0=true) (m:=fun i=>gs.length-i.1) (0,1,.emp 0) ⟨Nat.zero_le _,rfl⟩ (Wk.temps ?_) ?_
 ·(simp only[zZ,List.range_zero,List.filter_nil,List.length_nil,List.map_nil,go_sem,qh,qd,qa,qg];try (repeat' first|(with_reducible apply aiA)|(apply qi;omega)|(apply qe;rfl)|exact qj))
 rintro⟨i,v,O⟩ ⟨i1,i2⟩ K hK;simp only at i1 i2 hK;have i2': ∀m,qz (O::m) 0=true:=fun _=>i2
 have hst:=kM pB i;have hln:=zL pB i;have hp:=hpi i;obtain⟨L,hL⟩: ∃L,L=zZ pB i:=⟨_,rfl⟩
 rw[←hL]at hst hln;have eL:=hL.symm;have eC:=qV L
 by_cases hi:i<gs.length
 ·have k1:((i:Int)<gs.length)=True:=eq_true (by omega);have c142:=fun h=>qDO (gs.getD i default).mem set h (hml i) hs
  simp only[←hp]at c142;obtain⟨gr,hgr⟩: ∃gr,gr=gs.getD i default:=⟨_,rfl⟩
  have egr:=hgr.symm;simp only[egr]at c142;have eTk:List.take L.length (qx L)=qx L:=List.take_of_length_le (by omega);cases hb:pB i with
  |true=>
   rw[hb,if_pos rfl]at hst;rw[hb]at c142;simp (disch:=omega) only[qF,grC,k1,eL,egr,go_sem]
   repeat' first
    |(refine cA (c142 _) ?_ ?_;exact flk;simp (disch:=omega) only[i2',eC,eTk,Nat.mul_one,go_sem])
    |with_reducible apply aiA
   all_goals try exact clz
   have eA:qx L++ [AV.int .i64 (i:Int)]=qx (zZ pB (i+1)):=by rw[hst,zN];rfl
   try rw[eTk]
   rw[eA];refine hK _ _ (i+1,v+1,.mem (qq (some O)+1) 3 [.int .i64 (i:Int)]) ⟨hi,rfl⟩ (by simp only;omega) ?_;simp only[hst,List.length_append,List.length_cons,List.length_nil,qF,grC];refine Wk.temps ?_
   (simp only[go_sem,qh,qd,qa,qg];try (repeat' first|(with_reducible apply aiA)|(apply qi;omega)|(apply qe;rfl)|exact qj))
  |false=>
   rw[hb,if_neg (by simp),List.append_nil]at hst;rw[hb]at c142;simp (disch:=omega) only[qF,grC,k1,eL,egr,go_sem]
   repeat' first
    |(refine cA (c142 _) ?_ ?_;exact flk;simp (disch:=omega) only[i2',go_sem])
    |with_reducible apply aiA
   all_goals try exact clz
   refine hK _ _ (i+1,v,O) ⟨hi,i2⟩ (by simp only;omega) ?_;simp only[hst,qF,grC];refine Wk.temps ?_
   (simp only[go_sem,qh,qd,qa,qg];try (repeat' first|(with_reducible apply aiA)|(apply qi;omega)|(apply qe;rfl)|exact qj))
 ·obtain rfl:i=gs.length:=by omega
  have k1:((gs.length:Int)<gs.length)=False:=eq_false (by omega);rw[eL];simp (disch:=omega) only[zl,zo,k1,go_sem]
  repeat' first
   |(apply qb;exact rvk;simp only[go_sem])
  refine zD ⟨?_,qj,trivial⟩;rw[if_pos (by omega)];exact qau _ (fun _=>rfl) rfl
def qfd(gs:List Gr)(sm:List Int)(bits all i:Nat):List Int:=zZ (fun k=>all.testBit k&& !(qfK (usM gs sm) bits i).testBit k) 64
def qdL(sm:List Int)(bits i:Nat):List Int:=(zZ bits.testBit i).map fun k=>sm.getD k.toNat 0
theorem qmm(gs:List Gr)(sm:List Int)(bits all:Nat):qfd gs sm bits all 0=zZ all.testBit 64:=by
 unfold qfd;refine qbt fun k _=> ?_
 show (all.testBit k&& !(0:Nat).testBit k)=_;rw[Nat.zero_testBit];simp
theorem qmk{gs:List Gr}{sm:List Int}{bits all i:Nat}(hb:bits.testBit i=false):qfd gs sm bits all (i+1)=qfd gs sm bits all i:=by
 unfold qfd;rw[qcD,hb,if_neg (by simp)]
theorem qml{gs:List Gr}{sm:List Int}{bits all i:Nat}(hb:bits.testBit i=true)(hi:i<sm.length)(hm: ∀i,inB 64 (gs.getD i default).mem):
  qfd gs sm bits all (i+1)=(qfd gs sm bits all i).filter fun x=> !decide (x∈(gs.getD (sm.getD i 0).toNat default).mem):=by
 unfold qfd;rw[qcD,hb,if_pos rfl,qgb hi];have e: ∀l:List Int,(∀x∈l,0≤x)→l.filter (fun x=> !decide (x∈(gs.getD (sm.getD i 0).toNat default).mem))=l.filter fun x=>(fun k=> !(qam (gs.getD (sm.getD i 0).toNat default).mem).testBit k) x.toNat:=fun l hl=>by
  refine List.filter_congr fun x hx=> ?_
  simp only;rw[qab (hm _),show ((x.toNat:Nat):Int)=x by have:=hl x hx;omega]
 refine Eq.symm ((e _ (fun x hx=>by obtain⟨k,rfl,_,_⟩:=kZ hx;omega)).trans ((qfI _ (fun k=> !(qam (gs.getD (sm.getD i 0).toNat default).mem).testBit k) _).trans ?_));refine qbt fun k _=> ?_
 rw[Nat.testBit_or];cases all.testBit k<;>cases (qfK (usM gs sm) bits i).testBit k<;>cases (qam (gs.getD (sm.getD i 0).toNat default).mem).testBit k<;>rfl
theorem qlO{sm:List Int}{bits i:Nat}(hb:bits.testBit i=false):qdL sm bits (i+1)=qdL sm bits i:=by
 unfold qdL;rw[kM,hb,if_neg (by simp),List.append_nil]
theorem qlP{sm:List Int}{bits i:Nat}(hb:bits.testBit i=true):qdL sm bits (i+1)=qdL sm bits i++ [sm.getD i 0]:=by
 unfold qdL;rw[kM,hb,if_pos rfl,List.map_append];rfl
theorem qpp(sm:List Int)(bits i:Nat):(qdL sm bits i).length≤i:=by
 unfold qdL;rw[List.length_map];exact zL _ _
theorem qpH(gs:List Gr)(sm:List Int)(bits all i:Nat):(qfd gs sm bits all i).length≤64:=zL _ _
theorem qtX{gs:List Gr}{sm:List Int}{bits all:Nat}(hm: ∀i,inB 64 (gs.getD i default).mem)(hb:bits<2^sm.length)(hs:sm.length≤64)(ha:all<2^64):
  kr gs all sm bits=qdL sm bits sm.length++(qfd gs sm bits all sm.length).map fun s=>(gs.length:Int)+s:=by
 unfold kr qdL qfd;have e1:zZ bits.testBit 64=zZ bits.testBit sm.length:=qo2 64 hs fun k h1 h2=>by
  cases e:bits.testBit k with
  |false=>rfl
  |true=>have:=qdM hb e;omega
 have e2:zZ (anN all (chN (usM gs sm) bits)).testBit 64=zZ (fun k=>all.testBit k&& !(qfK (usM gs sm) bits sm.length).testBit k) 64:=by
  refine qbt fun k _=> ?_
  have hc:chN (usM gs sm) bits=qfK (usM gs sm) bits sm.length:=by unfold chN;rw[qgc]
  rw[←hc];exact qfg ha (qqy (qrx hm sm) bits) k
 rw[e1,e2]
theorem qkR{L:List Int}{p:Int→Bool}{j:Nat}(hj:j<L.length):(L.take (j+1)).filter p=(L.take j).filter p++if p (L.getD j 0)=true then [L.getD j 0] else []:=by
 rw[jh hj,List.filter_append,List.filter_cons];split<;>rfl
theorem qDb(gs:List Gr)(sm:List Int)(bits all:Nat)(h:List AObj)(hg:gs.length≤1000000)(hS: ∀x∈sm,∃k:Nat,x=(k:Int)∧k<gs.length)(hsl:sm.length≤16)(hb:bits<2^sm.length)
  (hm: ∀i,inB 64 (gs.getD i default).mem) (hml: ∀i,(gs.getD i default).mem.length≤1000000000) (ha:all<2^64):
  ACalls Tryz.prog 170 [qF gs,ql sm,.int .i64 ((bits:Nat):Int),ql (zZ all.testBit 64)] h (ql (kr gs all sm bits)) h:=by
 have hp16:2^sm.length≤2^16:=Nat.pow_le_pow_right (by omega) hsl;rw[qtX hm hb (by omega) ha,←qmm gs sm bits all];have z1: ∀g,valL g .len [ql sm]= .int .i64 sm.length:=fun _=>rfl
 have z2: ∀g,okL g .len [ql sm]=True:=fun _=>eq_true trivial
 have zg1: ∀g,valL g .len [qF gs]= .int .i64 gs.length:=fun _=>rfl
 have zg2: ∀g,okL g .len [qF gs]=True:=fun _=>eq_true trivial
 have zv: ∀X:List Int,ql X= .sl X.length fun i=> [.int .i64 (X.getD i 0)]:=fun _=>rfl
 refine acO qxb ?_;simp (disch:=omega) only[qvG,go_sem];have e0:qS [AV.int .i64 0] 0=qx (qdL sm bits 0):=rfl;rw[e0];refine qm (T:=fun s:Nat×Nat×AObj×AObj×AObj=>qI 81 [(0,qF gs),(1,ql sm),(2,.int .i64 ((bits:Nat):Int)),(9,.osl (h.length+1) s.2.1 1 0 (qdL sm bits s.1).length),(10,ql (qfd gs sm bits all s.1)),(11,.int .i64 s.1)])
  (H:=fun s=>h++ [.emp 1,.mem s.2.1 3 (qx (qdL sm bits s.1)),s.2.2.1,.emp 0,s.2.2.2.1,s.2.2.2.2,.emp 0,.emp 0,.emp 0])
  (inv:=fun s=>s.1≤sm.length∧qz [s.2.2.1] 0=true∧qz [s.2.2.2.1] 0=true∧qz [s.2.2.2.2] 0=true) (m:=fun s=>sm.length-s.1) (0,1,.emp 0,.emp 0,.emp 0) ⟨Nat.zero_le _,rfl,rfl,rfl⟩ (Wk.temps ?_) ?_
 ·(simp only[qdL,zZ,List.range_zero,List.filter_nil,List.length_nil,List.map_nil,go_sem,qh,qd,qa,qg];try (repeat' first|(with_reducible apply aiA)|(apply qi;omega)|(apply qe;rfl)|exact qj))
 rintro⟨i,v,O2,O4,O5⟩ ⟨i1,i2,i4,i5⟩ K hK;simp only at i1 i2 i4 i5 hK;have i2': ∀m,qz (O2::m) 0=true:=fun _=>i2
 have i4': ∀m,qz (O4::m) 0=true:=fun _=>i4
 have i5': ∀m,qz (O5::m) 0=true:=fun _=>i5
 have hol:=qpp sm bits i;have hrl:=qpH gs sm bits all i
 by_cases hi:i<sm.length
 ·have k1:((i:Int)<sm.length)=True:=eq_true (by omega);have k2:(0≤(i:Int))=True:=eq_true (by omega);have e1:=qrO (a:=bits) (n:=i) (by omega) (by omega);cases hbit:bits.testBit i with
  |false=>
   rw[hbit,if_neg (by simp)]at e1;simp (disch:=omega) only[z1,z2,k1,k2,e1,go_sem];refine hK _ _ (i+1,v,O2,O4,O5) ⟨hi,i2,i4,i5⟩ (by simp only;omega) ?_;simp only[qmk hbit,qlO hbit];refine Wk.temps ?_
   (simp only[go_sem,qh,qd,qa,qg];try (repeat' first|(with_reducible apply aiA)|(apply qi;omega)|(apply qe;rfl)|exact qj))
  |true=>
   rw[hbit,if_pos rfl]at e1;have hmS:sm.getD i 0∈sm:=by rw[gdqA,zA hi];exact List.getElem_mem hi
   obtain⟨y,hy,hyl⟩:=hS _ hmS;have ho:=qlP (sm:=sm) hbit;have hr:=qml (gs:=gs) (all:=all) hbit hi hm;rw[hy]at ho hr;rw[Int.toNat_natCast]at hr;have q2:((y:Int)<gs.length)=True:=eq_true (by omega);have q3:(0≤(y:Int))=True:=eq_true (by omega);have c56:=fun x h=>qyl (gs.getD y default).mem x h (hml y)
   obtain⟨L,hL⟩: ∃L,L=qdL sm bits i:=⟨_,rfl⟩
   obtain⟨r,hrr⟩: ∃r,r=qfd gs sm bits all i:=⟨_,rfl⟩
   rw[←hL]at ho hol;rw[←hrr]at hr hrl;have eL:=hL.symm;have er:=hrr.symm;have eC:=qV L;have eTk:List.take L.length (qx L)=qx L:=List.take_of_length_le (by omega);obtain⟨gr,hgr⟩: ∃gr,gr=gs.getD y default:=⟨_,rfl⟩
   have egr:=hgr.symm;simp only[egr]at c56;rw[egr]at hr;simp (disch:=omega) only[zv,k1,k2,e1,hy,i2',i4',eL,er,Nat.mul_one,go_sem]
   repeat' first
    |with_reducible first|intro _|apply aiA
   all_goals try exact clz
   have eA:qx L++ [AV.int .i64 ((y:Nat):Int)]=qx (qdL sm bits (i+1)):=by rw[ho,zN];rfl
   try rw[eTk]
   rw[eA];obtain⟨pr,hpr⟩: ∃pr:Int→Bool,pr=fun x=> !decide (x∈gr.mem):=⟨_,rfl⟩
   rw[←hpr]at hr;have e00:qS [AV.int .i64 0] 0=qx ((r.take 0).filter pr):=rfl;rw[e00];have hLo:(qdL sm bits (i+1)).length=L.length+1:=by rw[ho,List.length_append];rfl
   refine qm (T:=fun s:Nat×Nat×AObj=>qI 81 [(0,qF gs),(1,ql sm),(2,.int .i64 ((bits:Nat):Int)),(9,.osl (h.length+1) (v+1) 1 0 (L.length+1)),(10,ql r),(11,.int .i64 i),(12,.osl (h.length+4) s.2.1 1 0 ((r.take s.1).filter pr).length),(13,.int .i64 s.1)])
    (H:=fun s=>h++ [.emp 1,.mem (v+1) 3 (qx (qdL sm bits (i+1))),.mem (qq (some O2)+1) 3 [.int .i64 ((y:Nat):Int)],.emp 0,.mem s.2.1 3 (qx ((r.take s.1).filter pr)),s.2.2,.emp 0,.emp 0,.emp 0])
    (inv:=fun s=>s.1≤r.length∧qz [s.2.2] 0=true) (m:=fun s=>r.length-s.1) (0,qq (some O4)+1,O5) ⟨Nat.zero_le _,i5⟩ (Wk.temps ?_) ?_
   ·(simp only[zv,List.take_zero,List.filter_nil,List.length_nil,go_sem,qh,qd,qa,qg];try (repeat' first|(with_reducible apply aiA)|(apply qi;omega)|(apply qe;rfl)|exact qj))
   rintro⟨j,u,O5⟩ ⟨j1,j2⟩ KA hKA;simp only at j1 j2 hKA;have j2': ∀m,qz (O5::m) 0=true:=fun _=>j2
   have hfl:((r.take j).filter pr).length≤j:=Nat.le_trans (List.length_filter_le _ _) (by rw[List.length_take];omega)
   by_cases hj:j<r.length
   ·have q5:((j:Int)<r.length)=True:=eq_true (by omega);have hst:=qkR (p:=pr) hj;obtain⟨w,hw⟩: ∃w,w=r.getD j 0:=⟨_,rfl⟩
    have ew:=hw.symm;rw[ew]at hst;obtain⟨FL,hFL⟩: ∃FL,FL=(r.take j).filter pr:=⟨_,rfl⟩
    rw[←hFL]at hst hfl;have eFL:=hFL.symm;have eC2:=qV FL;have eTk2:List.take FL.length (qx FL)=qx FL:=List.take_of_length_le (by omega);have hpw:pr w= !decide (w∈gr.mem):=by rw[hpr]
    by_cases hwm:w∈gr.mem
    ·have hpw:pr w=false:=by rw[hpw,decide_eq_true hwm];rfl
     rw[hpw,if_neg (by simp),List.append_nil]at hst;have c56w:=fun h=>c56 w h
     simp only[decide_eq_true hwm]at c56w;simp (disch:=omega) only[zv,qF,grC,q2,q3,q5,k1,k2,hy,ew,egr,Int.toNat_natCast,go_sem]
     repeat' first
      |(refine cA (c56w _) ?_ ?_;exact flk;simp (disch:=omega) only[q5,ew,Int.toNat_natCast,go_sem])
      |with_reducible apply aiA
     all_goals try exact clz
     refine hKA _ _ (j+1,u,O5) ⟨hj,j2⟩ (by simp only;omega) ?_;simp only[hst,zv,qF,grC,eFL];refine Wk.temps ?_
     (simp only[go_sem,qh,qd,qa,qg];try (repeat' first|(with_reducible apply aiA)|(apply qi;omega)|(apply qe;rfl)|exact qj))
    ·have hpw:pr w=true:=by rw[hpw,decide_eq_false hwm];rfl
     rw[hpw,if_pos rfl]at hst;have c56w:=fun h=>c56 w h
     simp only[decide_eq_false hwm]at c56w;simp (disch:=omega) only[zv,qF,grC,q2,q3,q5,k1,k2,hy,ew,egr,eFL,Int.toNat_natCast,go_sem]
     repeat' first
      |(refine cA (c56w _) ?_ ?_;exact flk;simp (disch:=omega) only[q5,ew,j2',eC2,eTk2,Nat.mul_one,Int.toNat_natCast,go_sem])
      |with_reducible apply aiA
     all_goals try exact clz
     have eA2:qx FL++ [AV.int .i64 w]=qx ((r.take (j+1)).filter pr):=by rw[hst,zN];rfl
     try rw[eTk2]
     rw[eA2];refine hKA _ _ (j+1,u+1,.mem (qq (some O5)+1) 3 [.int .i64 w]) ⟨hj,rfl⟩ (by simp only;omega) ?_;simp only[hst,List.length_append,List.length_cons,List.length_nil,zv,qF,grC];refine Wk.temps ?_
     (simp only[go_sem,qh,qd,qa,qg];try (repeat' first|(with_reducible apply aiA)|(apply qi;omega)|(apply qe;rfl)|exact qj))
   ·obtain rfl:j=r.length:=by omega
    have q5:((r.length:Int)<r.length)=False:=eq_false (by omega);have eall:(r.take r.length).filter pr=qfd gs sm bits all (i+1):=by rw[List.take_length];exact hr.symm
    rw[eall];have zr1: ∀g,valL g .len [ql r]= .int .i64 r.length:=fun _=>rfl
    have zr2: ∀g,okL g .len [ql r]=True:=fun _=>eq_true trivial
    simp (disch:=omega) only[q5,zr1,zr2,go_sem];refine hK _ _ (i+1,v+1,.mem (qq (some O2)+1) 3 [.int .i64 ((y:Nat):Int)],.emp (u+1),O5) ⟨hi,rfl,rfl,j2⟩ (by simp only;omega) (Wk.trans (Wk.freeze [h.length+4] (by simp only[kq,go_sem])) ?_);simp only[qcR,List.map,go_sem,hLo];refine Wk.temps ?_
    (simp only[go_sem,qh,qd,qa,qg];try (repeat' first|(with_reducible apply aiA)|(apply qi;omega)|(apply qe;rfl)|exact qj))
    ·rw[if_neg (by simp)];exact qj
    ·rw[if_pos (by simp),if_pos (by simp),if_pos (by rw[qV];exact Nat.le_refl _)];exact qau _ (fun _=>rfl) rfl
 ·obtain rfl:i=sm.length:=by omega
  have k1:((sm.length:Int)<sm.length)=False:=eq_false (by omega);obtain⟨L,hL⟩: ∃L,L=qdL sm bits sm.length:=⟨_,rfl⟩
  have hrb: ∀x∈qfd gs sm bits all sm.length,0≤x∧x<64:=fun x hx=>by
   obtain⟨k,rfl,h1,_⟩:=kZ hx;omega
  obtain⟨r,hrr⟩: ∃r,r=qfd gs sm bits all sm.length:=⟨_,rfl⟩
  rw[←hL]at hol;rw[←hrr]at hrl hrb;have eL:=hL.symm;have er:=hrr.symm;rw[eL,er];have zr1: ∀g,valL g .len [ql r]= .int .i64 r.length:=fun _=>rfl
  have zr2: ∀g,okL g .len [ql r]=True:=fun _=>eq_true trivial
  obtain⟨G,hG⟩: ∃G:Nat→List Int,G=fun k=>L++(r.take k).map fun s=>(gs.length:Int)+s:=⟨_,rfl⟩
  have g0:G 0=L:=by rw[hG];exact List.append_nil _
  have gn:G r.length=L++r.map fun s=>(gs.length:Int)+s:=by rw[hG];simp only;rw[List.take_length]
  have gl: ∀k,k≤r.length→(G k).length=L.length+k:=fun k hk=>by
   rw[hG];simp only;rw[List.length_append,List.length_map,List.length_take,Nat.min_eq_left hk]
  have gs1: ∀k,k<r.length→G (k+1)=G k++ [(gs.length:Int)+r.getD k 0]:=fun k hk=>by
   rw[hG];simp only;rw[jh hk,List.map_append,List.append_assoc];rfl
  rw[←gn];simp (disch:=omega) only[z1,z2,k1,go_sem];rw[←g0];refine qm (T:=fun s:Nat×Nat×AObj=>qI 81 [(0,qF gs),(9,.osl (h.length+1) s.2.1 1 0 (G s.1).length),(10,ql r),(14,.int .i64 s.1)])
   (H:=fun s=>h++ [.emp 1,.mem s.2.1 3 (qx (G s.1)),O2,.emp 0,O4,O5,.emp 0,s.2.2,.emp 0])
   (inv:=fun s=>s.1≤r.length∧qz [s.2.2] 0=true) (m:=fun s=>r.length-s.1) (0,v,.emp 0) ⟨Nat.zero_le _,rfl⟩ (Wk.temps ?_) ?_
  ·(simp only[go_sem,qh,qd,qa,qg];try (repeat' first|(with_reducible apply aiA)|(apply qi;omega)|(apply qe;rfl)|exact qj))
  rintro⟨k,u,O7⟩ ⟨j1,j2⟩ KA hKA;simp only at j1 j2 hKA;have j2': ∀m,qz (O7::m) 0=true:=fun _=>j2
  have hgl:=gl k j1
  by_cases hk:k<r.length
  ·have q5:((k:Int)<r.length)=True:=eq_true (by omega);have hst:=gs1 k hk;have hmr:r.getD k 0∈r:=by rw[gdqA,zA hk];exact List.getElem_mem hk
   obtain⟨w0,w1⟩:=hrb _ hmr;obtain⟨w,hw⟩: ∃w,w=r.getD k 0:=⟨_,rfl⟩
   have ew:=hw.symm;rw[ew]at hst w0 w1;have q6:IntKind.i64.wrap ((gs.length:Int)+w)=(gs.length:Int)+w:=qd7 (by omega) (by omega);obtain⟨FL,hFL⟩: ∃FL,FL=G k:=⟨_,rfl⟩
   rw[←hFL]at hst hgl;have eFL:=hFL.symm;have eC2:=qV FL;have eTk2:List.take FL.length (qx FL)=qx FL:=List.take_of_length_le (by omega);rw[eFL];simp (disch:=omega) only[zv,zg1,zg2,q5,ew,q6,j2',Nat.mul_one,go_sem]
   repeat' first
    |with_reducible apply aiA
   all_goals try exact clz
   have eA2:qx FL++ [AV.int .i64 ((gs.length:Int)+w)]=qx (G (k+1)):=by rw[hst,zN];rfl
   try rw[eTk2]
   rw[eA2];refine hKA _ _ (k+1,u+1,.mem (qq (some O7)+1) 3 [.int .i64 ((gs.length:Int)+w)]) ⟨hk,rfl⟩ (by simp only;omega) ?_;simp only[hst,List.length_append,List.length_cons,List.length_nil,zv];refine Wk.temps ?_
   (simp only[go_sem,qh,qd,qa,qg];try (repeat' first|(with_reducible apply aiA)|(apply qi;omega)|(apply qe;rfl)|exact qj))
  ·obtain rfl:k=r.length:=by omega
   have q5:((r.length:Int)<r.length)=False:=eq_false (by omega);have eC2:=qV (G r.length);simp (disch:=omega) only[q5,zr1,zr2,go_sem]
   repeat' first
    |(apply qb;exact rvk;simp only[go_sem])
   rw[if_pos (by omega)];exact qau _ (fun _=>rfl) rfl
end RC
end
