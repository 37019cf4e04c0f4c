import Derived.Test.YtgoandblgcjleaaGreatDoorK11
import Derived.Test.YtgoandblgcjleaaGreatDoorK10
import Derived.Test.YtgoandblgcjleaaGreatDoorK3
import Derived.Test.YtgoandblgcjleaaGreatDoorK5
import Derived.Test.YtgoandblgcjleaaGreatDoorK8
import Derived.Test.YtgoandblgcjleaaGreatDoorProg
set_option linter.all false
set_option linter.unusedSimpArgs false
set_option linter.unusedVariables false
set_option linter.unusedSectionVars false
set_option maxHeartbeats 64000000
set_option maxRecDepth 100000
section
open Go Go.Proofs AF HY LN
namespace RC
theorem qB7(names:List Str)(gs:List Gr)(set:List Int)(h:List AObj)(hz:Szs names gs)(hs:set.length≤1000000000)(h8:qes names gs set=0→names.length≤8∧gs.length≤8):
  ACalls Tryz.prog 142 [strs names,qL gs,qn set] h (.tup [strs (shR names gs set),.int .i64 (qes names gs set)]) h:=by
 have c95:=fun h=>qEb names gs set h hz hs
 unfold shR
 by_cases g:qes names gs set=0
 case neg=>
  have k0:(qes names gs set=0)=False:=eqf g;rw[ine g];refine acO qrz ?_;simp (disch:=omega) only[qsH,go_sem]
  repeat' first
   |(refine cA (c95 _) flk ?_;simp (disch:=omega) only[k0,go_sem])
   |(apply qb;exact rvk;simp only[go_sem])
   |with_reducible apply aiA
  all_goals try exact clz
  exact zA ⟨jX,qj,trivial⟩
 rw[ipo g,g];simp only[g]at c95;obtain⟨n8,g8⟩:=h8 g;have hse:sgE names gs=0∧qdn names.length set=0:=by
  unfold qes at g;split at g
  ·rename_i h;exact⟨h,g⟩
  ·cases g
 have hin:=(qaD hse.2).1;have hin64:inB 64 set:=fun i hi=>by have:=hin i hi;omega
 have hmi:=qlL hse.1;have hml:=hz.gm;have hgl:=hz.g;have c96:=fun h=>qAQ set h hs hin64
 have hall:jA set<2^8:=Nat.lt_of_lt_of_le (ql6 (by omega) hin) (Nat.pow_le_pow_right (by omega) n8);obtain⟨all,hA⟩: ∃all,all=jA set:=⟨_,rfl⟩
 have hpin:=fun {c} hc {p}=>qr7 (names:=names) (gs:=gs) (set:=set) (all:=all) hin (by omega) hA (c:=c) hc (p:=p)
 rw[←hA]at hall;simp only[←hA]at c96;have c97:=fun h=>qEt gs all h (by omega) hmi hml (by omega)
 have hLin:=fun {x}=> @qgL gs all x
 have hLl:(kA gs all).length≤8:=by have:=zk (qjw gs all) gs.length;unfold kA;omega
 have hbA:qwr gs all=bst gs all (kA gs all) (2^(kA gs all).length-1):=rfl;rw[←hA,hbA];have hbs:=qky gs all (kA gs all);obtain⟨L,hL⟩: ∃L,L=kA gs all:=⟨_,rfl⟩
 simp only[←hL]at c97 hLin hpin;rw[←hL]at hLl;rw[←hL]at hbs ⊢;have hmsl:=qgE gs L;have hmsg:=fun {i} hi=>qgD (gs:=gs) (L:=L) (i:=i) hi
 have hmlt:=qsd hmi L;obtain⟨ms,hms⟩: ∃ms,ms=usM gs L:=⟨_,rfl⟩
 rw[←hms]at hmsl;simp only[←hms]at hmsg hmlt;have z1: ∀g,valL g .len [qn L]= .int .i64 L.length:=fun _=>rfl
 have z2: ∀g,okL g .len [qn L]=True:=fun _=>eqt trivial
 refine acO qrz ?_;simp (disch:=omega) only[qsH,go_sem]
 repeat' first
  |((first|refine cA (c95 _) ?_ ?_|refine cA (c96 _) ?_ ?_|refine cA (c97 _) ?_ ?_);exact flk;simp (disch:=omega) only[z1,z2,go_sem])
  |with_reducible apply aiA
 all_goals try exact clz
 refine qp (T:=fun s:Nat×Nat×AObj=>qQ 151 [(0,strs names),(4,.op h.length 1 0),(9,.op (h.length+2) 1 0),(10,.op (h.length+3) 1 0),(11,.osl (h.length+4) s.2.1 1 0 s.1),(39,qn L),(40,.int .i64 L.length),(41,.int .i64 s.1)])
  (H:=fun s=>h++ [.mem 1 44 [qL gs],.emp 1,.mem 1 164 [.int .u64 ((all:Nat):Int)],.mem 1 62 [qn L],zP s.2.1 164 (qeD (ms.take s.1)),s.2.2,.emp 0,.emp 0,.emp 0,.emp 0,.emp 0,.emp 0,.emp 0,.emp 0,.emp 0,.emp 0,.emp 0,.emp 0,.emp 0])
  (inv:=fun s=>s.1≤L.length∧qH [s.2.2] 0=true) (m:=fun s=>L.length-s.1) (0,1,.emp 0) ⟨nzl _,rfl⟩ (Wk.temps ?_) ?_
 ·(simp only[go_sem,qi,qe,qa,qh];try (repeat' first|(with_reducible apply aiA)|(apply qg;omega)|(apply qf;rfl)|exact qj))
 rintro⟨i,v,O5⟩ ⟨i1,i2⟩ K hK;simp only at i1 i2 hK;have i2': ∀m,qH (O5::m) 0=true:=fun _=>i2
 by_cases hi:i<L.length
 ·have k1:((i:Int)<L.length)=True:=eqt (by omega);have hst:=qjf (L:=ms) (i:=i) (by omega);rw[hmsg hi]at hst;have hm:L.getD i 0∈L:=by rw[gdqA,qY hi];exact List.getElem_mem hi
  obtain⟨y,hy,hyl⟩:=hLin hm;rw[hy]at hst;simp only[Int.toNat_natCast]at hst;have k2:((y:Int)<gs.length)=True:=eqt (by omega);have k3:(0≤(y:Int))=True:=eqt (by omega);have c96:=fun h=>qAQ (gs.getD y default).mem h (hml y) (hmi y)
  obtain⟨gr,hgr⟩: ∃gr,gr=gs.getD y default:=⟨_,rfl⟩
  have egr:=hgr.symm;simp only[egr]at c96;rw[egr]at hst;have eCl:(qeD (ms.take i)).length=i:=by rw[qhH,List.length_take];omega
  have eTk:List.take i (qeD (ms.take i))=qeD (ms.take i):=ltl (by omega);have zv:qn L= .sl L.length fun i=> [.int .i64 (L.getD i 0)]:=rfl
  simp (disch:=omega) only[qL,grC,zv,k1,k2,k3,hy,egr,Int.toNat_natCast,go_sem]
  repeat' first
   |(refine cA (c96 _) flk ?_;simp (disch:=omega) only[i2',eCl,eTk,Nat.mul_one,go_sem])
   |with_reducible apply aiA
  all_goals try exact clz
  have eA:qeD (ms.take i)++ [AV.int .u64 ((jA gr.mem:Nat):Int)]=qeD (ms.take (i+1)):=by rw[hst,qq3];rfl
  rw[eA];refine hK _ _ (i+1,v+1,.mem (qr (some O5)+1) 164 [.int .u64 ((jA gr.mem:Nat):Int)]) ⟨hi,rfl⟩ (by simp only;omega) ?_;simp only[zv,qL,grC];refine Wk.temps ?_
  (simp only[go_sem,qi,qe,qa,qh];try (repeat' first|(with_reducible apply aiA)|(apply qg;omega)|(apply qf;rfl)|exact qj))
 obtain rfl:i=L.length:=by omega
 have k1:((L.length:Int)<L.length)=False:=eqf (by omega);have emt:ms.take L.length=ms:=ltl (by omega);rw[emt];simp (disch:=omega) only[k1,go_sem];have hbs0:bsO h gs all L 0 .nl (.emp 0):= .inl ⟨rfl,rfl⟩;refine⟨qQ 151 [(0,strs names),(4,.op h.length 1 0),(9,.op (h.length+2) 1 0),(10,.op (h.length+3) 1 0),(11,kk ms),(14,.op (h.length+7) 1 0),(15,.op (h.length+8) 1 0)],shH h gs all L (v+1) O5 .nl false (.emp 0) (.emp 0) (.emp 0) [],Wk.trans (Wk.freeze [h.length+4] (by simp only[ke,go_sem])) ?_,?_⟩
 ·unfold shH;simp only[qc1,List.map,go_sem];refine Wk.temps ?_
  (simp only[go_sem,qi,qe,qa,qh];try (repeat' first|(with_reducible apply aiA)|(apply qg;omega)|(apply qf;rfl)|exact qj))
  all_goals first
   |(rw[ine (by simp)];exact qj)
   |(rw[ipo (by simp),ipo (by simp)];exact qqD (fun _=>rfl) (by omega))
 have c98:=fun h=>qDt ms h
 simp (disch:=omega) only[go_sem]
 repeat' first
  |(refine cA (c98 _) flk ?_;simp (disch:=omega) only[go_sem])
 refine qa1 (xs:=qob ms) (itC ms (by omega) hmlt) (qoR ms)
  (S:=fun i hh=> ∃bc O9 O10 O12,bsO h gs all L i bc O9∧(∀n,qan n O9)∧qH [O10] 0=true∧(∀n,qan n O10)∧qH [O12] 0=true∧(∀n,qan n O12)∧hh=shH h gs all L (v+1) O5 bc (decide (0<i)) O9 O10 O12 [])
  (E:=fun _ _=>False) ?_ (fun _ _ h=>h.elim) ?_ ?_ ?_ ?_ (fun _ _ h=>h.elim)
 ·rintro i hh ⟨bc,O9,O10,O12,b1,b2,b4,b5,b6,b7,rfl⟩;have hbc:jb (h.length+19) bc=true∧jb (h.length+19+1) bc=true:=by
   rcases b1 with⟨rfl,_⟩|⟨j,w,_,rfl,_⟩
   ·cases i<;>exact⟨rfl,rfl⟩
   ·constructor<;>simp[jb]<;>omega
  unfold shH;refine LowI.app rfl (fun o ho=> ?_);have e19:([.mem 1 44 [qL gs],.emp 1,.mem 1 164 [.int .u64 ((all:Nat):Int)],.mem 1 62 [qn L],.emp (v+1),O5,.emp 0,.mem 1 62 [.nl],.mem 1 4 [.bool false],.emp 0,.emp 0,.emp 0,.emp 0,.emp 0,.emp 0,.emp 0,.emp 0,.emp 0,.emp 0]:List AObj).length=19:=rfl;simp only[List.mem_cons,List.not_mem_nil,or_false]at ho;rcases ho with rfl|rfl|rfl|rfl|rfl|rfl|rfl|rfl|rfl|rfl|rfl|rfl|rfl|rfl|rfl|rfl|rfl|rfl|rfl
  all_goals first
   |(left;simp;done)
   |(right;exact⟨b2 _,b2 _⟩)
   |(right;exact⟨b5 _,b5 _⟩)
   |(right;exact⟨b7 _,b7 _⟩)
   |(right;rw[e19];constructor<;>(intro c hc;simp only[List.mem_cons,List.not_mem_nil,or_false]at hc;subst hc;first|rfl|exact hbc.1|exact hbc.2))
 ·exact⟨.nl,.emp 0,.emp 0,.emp 0,hbs0,fun _=>trivial,rfl,fun _=>trivial,rfl,fun _=>trivial,rfl⟩
 ·rw[jr];simp[jb,jb.lowVs,qec,ql1]
  try omega
 ·rintro i hh tl LI TS hi ⟨bc,O9,O10,O12,b1,b2,b4,b5,b6,b7,rfl⟩ hq K K2 hK hN hR hX;rw[qgV hi];rw[qd0,hmsl]at hi;simp only[qco];simp (disch:=omega) only[go_sem];refine hK _ _ (shH h gs all L (v+1) O5 bc (decide (0<i)) O9 O10 O12 []) rfl (by rw[jr,jr]) ?_;rw[qbV];obtain⟨O9',p9,l9,w⟩:=shW (tl:= .lp .busy TS LI::tl) (v4:=v+1) (O5:=O5) (fd:=decide (0<i)) (O10:=O10) (O12:=O12) b1 b2;have p9': ∀m,qH (O9'::m) 0=true:=fun _=>p9
  have hi8:i<256:=Nat.lt_of_lt_of_le hi (Nat.pow_le_pow_right (by omega) hLl:2^L.length≤2^8);have hchl:=qrl hmlt i;obtain⟨m,hm⟩: ∃m,m=chN ms i:=⟨_,rfl⟩
  rw[←hm]at hchl;have hand:=qgO (a:=all) (b:=m) (by omega) hchl;have hanl:anN all m<256:=qrj (n:=8) hall;have c99a:=fun h=>qC3 i h hi8
  have c99b:=fun h=>qC3 (anN all m) h hanl
  have c100a:=fun h=>qBW i h (by omega)
  have c100b:=fun h=>qBW (anN all m) h (by omega)
  have hplc0:kV gs all L i=(zD i.testBit 64).map (fun k=>L.getD k.toNat 0)++(zD (anN all m).testBit 64).map (fun s=>(gs.length:Int)+s):=by unfold kV;rw[←hms,←hm]
  have hpl:=qcx gs all L i;rw[←hms,←hm]at hpl;have hpi:qjB i=(zD i.testBit 64).length:=rfl;have hpj:qjB (anN all m)=(zD (anN all m).testBit 64).length:=rfl;have hM1: ∀x∈zD i.testBit 64,∃y:Nat,x=(y:Int)∧y<L.length:=fun x hx=>by
   obtain⟨y,e1,e2,e3⟩:=zE hx;exact⟨y,e1,qa0 hi e3⟩
  have hM2: ∀x∈zD (anN all m).testBit 64,∃y:Nat,x=(y:Int)∧y<64:=fun x hx=>by
   obtain⟨y,e1,e2,e3⟩:=zE hx;exact⟨y,e1,e2⟩
  have hM1l:=zk i.testBit 64;have hM2l:=zk (anN all m).testBit 64;obtain⟨M,hM⟩: ∃M,M=zD i.testBit 64:=⟨_,rfl⟩
  obtain⟨M2,hM'⟩: ∃M2,M2=zD (anN all m).testBit 64:=⟨_,rfl⟩
  obtain⟨s1,hs1⟩: ∃s1,s1=qjB i:=⟨_,rfl⟩
  obtain⟨s2,hs2⟩: ∃s2,s2=qjB (anN all m):=⟨_,rfl⟩
  rw[←hM]at hplc0 hpi hM1 hM1l;rw[←hM']at hplc0 hpj hM2 hM2l;rw[←hs1]at hpi;rw[←hs2]at hpj;rw[←hs1,←hs2]at hpl;simp only[←hM]at c100a;simp only[←hM']at c100b;simp only[←hs1]at c99a;simp only[←hs2]at c99b;obtain⟨F,hF⟩: ∃F,F=M.map (fun k=>L.getD k.toNat 0):=⟨_,rfl⟩
  obtain⟨G,hG⟩: ∃G,G=M2.map (fun s=>(gs.length:Int)+s):=⟨_,rfl⟩
  have hplc:kV gs all L i=F++G:=by rw[hplc0,hF,hG]
  have hFl:F.length=M.length:=by rw[hF,List.length_map]
  have hGl:G.length=M2.length:=by rw[hG,List.length_map]
  have hMF: ∀j,j<M.length→ ∃y:Nat,M.getD j 0=(y:Int)∧y<L.length∧F.getD j 0=L.getD y 0:=fun j hj=>by
   have hm:M.getD j 0∈M:=by rw[gdqA,qY hj];exact List.getElem_mem hj
   obtain⟨y,e1,e2⟩:=hM1 _ hm;refine⟨y,e1,e2,?_⟩;rw[gdqA,qY hj]at e1;have e1:M[j]=(y:Int):=e1;rw[hF,gdqA,List.getElem?_map,qY hj,e1];rfl
  have hMG: ∀j,j<M2.length→ ∃y:Nat,M2.getD j 0=(y:Int)∧y<64∧G.getD j 0=(gs.length:Int)+y:=fun j hj=>by
   have hm:M2.getD j 0∈M2:=by rw[gdqA,qY hj];exact List.getElem_mem hj
   obtain⟨y,e1,e2⟩:=hM2 _ hm;refine⟨y,e1,e2,?_⟩;rw[gdqA,qY hj]at e1;have e1:M2[j]=(y:Int):=e1;rw[hG,gdqA,List.getElem?_map,qY hj,e1];rfl
  have zM1: ∀g,valL g .len [qn M]= .int .i64 M.length:=fun _=>rfl
  have zM2: ∀g,okL g .len [qn M]=True:=fun _=>eqt trivial
  simp only[←hm];simp (disch:=omega) only[go_sem];refine⟨_,_,w _,?_⟩;clear w;cases i with
  |zero=>
   have hfd:decide (0<0)=false:=rfl;simp (disch:=omega) only[shH,hfd,bsC,go_sem]
   repeat' first
    |((first|refine cA (c99a _) ?_ ?_|refine cA (c99b _) ?_ ?_|refine cA (c100a _) ?_ ?_);exact flk;simp (disch:=omega) only[p9',hand,zM1,zM2,go_sem])
    |with_reducible first|intro _|apply aiA
   all_goals try exact clz
   refine qp (T:=fun j:Nat×Nat×AObj=>qQ 151 [(0,strs names),(4,.op h.length 1 0),(9,.op (h.length+2) 1 0),(10,.op (h.length+3) 1 0),(14,.op (h.length+7) 1 0),(15,.op (h.length+8) 1 0),(16,.int .u64 ((0:Nat):Int)),(17,.int .u64 ((m:Nat):Int)),(19,.osl (h.length+9) j.2.1 1 0 j.1),(74,qn M),(75,.int .i64 M.length),(76,.int .i64 j.1)])
    (H:=fun j=>shH h gs all L (v+1) O5 .nl false (zP j.2.1 3 (qx (F.take j.1))) j.2.2 O12 (.lp .busy TS LI::tl))
    (inv:=fun j=>j.1≤M.length∧qH [j.2.2] 0=true∧ ∀n,qan n j.2.2) (m:=fun j=>M.length-j.1) (0,qr (some O9')+1,O10) ⟨nzl _,b4,b5⟩ (Wk.temps ?_) ?_
   ·(simp only[go_sem,qi,qe,qa,qh];try (repeat' first|(with_reducible apply aiA)|(apply qg;omega)|(apply qf;rfl)|exact qj))
   rintro⟨j,u,O10⟩ ⟨j1,j2,j3⟩ KA hKA;simp only at j1 j2 j3 hKA;have j2': ∀m,qH (O10::m) 0=true:=fun _=>j2
   by_cases hj:j<M.length
   ·have q1:((j:Int)<M.length)=True:=eqt (by omega);obtain⟨y,hy,hyl,hyF⟩:=hMF j hj;have q2:((y:Int)<L.length)=True:=eqt (by omega);have q3:(0≤(y:Int))=True:=eqt (by omega);have hst:=jV (L:=F) (i:=j) (by omega);rw[hyF]at hst;have eC:=qT (F.take j);rw[List.length_take,Nat.min_eq_left (by omega)]at eC;have eTk:List.take j (qx (F.take j))=qx (F.take j):=ltl (by omega);have zv: ∀X:List Int,qn X= .sl X.length fun i=> [.int .i64 (X.getD i 0)]:=fun _=>rfl
    simp (disch:=omega) only[shH,q1,q2,q3,j2',zv,hy,Nat.mul_one,Int.toNat_natCast,go_sem]
    repeat' first
     |with_reducible apply aiA
    all_goals try exact clz
    have eA:qx (F.take j)++ [AV.int .i64 (L.getD y 0)]=qx (F.take (j+1)):=by rw[hst,jh];rfl
    try rw[eTk]
    rw[eA];refine hKA _ _ (j+1,u+1,.mem (qr (some O10)+1) 3 [.int .i64 (L.getD y 0)]) ⟨hj,rfl,fun n c hc=>by simp only[List.mem_cons,List.not_mem_nil,or_false]at hc;subst hc;rfl⟩ (by simp only;omega) ?_;simp only[shH,zv];refine Wk.temps ?_
    (simp only[go_sem,qi,qe,qa,qh];try (repeat' first|(with_reducible apply aiA)|(apply qg;omega)|(apply qf;rfl)|exact qj))
   obtain rfl:j=M.length:=by omega
   have q1:((M.length:Int)<M.length)=False:=eqf (by omega);have eFt:F.take M.length=F:=ltl (by omega);rw[eFt];have zm1: ∀g,valL g .len [qn M2]= .int .i64 M2.length:=fun _=>rfl
   have zm2: ∀g,okL g .len [qn M2]=True:=fun _=>eqt trivial
   simp (disch:=omega) only[shH,q1,hand,go_sem]
   repeat' first
    |(refine cA (c100b _) flk ?_;simp (disch:=omega) only[zm1,zm2,go_sem])
    |with_reducible apply aiA
   all_goals try exact clz
   refine qp (T:=fun j:Nat×Nat×AObj=>qQ 151 [(0,strs names),(4,.op h.length 1 0),(9,.op (h.length+2) 1 0),(10,.op (h.length+3) 1 0),(14,.op (h.length+7) 1 0),(15,.op (h.length+8) 1 0),(19,.osl (h.length+9) j.2.1 1 0 (F.length+j.1)),(91,qn M2),(92,.int .i64 M2.length),(93,.int .i64 j.1)])
    (H:=fun j=>shH h gs all L (v+1) O5 .nl false (zP j.2.1 3 (qx (F++G.take j.1))) O10 j.2.2 (.lp .busy TS LI::tl))
    (inv:=fun j=>j.1≤M2.length∧qH [j.2.2] 0=true∧ ∀n,qan n j.2.2) (m:=fun j=>M2.length-j.1) (0,u,O12) ⟨nzl _,b6,b7⟩ ?_ ?_
   ·have e0:F++G.take 0=F:=by simp
    simp only[e0,Nat.add_zero,hFl];unfold shH;refine Wk.temps ?_
    (simp only[go_sem,qi,qe,qa,qh];try (repeat' first|(with_reducible apply aiA)|(apply qg;omega)|(apply qf;rfl)|exact qj))
   rintro⟨j,u2,O12⟩ ⟨k1,k2,k3⟩ KB hKB;simp only at k1 k2 k3 hKB;have k2': ∀m,qH (O12::m) 0=true:=fun _=>k2
   by_cases hj2:j<M2.length
   ·have q5:((j:Int)<M2.length)=True:=eqt (by omega);obtain⟨y,hy,hyl,hyG⟩:=hMG j hj2;have hst:F++G.take (j+1)=(F++G.take j)++ [(gs.length:Int)+y]:=by rw[jV (L:=G) (i:=j) (by omega),hyG,List.append_assoc]
    have eC:=qT (F++G.take j);rw[List.length_append,List.length_take,Nat.min_eq_left (by omega)]at eC;have eTk:List.take (F.length+j) (qx (F++G.take j))=qx (F++G.take j):=ltl (by omega);have zg1: ∀g,valL g .len [qL gs]= .int .i64 gs.length:=fun _=>rfl
    have zg2: ∀g,okL g .len [qL gs]=True:=fun _=>eqt trivial
    have zv: ∀X:List Int,qn X= .sl X.length fun i=> [.int .i64 (X.getD i 0)]:=fun _=>rfl
    simp (disch:=omega) only[shH,q5,k2',zv,hy,zg1,zg2,Nat.mul_one,Int.toNat_natCast,go_sem]
    repeat' first
     |with_reducible apply aiA
    all_goals try exact clz
    have eA:qx (F++G.take j)++ [AV.int .i64 ((gs.length:Int)+y)]=qx (F++G.take (j+1)):=by rw[hst,jh (F++G.take j)];rfl
    try rw[eTk]
    rw[eA];refine hKB _ _ (j+1,u2+1,.mem (qr (some O12)+1) 3 [.int .i64 ((gs.length:Int)+y)]) ⟨hj2,rfl,fun n c hc=>by simp only[List.mem_cons,List.not_mem_nil,or_false]at hc;subst hc;rfl⟩ (by simp only;omega) ?_;simp only[shH,zv];refine Wk.temps ?_
    (simp only[go_sem,qi,qe,qa,qh];try (repeat' first|(with_reducible apply aiA)|(apply qg;omega)|(apply qf;rfl)|exact qj))
   obtain rfl:j=M2.length:=by omega
   have q5:((M2.length:Int)<M2.length)=False:=eqf (by omega);have eGt:F++G.take M2.length=kV gs all L 0:=by rw[ltl (by omega),hplc]
   have eln:F.length+M2.length=(kV gs all L 0).length:=by rw[hplc,List.length_append];omega
   rw[eGt,eln];simp (disch:=omega) only[shH,q5,go_sem]
   repeat' first
    |(refine qk (.int .i64 0) ?_;simp (disch:=omega) only[go_sem])
    |with_reducible apply aiA
   all_goals try exact clz
   refine hN _ _ (shH h gs all L (v+1) O5 (.osl (h.length+9) u2 1 0 (kV gs all L 0).length) true (zP u2 3 (qx (kV gs all L 0))) O10 O12 []) ?_ (by rw[jr,jr]) ⟨_,_,_,_,.inr ⟨0,u2,rfl,rfl,rfl⟩,fun n=>qaK (qbn _ _),j2,j3,k2,k3,rfl⟩;rw[qbV];rfl
  |succ i'=>
   have hfd:decide (0<i'+1)=true:=dqt (by omega);have hfd2:decide (0<i'+1+1)=true:=dqt (by omega);have hbs':bst gs all L (i'+1)=if qsw (kV gs all L (i'+1)) (bst gs all L i')=true then kV gs all L (i'+1) else bst gs all L i':=rfl
   have hbc:bsC gs all L (i'+1)=qn (bst gs all L i'):=rfl;obtain⟨b,hb⟩: ∃b,b=bst gs all L i':=⟨_,rfl⟩
   rw[←hb]at hbs' hbc;have zb1: ∀g,valL g .len [qn b]= .int .i64 b.length:=fun _=>rfl
   have zb2: ∀g,okL g .len [qn b]=True:=fun _=>eqt trivial
   by_cases hsk:b.length<s1+s2
   ·have r0:((b.length:Int)<(s1:Int)+s2)=True:=eqt (by omega);simp (disch:=omega) only[shH,hfd,hbc,go_sem]
    repeat' first
     |((first|refine cA (c99a _) ?_ ?_|refine cA (c99b _) ?_ ?_);exact flk;simp (disch:=omega) only[p9',hand,zb1,zb2,r0,go_sem])
     |with_reducible apply aiA
    all_goals try exact clz
    have hbt:bst gs all L (i'+1)=b:=by rw[hbs',ine (by unfold qsw;rw[hpl];simp;omega)]
    refine hN _ _ (shH h gs all L (v+1) O5 (qn b) true O9' O10 O12 []) ?_ (by rw[jr,jr]) ⟨_,_,_,_,.inl ⟨by show qn b=qn (bst gs all L (i'+1));rw[hbt],p9⟩,l9,b4,b5,b6,b7,by rw[hfd2]⟩;rw[qbV];rfl
   have r0:((b.length:Int)<(s1:Int)+s2)=False:=eqf (by omega);simp (disch:=omega) only[shH,hfd,hbc,go_sem]
   repeat' first
    |((first|refine cA (c99a _) ?_ ?_|refine cA (c99b _) ?_ ?_|refine cA (c100a _) ?_ ?_);exact flk;simp (disch:=omega) only[p9',hand,zM1,zM2,zb1,zb2,r0,go_sem])
    |with_reducible apply aiA
   all_goals try exact clz
   refine qp (T:=fun j:Nat×Nat×AObj=>qQ 151 [(0,strs names),(4,.op h.length 1 0),(9,.op (h.length+2) 1 0),(10,.op (h.length+3) 1 0),(14,.op (h.length+7) 1 0),(15,.op (h.length+8) 1 0),(16,.int .u64 (((i'+1):Nat):Int)),(17,.int .u64 ((m:Nat):Int)),(19,.osl (h.length+9) j.2.1 1 0 j.1),(74,qn M),(75,.int .i64 M.length),(76,.int .i64 j.1)])
    (H:=fun j=>shH h gs all L (v+1) O5 (qn b) true (zP j.2.1 3 (qx (F.take j.1))) j.2.2 O12 (.lp .busy TS LI::tl))
    (inv:=fun j=>j.1≤M.length∧qH [j.2.2] 0=true∧ ∀n,qan n j.2.2) (m:=fun j=>M.length-j.1) (0,qr (some O9')+1,O10) ⟨nzl _,b4,b5⟩ (Wk.temps ?_) ?_
   ·(simp only[go_sem,qi,qe,qa,qh];try (repeat' first|(with_reducible apply aiA)|(apply qg;omega)|(apply qf;rfl)|exact qj))
   rintro⟨j,u,O10⟩ ⟨j1,j2,j3⟩ KA hKA;simp only at j1 j2 j3 hKA;have j2': ∀m,qH (O10::m) 0=true:=fun _=>j2
   by_cases hj:j<M.length
   ·have q1:((j:Int)<M.length)=True:=eqt (by omega);obtain⟨y,hy,hyl,hyF⟩:=hMF j hj;have q2:((y:Int)<L.length)=True:=eqt (by omega);have q3:(0≤(y:Int))=True:=eqt (by omega);have hst:=jV (L:=F) (i:=j) (by omega);rw[hyF]at hst;have eC:=qT (F.take j);rw[List.length_take,Nat.min_eq_left (by omega)]at eC;have eTk:List.take j (qx (F.take j))=qx (F.take j):=ltl (by omega);have zv: ∀X:List Int,qn X= .sl X.length fun i=> [.int .i64 (X.getD i 0)]:=fun _=>rfl
    simp (disch:=omega) only[shH,q1,q2,q3,j2',zv,hy,Nat.mul_one,Int.toNat_natCast,go_sem]
    repeat' first
     |with_reducible apply aiA
    all_goals try exact clz
    have eA:qx (F.take j)++ [AV.int .i64 (L.getD y 0)]=qx (F.take (j+1)):=by rw[hst,jh];rfl
    try rw[eTk]
    rw[eA];refine hKA _ _ (j+1,u+1,.mem (qr (some O10)+1) 3 [.int .i64 (L.getD y 0)]) ⟨hj,rfl,fun n c hc=>by simp only[List.mem_cons,List.not_mem_nil,or_false]at hc;subst hc;rfl⟩ (by simp only;omega) ?_;simp only[shH,zv];refine Wk.temps ?_
    (simp only[go_sem,qi,qe,qa,qh];try (repeat' first|(with_reducible apply aiA)|(apply qg;omega)|(apply qf;rfl)|exact qj))
   obtain rfl:j=M.length:=by omega
   have q1:((M.length:Int)<M.length)=False:=eqf (by omega);have eFt:F.take M.length=F:=ltl (by omega);rw[eFt];have zm1: ∀g,valL g .len [qn M2]= .int .i64 M2.length:=fun _=>rfl
   have zm2: ∀g,okL g .len [qn M2]=True:=fun _=>eqt trivial
   simp (disch:=omega) only[shH,q1,hand,go_sem]
   repeat' first
    |(refine cA (c100b _) flk ?_;simp (disch:=omega) only[zm1,zm2,go_sem])
    |with_reducible apply aiA
   all_goals try exact clz
   refine qp (T:=fun j:Nat×Nat×AObj=>qQ 151 [(0,strs names),(4,.op h.length 1 0),(9,.op (h.length+2) 1 0),(10,.op (h.length+3) 1 0),(14,.op (h.length+7) 1 0),(15,.op (h.length+8) 1 0),(19,.osl (h.length+9) j.2.1 1 0 (F.length+j.1)),(91,qn M2),(92,.int .i64 M2.length),(93,.int .i64 j.1)])
    (H:=fun j=>shH h gs all L (v+1) O5 (qn b) true (zP j.2.1 3 (qx (F++G.take j.1))) O10 j.2.2 (.lp .busy TS LI::tl))
    (inv:=fun j=>j.1≤M2.length∧qH [j.2.2] 0=true∧ ∀n,qan n j.2.2) (m:=fun j=>M2.length-j.1) (0,u,O12) ⟨nzl _,b6,b7⟩ ?_ ?_
   ·have e0:F++G.take 0=F:=by simp
    simp only[e0,Nat.add_zero,hFl];unfold shH;refine Wk.temps ?_
    (simp only[go_sem,qi,qe,qa,qh];try (repeat' first|(with_reducible apply aiA)|(apply qg;omega)|(apply qf;rfl)|exact qj))
   rintro⟨j,u2,O12⟩ ⟨k1,k2,k3⟩ KB hKB;simp only at k1 k2 k3 hKB;have k2': ∀m,qH (O12::m) 0=true:=fun _=>k2
   by_cases hj2:j<M2.length
   ·have q5:((j:Int)<M2.length)=True:=eqt (by omega);obtain⟨y,hy,hyl,hyG⟩:=hMG j hj2;have hst:F++G.take (j+1)=(F++G.take j)++ [(gs.length:Int)+y]:=by rw[jV (L:=G) (i:=j) (by omega),hyG,List.append_assoc]
    have eC:=qT (F++G.take j);rw[List.length_append,List.length_take,Nat.min_eq_left (by omega)]at eC;have eTk:List.take (F.length+j) (qx (F++G.take j))=qx (F++G.take j):=ltl (by omega);have zg1: ∀g,valL g .len [qL gs]= .int .i64 gs.length:=fun _=>rfl
    have zg2: ∀g,okL g .len [qL gs]=True:=fun _=>eqt trivial
    have zv: ∀X:List Int,qn X= .sl X.length fun i=> [.int .i64 (X.getD i 0)]:=fun _=>rfl
    simp (disch:=omega) only[shH,q5,k2',zv,hy,zg1,zg2,Nat.mul_one,Int.toNat_natCast,go_sem]
    repeat' first
     |with_reducible apply aiA
    all_goals try exact clz
    have eA:qx (F++G.take j)++ [AV.int .i64 ((gs.length:Int)+y)]=qx (F++G.take (j+1)):=by rw[hst,jh (F++G.take j)];rfl
    try rw[eTk]
    rw[eA];refine hKB _ _ (j+1,u2+1,.mem (qr (some O12)+1) 3 [.int .i64 ((gs.length:Int)+y)]) ⟨hj2,rfl,fun n c hc=>by simp only[List.mem_cons,List.not_mem_nil,or_false]at hc;subst hc;rfl⟩ (by simp only;omega) ?_;simp only[shH,zv];refine Wk.temps ?_
    (simp only[go_sem,qi,qe,qa,qh];try (repeat' first|(with_reducible apply aiA)|(apply qg;omega)|(apply qf;rfl)|exact qj))
   obtain rfl:j=M2.length:=by omega
   have q5:((M2.length:Int)<M2.length)=False:=eqf (by omega);have eGt:F++G.take M2.length=kV gs all L (i'+1):=by rw[ltl (by omega),hplc]
   have eln:F.length+M2.length=(kV gs all L (i'+1)).length:=by rw[hplc,List.length_append];omega
   rw[eGt,eln]
   by_cases h1:(kV gs all L (i'+1)).length<b.length
   ·have r1:(((kV gs all L (i'+1)).length:Int)<b.length)=True:=eqt (by omega);simp (disch:=omega) only[shH,q5,zb1,zb2,r1,go_sem]
    repeat' first
     |(refine qk (.int .i64 0) ?_;simp (disch:=omega) only[go_sem])
     |with_reducible apply aiA
    all_goals try exact clz
    have hbt:bst gs all L (i'+1)=kV gs all L (i'+1):=by rw[hbs',ipo (by unfold qsw;simp[h1])]
    refine hN _ _ (shH h gs all L (v+1) O5 (.osl (h.length+9) u2 1 0 (kV gs all L (i'+1)).length) true (zP u2 3 (qx (kV gs all L (i'+1)))) O10 O12 []) ?_ (by rw[jr,jr]) ⟨_,_,_,_,.inr ⟨i'+1,u2,rfl,by rw[hbt],by rw[hbt]⟩,fun n=>qaK (qbn _ _),j2,j3,k2,k3,by rw[hfd2]⟩;rw[qbV];rfl
   have r1:(((kV gs all L (i'+1)).length:Int)<b.length)=False:=eqf (by omega);have heq:(kV gs all L (i'+1)).length=b.length:=by omega
   simp (disch:=omega) only[shH,q5,zb1,zb2,r1,go_sem]
   repeat' first
    |with_reducible apply aiA
   all_goals try exact clz
   refine cG (fun _=>qDv (kV gs all L (i'+1)) b (h.length+9) u2 _ _ rfl (by simp only[go_sem]) heq (by omega)) (fun _=>by exact flk) ?_
   by_cases h2:qrn (kV gs all L (i'+1)) b<0
   ·have r2:(qrn (kV gs all L (i'+1)) b<0)=True:=eqt h2;simp (disch:=omega) only[r2,go_sem];have hbt:bst gs all L (i'+1)=kV gs all L (i'+1):=by rw[hbs',ipo (by unfold qsw;simp[heq,h2])]
    refine hN _ _ (shH h gs all L (v+1) O5 (.osl (h.length+9) u2 1 0 (kV gs all L (i'+1)).length) true (zP u2 3 (qx (kV gs all L (i'+1)))) O10 O12 []) ?_ (by rw[jr,jr]) ⟨_,_,_,_,.inr ⟨i'+1,u2,rfl,by rw[hbt],by rw[hbt]⟩,fun n=>qaK (qbn _ _),j2,j3,k2,k3,by rw[hfd2]⟩;rw[qbV];rfl
   ·have r2:(qrn (kV gs all L (i'+1)) b<0)=False:=eqf h2;simp (disch:=omega) only[r2,go_sem];have hbt:bst gs all L (i'+1)=b:=by rw[hbs',ine (by unfold qsw;simp[heq,h2])]
    refine hN _ _ (shH h gs all L (v+1) O5 (qn b) true (zP u2 3 (qx (kV gs all L (i'+1)))) O10 O12 []) ?_ (by rw[jr,jr]) ⟨_,_,_,_,.inl ⟨by show qn b=qn (bst gs all L (i'+1));rw[hbt],site_own0⟩,fun n=>qaK (qbn _ _),j2,j3,k2,k3,by rw[hfd2]⟩;rw[qbV];rfl
 ·rintro hh ⟨bc,O9,O10,O12,b1,b2,b4,b5,b6,b7,rfl⟩;rw[qd0,hmsl]at b1 ⊢;have hN1:1≤2^L.length:=Nat.one_le_two_pow;obtain⟨N,hN⟩: ∃N,2^L.length=N+1:=⟨2^L.length-1,by omega⟩
  obtain⟨kb,kb1,kb2⟩:=hbs N;have hBin: ∀p∈bst gs all L N,0≤p∧p<gs.length+names.length:=fun p hp=>by
   rw[kb2]at hp;exact hpin (by omega) hp
  have hBl:(bst gs all L N).length≤200:=by
   rw[kb2,qcx];have h1:=zk kb.testBit 64;have h2:=zk (anN all (chN (usM gs L) kb)).testBit 64;unfold qjB;omega
  rw[hN]at b1;rw[show 2^L.length-1=N by omega];obtain⟨fd,hfd⟩: ∃fd,fd=decide (0<2^L.length):=⟨_,rfl⟩
  rw[←hfd];obtain⟨O9',hw⟩: ∃O9',∀TT,Wk TT (h++ [.mem 1 44 [qL gs],.emp 1,.mem 1 164 [.int .u64 ((all:Nat):Int)],.mem 1 62 [qn L],.emp (v+1),O5,.emp 0,.mem 1 62 [bc],.mem 1 4 [.bool fd],O9,O10,.emp 0,O12,.emp 0,.emp 1,.emp 0,.emp 0,.emp 0,.emp 0])
    TT (h++ [.mem 1 44 [qL gs],.emp 1,.mem 1 164 [.int .u64 ((all:Nat):Int)],.mem 1 62 [qn L],.emp (v+1),O5,.emp 0,.mem 1 62 [qn (bst gs all L N)],.mem 1 4 [.bool fd],O9',O10,.emp 0,O12,.emp 0,.emp 1,.emp 0,.emp 0,.emp 0,.emp 0]):=by
   rcases b1 with⟨rfl,p9⟩|⟨j,u,e,rfl,rfl⟩
   ·exact⟨O9,fun TT=>Wk.refl _ _⟩
   ·obtain rfl:N=j:=by omega
    refine⟨.emp (u+1),fun TT=> ?_⟩;have w:=Wk.fzCell (t:=TT) (h:=h++ [.mem 1 44 [qL gs],.emp 1,.mem 1 164 [.int .u64 ((all:Nat):Int)],.mem 1 62 [qn L],.emp (v+1),O5,.emp 0,.mem 1 62 [.osl (h.length+9) u 1 0 (bst gs all L N).length],.mem 1 4 [.bool fd],zP u 3 (qx (bst gs all L N)),O10,.emp 0,O12,.emp 0,.emp 1,.emp 0,.emp 0,.emp 0,.emp 0])
     (j:=h.length+7) (k:=h.length+9) (i:=0) (v:=1) (ty:=62) (cs:= [.osl (h.length+9) u 1 0 (bst gs all L N).length]) (c:= .osl (h.length+9) u 1 0 (bst gs all L N).length) (c':=qn (bst gs all L N))
     (by simp only[go_sem]) rfl (by simp only[go_sem]) (by omega) (by rw[qcs,getO_app];exact qaL (fun _=>rfl) rfl)
    simp only[go_sem,List.set_cons_zero]at w;exact w
  simp (disch:=omega) only[shH,go_sem];refine⟨_,_,hw _,?_⟩;obtain⟨B,hB⟩: ∃B,B=bst gs all L N:=⟨_,rfl⟩
  rw[←hB]at hBin hBl ⊢;have zb1: ∀g,valL g .len [qn B]= .int .i64 B.length:=fun _=>rfl
  have zb2: ∀g,okL g .len [qn B]=True:=fun _=>eqt trivial
  simp (disch:=omega) only[zb1,zb2,go_sem]
  repeat' first
   |with_reducible apply aiA
  all_goals try exact clz
  refine qp (T:=fun s:Nat×Nat×AObj×AObj=>qQ 151 [(0,strs names),(4,.op h.length 1 0),(24,.osl (h.length+14) s.2.1 1 0 s.1),(121,qn B),(122,.int .i64 B.length),(123,.int .i64 s.1)])
   (H:=fun s=>h++ [.mem 1 44 [qL gs],.emp 1,.mem 1 164 [.int .u64 ((all:Nat):Int)],.mem 1 62 [qn L],.emp (v+1),O5,.emp 0,.mem 1 62 [qn B],.mem 1 4 [.bool fd],O9',O10,.emp 0,O12,.emp 0,zP s.2.1 9 (jn ((B.map (qaP names gs)).take s.1)),s.2.2.1,.emp 0,s.2.2.2,.emp 0])
   (inv:=fun s=>s.1≤B.length∧qH [s.2.2.1] 0=true∧qH [s.2.2.2] 0=true) (m:=fun s=>B.length-s.1) (0,1,.emp 0,.emp 0) ⟨nzl _,rfl,rfl⟩ (Wk.temps ?_) ?_
  ·(simp only[go_sem,qi,qe,qa,qh];try (repeat' first|(with_reducible apply aiA)|(apply qg;omega)|(apply qf;rfl)|exact qj))
  rintro⟨i,u,O15,O17⟩ ⟨i1,i2,i3⟩ K hK;simp only at i1 i2 i3 hK;have i2': ∀m,qH (O15::m) 0=true:=fun _=>i2
  have i3': ∀m,qH (O17::m) 0=true:=fun _=>i3
  have eCl:i≤B.length→(jn ((B.map (qaP names gs)).take i)).length=i:=fun hi=>by rw[jR,List.length_take,List.length_map];omega
  have zv: ∀X:List Int,qn X= .sl X.length fun i=> [.int .i64 (X.getD i 0)]:=fun _=>rfl
  by_cases hi:i<B.length
  ·have q1:((i:Int)<B.length)=True:=eqt (by omega);have hm:B.getD i 0∈B:=by rw[gdqA,qY hi];exact List.getElem_mem hi
   obtain⟨p0,p1⟩:=hBin _ hm;have hst:(B.map (qaP names gs)).take (i+1)=(B.map (qaP names gs)).take i++ [qaP names gs (B.getD i 0)]:=by
    rw[←List.map_take,←List.map_take,jV hi,List.map_append];rfl
   have eTk:List.take i (jn ((B.map (qaP names gs)).take i))=jn ((B.map (qaP names gs)).take i):=ltl (by rw[eCl (by omega)];exact nlr _);have eC:=eCl (by omega);have zg1: ∀g,valL g .len [qL gs]= .int .i64 gs.length:=fun _=>rfl
   have zg2: ∀g,okL g .len [qL gs]=True:=fun _=>eqt trivial
   obtain⟨y,hy⟩: ∃y:Nat,B.getD i 0=(y:Int):=⟨(B.getD i 0).toNat,by omega⟩
   rw[hy]at hst p1
   by_cases hg:y<gs.length
   ·have q2:((y:Int)<gs.length)=True:=eqt (by omega);have q3:(0≤(y:Int))=True:=eqt (by omega);have hsg:qaP names gs (y:Int)=(gs.getD y default).name:=by unfold qaP;rw[ipo (by omega),Int.toNat_natCast]
    rw[hsg]at hst;simp (disch:=omega) only[zv,qL,grC,q1,q2,q3,hy,i2',Nat.mul_one,Int.toNat_natCast,go_sem]
    repeat' first
     |with_reducible apply aiA
    all_goals try exact clz
    have eA:jn ((B.map (qaP names gs)).take i)++ [AV.str (gs.getD y default).name]=jn ((B.map (qaP names gs)).take (i+1)):=by rw[hst,qcA];rfl
    try rw[eTk]
    rw[eA];refine hK _ _ (i+1,u+1,.mem (qr (some O15)+1) 9 [.str (gs.getD y default).name],O17) ⟨hi,rfl,i3⟩ (by simp only;omega) ?_;simp only[zv,qL,grC];refine Wk.temps ?_
    (simp only[go_sem,qi,qe,qa,qh];try (repeat' first|(with_reducible apply aiA)|(apply qg;omega)|(apply qf;rfl)|exact qj))
   ·have q2:((y:Int)<gs.length)=False:=eqf (by omega);obtain⟨z,hz⟩: ∃z:Nat,(y:Int)-gs.length=(z:Int):=⟨y-gs.length,by omega⟩
    have q3:((z:Int)<names.length)=True:=eqt (by omega);have q4:(0≤(z:Int))=True:=eqt (by omega);have hsg:qaP names gs (y:Int)=names.getD z []:=by unfold qaP;rw[ine (by omega),hz,Int.toNat_natCast]
    rw[hsg]at hst;simp (disch:=omega) only[zv,strs,zg1,zg2,q1,q2,q3,q4,hy,hz,i3',Nat.mul_one,Int.toNat_natCast,go_sem]
    repeat' first
     |with_reducible apply aiA
    all_goals try exact clz
    have eA:jn ((B.map (qaP names gs)).take i)++ [AV.str (names.getD z [])]=jn ((B.map (qaP names gs)).take (i+1)):=by rw[hst,qcA];rfl
    try rw[eTk]
    rw[eA];refine hK _ _ (i+1,u+1,O15,.mem (qr (some O17)+1) 9 [.str (names.getD z [])]) ⟨hi,i2,rfl⟩ (by simp only;omega) ?_;simp only[zv,strs];refine Wk.temps ?_
    (simp only[go_sem,qi,qe,qa,qh];try (repeat' first|(with_reducible apply aiA)|(apply qg;omega)|(apply qf;rfl)|exact qj))
  ·obtain rfl:i=B.length:=by omega
   have q1:((B.length:Int)<B.length)=False:=eqf (by omega);have eAll:(B.map (qaP names gs)).take B.length=B.map (qaP names gs):=ltl (by simp);rw[eAll];simp (disch:=omega) only[q1,go_sem]
   repeat' first
    |(apply qb;exact rvk;simp only[go_sem])
   exact zA ⟨qcz (fun _=>rfl) (by simp),qj,trivial⟩
theorem qc3(p:Nat→Bool)(n:Nat):(zD p n).Pairwise (· < ·):=by
 unfold zD;rw[List.pairwise_map];exact ((List.pairwise_lt_range (n:=n)).filter _).imp fun h=>by simpa using h
theorem qz5{l:List Int}(h: ∀i,0<i→i<l.length→l.getD (i-1) 0<l.getD i 0):l.Pairwise (· < ·):=by
 rw[List.pairwise_iff_getElem];have key: ∀j i,(hj:j<l.length)→i<j→l.getD i 0<l.getD j 0:=by
  intro j
  induction j with
  |zero=>intro i _ h;omega
  |succ j ih=>
   intro i hj hi;have h1:=h (j+1) (by omega) hj;rw[Nat.add_sub_cancel]at h1
   by_cases e:i=j
   ·subst e;exact h1
   ·have:=ih i (by omega) (by omega)
    omega
 intro i j hi hj hij
 have:=key j i hj hij
 rw[gdqA,qY hi,gdqA,qY hj]at this;exact this
theorem qhj{l:List Int}(h:l.Pairwise (· < ·)):l.Nodup:=h.imp fun h e=>by omega
theorem quf{l m:List Int}(hl:l.Pairwise (· < ·))(hm:m.Pairwise (· < ·))(h: ∀x,x∈l↔x∈m):l=m:=
 List.Perm.eq_of_pairwise (le:=(· < ·)) (fun a b _ _ h1 h2=>by omega) hl hm ((List.perm_ext_iff_of_nodup (qhj hl) (qhj hm)).2 h)
theorem qqx{l:List Int}{n:Nat}(hn:n≤64)(h:qdn n l=0):l=zD (jA l).testBit 64:=by
 obtain⟨h1,h2⟩:=qaD h;have h64:inB 64 l:=fun i hi=>by have:=h1 i hi;omega
 refine quf (qz5 h2) (qc3 _ _) fun x=> ?_
 rw[jj];constructor
 ·intro hx;have hb:=jQ h64 x hx;exact⟨x.toNat,by omega,by rw[jG h64];exact dqt (by rw[show ((x.toNat:Nat):Int)=x by omega];exact hx),by omega⟩
 ·rintro⟨k,_,hk,rfl⟩;rw[jG h64]at hk;exact of_decide_eq_true hk
theorem qon{a b:Nat}(ha:a<2^64)(hb:b<2^64):anN a b=0↔ ∀k,a.testBit k=true→b.testBit k=true:=by
 constructor
 ·intro h k hk
  have:=qdV ha hb k
  rw[h,Nat.zero_testBit,hk,Bool.true_and]at this;cases e:b.testBit k with
  |true=>rfl
  |false=>rw[e]at this;cases this
 ·intro h;refine Nat.eq_of_testBit_eq fun k=> ?_
  rw[qdV ha hb,Nat.zero_testBit];cases e:a.testBit k with
  |false=>rfl
  |true=>rw[h k e];rfl
theorem qvX{gs:List Gr}{l:List Int}{i:Nat}(hm:inB 64 (gs.getD i default).mem)(hl:inB 64 l):qjw gs (jA l) i=decide (∀x∈(gs.getD i default).mem,x∈l):=by
 unfold qjw;refine decide_eq_decide.2 ?_;rw[qon (qca hm) (qca hl)];constructor
 ·intro h x hx;have hb:=jQ hm x hx
  have:=h x.toNat (by rw[jG hm];exact dqt (by rw[show ((x.toNat:Nat):Int)=x by omega];exact hx))
  rw[jG hl]at this
  have:=of_decide_eq_true this
  rw[show ((x.toNat:Nat):Int)=x by omega]at this;exact this
 ·intro h k hk;rw[jG hm]at hk;rw[jG hl];exact dqt (h _ (of_decide_eq_true hk))
structure qfK (L:List Rd) (s:Nat):Prop where
 src: ∀r∈L,r.src.Pairwise (· < ·)∧ ∀x∈r.src,0≤x∧x<s
 ne: ∀i j,i<j→j<L.length→(L.getD i default).words≠(L.getD j default).words
theorem qbO(L:List Rd)(w:List Str):(∃i,i<L.length∧(L.getD i default).words=w∧qjC L w=i)∨((∀i,i<L.length→(L.getD i default).words≠w)∧qjC L w<0):=by
 unfold qjC;rcases zh (fun j=>decide (w=(L.getD j default).words)) L.length with⟨i,h1,h2,_,h4⟩|⟨h1,h2⟩
 ·exact .inl ⟨i,h1,(of_decide_eq_true h2).symm,h4⟩
 ·exact .inr ⟨fun i hi e=>of_decide_eq_false (h1 i hi) e.symm,by omega⟩
theorem jY{L:List Rd}{i j:Nat}{r:Rd}(hi:i<L.length):(L.set i r).getD j default=if j=i then r else L.getD j default:=by
 rw[gdqA,List.getElem?_set]
 by_cases e:i=j
 ·subst e;rw[ipo rfl,ipo hi,ipo rfl];rfl
 ·rw[ine e,ine (fun h=>e h.symm),gdqA]
theorem qok{L:List Rd}{w:List Str}{s:Nat}(h:qfK L s):qfK (qfG L w s) (s+1):=by
 have g: ∀i (hi:i<L.length),L.getD i default=L[i]:=fun i hi=>by rw[gdqA,qY hi];rfl
 rcases qbO L w with⟨i,h1,h2,h3⟩|⟨h1,h2⟩
 ·have e:qfG L w s=L.set i ⟨w,(L.getD i default).src++ [(s:Int)]⟩:=by
   unfold qfG;rw[h3,ine (by omega),Int.toNat_natCast]
  rw[e];have hm:=h.src (L.getD i default) (by rw[g i h1];exact List.getElem_mem h1);refine⟨fun r hr=> ?_,fun a b hab hb=> ?_⟩
  ·rcases List.mem_or_eq_of_mem_set hr with hr|rfl
   ·obtain⟨a,b⟩:=h.src r hr;exact⟨a,fun x hx=>by have:=b x hx;omega⟩
   ·refine⟨List.pairwise_append.2 ⟨hm.1,List.pairwise_singleton _ _,fun a ha b hb=> ?_⟩,fun x hx=> ?_⟩
    ·rw[List.mem_singleton]at hb
     have:=hm.2 a ha
     omega
    ·rcases List.mem_append.1 hx with hx|hx
     ·have:=hm.2 x hx;omega
     ·rw[List.mem_singleton]at hx;omega
  ·rw[List.length_set]at hb;rw[jY h1,jY h1];have key: ∀j,j<L.length→j≠i→(L.getD j default).words≠w:=fun j hj hne e=>by
    rw[←h2]at e;rcases Nat.lt_or_gt_of_ne hne with hlt|hlt
    ·exact h.ne j i hlt h1 e
    ·exact h.ne i j hlt hj e.symm
   by_cases ea:a=i
   ·rw[ipo ea,ine (by omega)];exact fun e=>key b hb (by omega) e.symm
   ·rw[ine ea]
    by_cases eb:b=i
    ·rw[ipo eb];exact key a (by omega) ea
    ·rw[ine eb];exact h.ne a b hab hb
 ·have e:qfG L w s=L++ [⟨w,[(s:Int)]⟩]:=by
   unfold qfG;rw[ipo h2]
  rw[e];refine⟨fun r hr=> ?_,fun a b hab hb=> ?_⟩
  ·rcases List.mem_append.1 hr with hr|hr
   ·obtain⟨a,b⟩:=h.src r hr;exact⟨a,fun x hx=>by have:=b x hx;omega⟩
   ·rw[List.mem_singleton]at hr;subst hr;exact⟨List.pairwise_singleton _ _,fun x hx=>by rw[List.mem_singleton]at hx;omega⟩
  ·rw[List.length_append,List.length_singleton]at hb;have ga: ∀j,j<L.length→(L++ [(⟨w,[(s:Int)]⟩:Rd)]).getD j default=L.getD j default:=fun j hj=>by
    rw[gdqA,List.getElem?_append_left hj,gdqA]
   rw[ga a (by omega)]
   by_cases eb:b<L.length
   ·rw[ga b eb];exact h.ne a b hab eb
   ·have:b=L.length:=by omega
    subst this;have gb:(L++ [(⟨w,[(s:Int)]⟩:Rd)]).getD L.length default=⟨w,[(s:Int)]⟩:=by
     rw[gdqA,List.getElem?_append_right (nlr _),Nat.sub_self];rfl
    rw[gb];exact h1 a (by omega)
theorem qem(x:Co)(f d:Nat): ∀s,qfK (qcc x f d s) s:=by
 intro s
 induction s with
 |zero=>exact⟨fun r hr=>absurd hr List.not_mem_nil,fun i j _ h=>absurd h (nnz j)⟩
 |succ s ih=>exact qok ih
theorem qhv(x:Co)(f t:Nat):qfK (qhu x f t) x.sig.length:=qem x f (t-f) x.sig.length
theorem qrZ{n:Nat}{S:List Int}(h1:S.Pairwise (· < ·))(h2: ∀x∈S,0≤x∧x<n):qdn n S=0:=by
 have g: ∀i (hi:i<S.length),S.getD i 0=S[i]:=fun i hi=>by rw[gdqA,qY hi];rfl
 unfold qdn;refine qI fun i hi=> ?_
 have hm:=h2 (S.getD i 0) (by rw[g i hi];exact List.getElem_mem hi);unfold qen;rw[ine (by omega),ine];rintro⟨h0,h3⟩
 have:=List.pairwise_iff_getElem.1 h1 (i-1) i (by omega) hi (by omega)
 rw[g i hi,g (i-1) (by omega)]at h3;omega
def qp7(cur:Str):Str→List Str
 | []=>if cur= [] then [] else [cur]
 |c::r=>if c=32 then (if cur= [] then [] else [cur])++qp7 [] r else qp7 (cur++ [c]) r
def qdi(cls s:Str):Bool:=decide (cls∈qp7 [] s)
def lyE(lay:List Str):Int:=if lay.length=0 then 5 else if 16<lay.length then 4 else 0
def lyN(lay:List Str)(cls:Str):Int:=if qam (fun i=>qdi cls (lay.getD i [])) lay.length 0<0 then (lay.length:Int)-1 else qam (fun i=>qdi cls (lay.getD i [])) lay.length 0
def lyR(lay:List Str)(cls:Str):Int:=if lyE lay=0 then lyN lay cls else 0
theorem qzH: ∀(s cur:Str),[]∉qp7 cur s:=by
 intro s
 induction s with
 |nil=>
  intro cur;unfold qp7;split
  ·exact List.not_mem_nil
  ·rename_i h;rw[List.mem_singleton];exact fun e=>h e.symm
 |cons c r ih=>
  intro cur;unfold qp7;split
  ·rw[List.mem_append,not_or];refine⟨?_,ih []⟩;split
   ·exact List.not_mem_nil
   ·rename_i h;rw[List.mem_singleton];exact fun e=>h e.symm
  ·exact ih _
structure Ap where
 x:Co
 l:List Un
 cls:List (List Str)
 b:List Wd
 gs:List Gr
 lay:List Str
 pos:List Bool
def enE(a:Ap):Int:=
 if pvE a.x a.l a.b≠0 then pvE a.x a.l a.b else if sgE a.x.sig a.gs≠0 then 1 else if lyE a.lay≠0 then lyE a.lay else if a.pos.length≠a.lay.length∨a.cls.length≠a.l.length then 9 else
  if qZ (fun k=> !decide ((a.cls.getD k []).length=(a.l.getD k default).rds.length)) a.l.length=true then 9 else 0
def owG(b:List Wd)(k:Int):Nat→List Str
 |0=> []
 |i+1=>owG b k i++if (b.getD i default).unit=k then [(b.getD i default).text] else []
def qfJ(a:Ap)(k:Nat):List Str:=owG a.b k a.b.length
def vrG(a:Ap)(k y:Nat):Nat→List Va
 |0=> []
 |r+1=>vrG a k y r++if lyN a.lay ((a.cls.getD k []).getD r [])=y∧((a.l.getD k default).rds.getD r default).words≠qfJ a k then
   [⟨((a.l.getD k default).rds.getD r default).words,shR a.x.sig a.gs ((a.l.getD k default).rds.getD r default).src⟩] else []
def vrK(a:Ap)(k y:Nat):List Va:=vrG a k y (a.l.getD k default).rds.length
def baK(a:Ap)(k:Nat):Int:=qam (fun r=>decide (((a.l.getD k default).rds.getD r default).words=qfJ a k)) (a.l.getD k default).rds.length 0
def suK(a:Ap)(k y:Nat):List Str:=if a.pos.getD y false=true∧0≤baK a k then shR a.x.sig a.gs ((a.l.getD k default).rds.getD (baK a k).toNat default).src else []
def frK(a:Ap)(k:Nat):Nat:=cP (bfU a.b (a.l.getD k default).frm) a.b.length
def toK(a:Ap)(k:Nat):Nat:=frK a k+cP (inU a.b k) a.b.length
def enK(a:Ap)(k y:Nat):En:=⟨y,frK a k,toK a k,a.pos.getD y false,suK a k y,vrK a k y⟩
def enY(a:Ap)(k:Nat):Nat→List En
 |0=> []
 |y+1=>enY a k y++if vrK a k y= [] then [] else [enK a k y]
def enU(a:Ap):Nat→List En
 |0=> []
 |k+1=>enU a k++enY a k a.lay.length
def enR(a:Ap):List En:=if enE a=0 then enU a a.l.length else []
structure qhP (L:List Rd) (s:Nat) (W:Nat→List Str):Prop where
 has: ∀i,i<s→ ∃j,j<L.length∧(i:Int)∈(L.getD j default).src
 wd: ∀j,j<L.length→ ∀x∈(L.getD j default).src,(L.getD j default).words=W x.toNat
 nn: ∀j,j<L.length→(L.getD j default).src≠ []
theorem qbh{L:List Rd}{r:Rd}{j:Nat}:(L++ [r]).getD j default=if j<L.length then L.getD j default else if j=L.length then r else default:=by
 rw[gdqA];split
 ·rename_i h;rw[List.getElem?_append_left h,gdqA]
 ·rename_i h;rw[List.getElem?_append_right (by omega)];split
  ·rename_i e;subst e;rw[Nat.sub_self];rfl
  ·rw[List.getElem?_eq_none (by rw[List.length_singleton];omega)];rfl
theorem qoj{L:List Rd}{s:Nat}{W:Nat→List Str}(h:qhP L s W):qhP (qfG L (W s) s) (s+1) W:=by
 rcases qbO L (W s)with⟨k,h1,h2,h3⟩|⟨h1,h2⟩
 ·have e:qfG L (W s) s=L.set k ⟨W s,(L.getD k default).src++ [(s:Int)]⟩:=by
   unfold qfG;rw[h3,ine (by omega),Int.toNat_natCast]
  rw[e];refine⟨fun i hi=> ?_,fun j hj x hx=> ?_,fun j hj=> ?_⟩
  ·by_cases ei:i=s
   ·subst ei;exact⟨k,by rw[List.length_set];exact h1,by rw[jY h1,ipo rfl];exact List.mem_append_right _ (List.mem_singleton.2 rfl)⟩
   ·obtain⟨j,hj,hx⟩:=h.has i (by omega);refine⟨j,by rw[List.length_set];exact hj,?_⟩;rw[jY h1];split
    ·rename_i e';subst e';exact List.mem_append_left _ hx
    ·exact hx
  ·rw[List.length_set]at hj;rw[jY h1]at hx ⊢;split at hx
   ·rename_i e';rw[ipo e'];rcases List.mem_append.1 hx with hx|hx
    ·rw[←h2];exact h.wd k h1 x hx
    ·rw[List.mem_singleton]at hx;subst hx;rfl
   ·rename_i e';rw[ine e'];exact h.wd j hj x hx
  ·rw[List.length_set]at hj;rw[jY h1];split
   ·exact fun e=>absurd (List.append_eq_nil_iff.1 e).2 (by simp)
   ·exact h.nn j hj
 ·have e:qfG L (W s) s=L++ [⟨W s,[(s:Int)]⟩]:=by
   unfold qfG;rw[ipo h2]
  rw[e];refine⟨fun i hi=> ?_,fun j hj x hx=> ?_,fun j hj=> ?_⟩
  ·by_cases ei:i=s
   ·subst ei;exact⟨L.length,by rw[List.length_append,List.length_singleton];omega,by rw[qbh,ine (by omega),ipo rfl];exact List.mem_singleton.2 rfl⟩
   ·obtain⟨j,hj,hx⟩:=h.has i (by omega);exact⟨j,by rw[List.length_append,List.length_singleton];omega,by rw[qbh,ipo hj];exact hx⟩
  ·rw[List.length_append,List.length_singleton]at hj;rw[qbh]at hx ⊢;split at hx
   ·rename_i hl;rw[ipo hl];exact h.wd j hl x hx
   ·rename_i hl;rw[ine hl,ipo (by omega)];rw[ipo (by omega)]at hx;rw[List.mem_singleton]at hx;subst hx;rfl
  ·rw[List.length_append,List.length_singleton]at hj;rw[qbh];split
   ·rename_i hl;exact h.nn j hl
   ·rw[ipo (by omega)];simp
theorem qel(x:Co)(f d:Nat): ∀s,qhP (qcc x f d s) s fun i=>rdG x i f d:=by
 intro s
 induction s with
 |zero=>exact⟨fun i h=>absurd h (nnz i),fun j h=>absurd h (nnz j),fun j h=>absurd h (nnz j)⟩
 |succ s ih=>exact qoj ih
theorem qqg(x:Co)(f t:Nat):qhP (qhu x f t) x.sig.length fun i=>rdG x i f (t-f):=qel x f (t-f) x.sig.length
def qC4(L:List Rd)(s:Int):Int:=qam (fun j=>decide (s∈(L.getD j default).src)) L.length 0
theorem qmP{L:List Rd}{n:Nat}{W:Nat→List Str}(h:qhP L n W)(hi:qfK L n){s:Nat}(hs:s<n): ∃j,qC4 L s=(j:Nat)∧j<L.length∧(s:Int)∈(L.getD j default).src∧(L.getD j default).words=W s∧ ∀k,k<L.length→((s:Int)∈(L.getD k default).src↔k=j):=by
 obtain⟨j,hj,hx⟩:=h.has s hs;have uniq: ∀k,k<L.length→((s:Int)∈(L.getD k default).src↔k=j):=fun k hk=>by
  refine⟨fun hm=> ?_,fun e=>by subst e;exact hx⟩;have e1:=h.wd k hk _ hm;have e2:=h.wd j hj _ hx;rcases Nat.lt_trichotomy k j with hl|hl|hl
  ·exact absurd (e1.trans e2.symm) (hi.ne k j hl hj)
  ·exact hl
  ·exact absurd (e2.trans e1.symm) (hi.ne j k hl hk)
 refine⟨j,?_,hj,hx,?_,uniq⟩
 ·unfold qC4;exact qae hj (fun k hk=>dqf fun hm=>by have:=(uniq k (by omega)).1 hm;omega) (dqt hx)
 ·have:=h.wd j hj _ hx
  rwa [Int.toNat_natCast]at this
theorem qaX{a:Ap}(h:qoi a.x a.l a.b){k:Nat}(hk:k<a.l.length):frK a k≤toK a k∧toK a k≤a.b.length∧(∀i,i<a.b.length→(bfU a.b (a.l.getD k default).frm i=true↔i<frK a k))∧(∀i,i<a.b.length→(inU a.b k i=true↔frK a k≤i∧i<toK a k)):=by
 obtain⟨F,G,h1,h2,h3,h4,h5,h6⟩:=qhE h hk;have e1:frK a k=F:=h5;have e2:toK a k=G:=by unfold toK;rw[e1,h6];omega
 rw[e1,e2];exact⟨h1,h2,h3,h4⟩
theorem qnk{a:Ap}(h:qoi a.x a.l a.b){k k':Nat}(hkk:k<k')(hk':k'<a.l.length):toK a k<frK a k':=by
 have ho:=qa8 h.un;obtain⟨a1,a2,a3,a4⟩:=qaX h (k:=k) (by omega);obtain⟨b1,b2,b3,b4⟩:=qaX h hk';have g: ∀i (hi:i<a.l.length),a.l.getD i default=a.l[i]:=fun i hi=>by rw[gdqA,qY hi];rfl
 have hp:=List.pairwise_iff_getElem.1 ho.pw k k' (by omega) hk' hkk;rw[←g k (by omega),←g k' hk']at hp;have hk1:=ho.rg (a.l.getD k default) (by rw[g k (by omega)];exact List.getElem_mem _);have hk2:=ho.rg (a.l.getD k' default) (by rw[g k' hk'];exact List.getElem_mem _);obtain⟨c,hc⟩: ∃c:Nat,(a.l.getD k default).to=(c:Int):=⟨(a.l.getD k default).to.toNat,by omega⟩
 --the column behind place k lies in no place
 have hno:fnU a.l (c:Int)<0:=by
  rcases Int.lt_or_le (fnU a.l (c:Int)) 0 with hn|hn
  ·exact hn
  ·exfalso;obtain⟨j,hj⟩: ∃j:Nat,fnU a.l (c:Int)=j:=⟨(fnU a.l (c:Int)).toNat,by omega⟩
   obtain⟨j1,j2,j3⟩:=qhf hj;rw[g j j1]at j2 j3;rcases Nat.lt_trichotomy j k with e|e|e
   ·have:=List.pairwise_iff_getElem.1 ho.pw j k j1 (by omega) e
    rw[←g k (by omega)]at this;omega
   ·subst e;rw[←g j j1]at j2 j3;omega
   ·have:=List.pairwise_iff_getElem.1 ho.pw k j (by omega) j1 e
    rw[←g k (by omega)]at this;omega
 have hcc:=h.cc c (by omega) hno;unfold ccB at hcc;rw[Bool.and_eq_true]at hcc;obtain⟨i,hi,hv⟩:=qy.1 hcc.2;rw[Bool.and_eq_true,decide_eq_true_iff]at hv;have h1:i<frK a k':=(b3 i hi).1 (by unfold bfU;rw[decide_eq_true_iff,hv.1];omega);have h2:toK a k≤i:=by
  refine Nat.le_of_not_lt fun hlt=> ?_
  by_cases hf:frK a k≤i
  ·have:=(a4 i hi).2 ⟨hf,hlt⟩
   unfold inU at this;have e:=of_decide_eq_true this;have h3:=h.un2 i hi;rw[e]at h3;obtain⟨_,_,h4⟩:=qhf (show fnU a.l (a.b.getD i default).col=k from h3);omega
  ·have:=(a3 i hi).2 (by omega)
   unfold bfU at this;have e:=of_decide_eq_true this;omega
 omega
def ki(b:List Wd):List Str:=b.map (·.text)
theorem qmq{a:Ap}(h:qoi a.x a.l a.b){k:Nat}(hk:k<a.l.length):qfJ a k=qa7 (ki a.b) (frK a k) (toK a k):=by
 obtain⟨h1,h2,_,h4⟩:=qaX h hk;have key: ∀n,n≤a.b.length→owG a.b k n=qa7 (ki a.b) (min (frK a k) n) (min (toK a k) n):=by
  intro n
  induction n with
  |zero=>intro _;simp[owG,qa7]
  |succ n ih=>
   intro hn;unfold owG;rw[ih (by omega)];have hq:=h4 n (by omega);unfold inU at hq;rw[decide_eq_true_iff]at hq
   by_cases e:(a.b.getD n default).unit=(k:Int)
   ·have hf:=hq.1 e;rw[ipo e,Nat.min_eq_left (show frK a k≤n by omega),Nat.min_eq_left (show frK a k≤n+1 by omega),Nat.min_eq_right (show n≤toK a k by omega),Nat.min_eq_right (show n+1≤toK a k by omega)];unfold qa7 ki;rw[show n+1-frK a k=n-frK a k+1 by omega,List.take_add_one,List.getElem?_drop,show frK a k+(n-frK a k)=n by omega,List.getElem?_map,qY (show n<a.b.length by omega),gdqA,qY (show n<a.b.length by omega)];rfl
   ·rw[ine e,List.append_nil];have hf: ¬(frK a k≤n∧n<toK a k):=fun hc=>e (hq.2 hc)
    by_cases h5:toK a k≤n
    ·rw[Nat.min_eq_left (show frK a k≤n by omega),Nat.min_eq_left (show frK a k≤n+1 by omega),Nat.min_eq_left h5,Nat.min_eq_left (show toK a k≤n+1 by omega)]
    ·rw[Nat.min_eq_right (show n≤frK a k by omega),Nat.min_eq_right (show n≤toK a k by omega),Nat.min_eq_right (show n+1≤frK a k by omega),Nat.min_eq_right (show n+1≤toK a k by omega)];simp[qa7]
 have:=key a.b.length (nlr _)
 rw[Nat.min_eq_left h2,Nat.min_eq_left (Nat.le_trans h1 h2)]at this;exact this
theorem ko(names:List Str)(gs:List Gr):zN names gs []= []:=by
 unfold zN;split
 ·unfold zD
  have: ∀n,(qfM names gs [] ([]:List Str).length).testBit n=false:=fun n=>by
   show (0:Nat).testBit n=false;exact Nat.zero_testBit n
  rw[show (qfM names gs [] ([]:List Str).length).testBit=fun _=>false from funext this];simp
 ·rfl
theorem qg3{names:List Str}{gs:List Gr}(h:sgE names gs=0):kQ names gs []=0:=by
 unfold kQ;rw[ine (fun hc=>hc h)];rfl
theorem qeE{names:List Str}{gs:List Gr}{e:En}: ∀n:Nat,(∀j k,j<k→k<n→ ∀x∈zN names gs (e.vars.getD j default).sigla,¬x∈zN names gs (e.vars.getD k default).sigla)→
  (∀k,k<n→ ∀x∈zN names gs e.sup,¬x∈zN names gs (e.vars.getD k default).sigla)→(qba names gs e n).2=false:=by
 intro n
 induction n with
 |zero=>intro _ _;rfl
 |succ n ih=>
  intro h1 h2;have hn:=ih (fun j k a b=>h1 j k a (by omega)) (fun k a=>h2 k (by omega));rw[qaa];show ((qba names gs e n).2||_)=false;rw[hn,Bool.false_or,List.any_eq_false];intro x hx;rw[decide_eq_true_eq];rcases (qdU names gs e n hn x).1 hx with hs|⟨j,hj,hs⟩
  ·exact h2 n (by omega) x hs
  ·exact h1 j n hj (by omega) x hs
theorem qqZ{names:List Str}{gs:List Gr}{w:List Str}{e:En}(h:qh7 names gs w e=0):qh7 names gs w { e with pos:=false,sup:= [] }=0:=by
 have c:=qau.1 h;refine qau.2 ⟨c.sg,c.tn,c.tw,c.lay,c.rng,fun hc=>absurd hc (by simp),c.ne,c.va,qg3 c.sg,c.ev,?_⟩;refine qeE _ (fun j k hj hk x hx=> ?_) (fun k hk x hx=> ?_)
 ·exact qcB c.tc hj hk hx
 ·rw[show ({ e with pos:=false,sup:= [] }:En).sup= []from rfl,ko]at hx;cases hx
theorem qq0{names:List Str}{gs:List Gr}{w:List Str}{e:En}{S:List Str}(h:qh7 names gs w e=0)(hS:kQ names gs S=0)(hd: ∀k,k<e.vars.length→ ∀x∈zN names gs S,¬x∈zN names gs (e.vars.getD k default).sigla):qh7 names gs w { e with pos:=true,sup:=S }=0:=by
 have c:=qau.1 h;refine qau.2 ⟨c.sg,c.tn,c.tw,c.lay,c.rng,fun _=>rfl,c.ne,c.va,hS,c.ev,?_⟩;refine qeE _ (fun j k hj hk x hx=> ?_) hd;exact qcB c.tc hj hk hx
end RC
end
section
open Go Go.Proofs AF
def qzs:List Nat:= [132,109,174,220,68]
def qA5:C:=
 ((C.ops [O1 5 (.box 0 58) 2,ON 6 (.nilo 1 1 3) [],MC 7 (i6 0)]).seq (((C.ops [MV 15 0,MV 16 1,O2 17 (.call 122 true) 15 16,BC 18 .neq 17 (i6 0)]).seq (C.cond (.t 18) ((C.ops
 [ON 6 (.nilo 1 1 3) [],MC 7 (i6 1)]).seq C.ret) C.skip)).seq ((C.ops [⟨some 8,none,.alloc 2 174 [i6 0,i6 0,i6 0,i6 0,i6 0,i6 0,i6 0,i6 0,i6 0,i6 0,i6 0,i6 0,i6 0,i6
 0,i6 0,i6 0,i6 0,i6 0,i6 0,i6 0,i6 0,i6 0,i6 0,i6 0,i6 0,i6 0,i6 0,i6 0,i6 0,i6 0,i6 0,i6 0],[]⟩]).seq (((C.ops [O1 19 (.fldA 5) 5,LD 20 19,O1 21 .len 20,MC
 22 (i6 0)]).seq (C.block 0 ((C.ops [BI 23 .lss 22 21]).seq ((C.cond (.t 23) C.skip (C.exit 0)).seq ((C.block 1 ((C.ops [O2 24 (.idxA 2) 20 22,O1 25 (.load (some 2)) 24,⟨some 10,
 none,.alloc 3 85 [.nl,.nl],[]⟩,ST 2 10 25]).seq ((C.ops [MV 26 0,MV 27 1,O1 28 (.fldA 1) 10,LD 29 28,ON 30 (.call 132 false) [.t 26,.t 27,.t 29,.t 8],MV 11 30]).seq
 ((C.ops [MV 31 11,BC 32 .neq 31 (i6 0)]).seq (C.cond (.t 32) ((C.ops [MV 33 11,ON 6 (.nilo 1 1 3) [],MV 7 33]).seq C.ret) C.skip))))).seq (C.ops [BC 34 .add 22 (i6 1),MV 22
 34])))).loop)).seq (((C.ops [O1 35 (.load (some 32)) 8,O1 36 (.call 133 true) 35]).seq (C.cond (.t 36) ((C.ops [ON 6 (.nilo 1 1 3) [],MC 7 (i6 17)]).seq C.ret) C.skip)).seq
 ((C.ops [ON 12 (.nilo 4 1 3) []]).seq (((C.ops [O1 37 (.load (some 32)) 8,MC 38 (i6 0)]).seq (C.block 2 ((C.ops [BC 39 .lss 38 (i6 32)]).seq ((C.cond (.t 39) C.skip (C.exit
 2)).seq ((C.block 3 ((C.ops [MV 40 38,O2 41 (.aidx 32 1 none) 37 38,MV 13 40,MV 14 41]).seq ((C.ops [MV 42 14,BC 43 .gtr 42 (i6 0)]).seq (C.cond (.t 43) (C.ops [MV 44 12,MV 45
 13,⟨some 46,none,.bslc 5 1 1 3 [i6 0] [(0,1)],[.t 45]⟩,O2 47 (.app 6 1 3 8) 44 46,MV 12 47]) C.skip)))).seq (C.ops [BC 48 .add 38 (i6 1),MV 38 48])))).loop)).seq ((C.ops
 [MV 49 12,MV 6 49,MC 7 (i6 0)]).seq
 C.ret))))))))
theorem qy2:qE Tryz.prog 62 50 7 [RV.tmp 6,RV.tmp 7] qA5:=fi Tryz.f62 [5,6,8,10,12,46,47] qzs []
end
section
open Go Go.Proofs AF HY LN
namespace RC
def noS(e:En):En:= { e with sup:= [] }
def vsC(names:List Str)(gs:List Gr)(e:En)(i:Nat):List Int:=cnt names gs (noS e) i
def vsE(names:List Str)(gs:List Gr)(e:En):Int:=
 if sgE names gs≠0 then 1 else if qa9 (fun i=>kQ names gs (e.vars.getD i default).sigla) 0 e.vars.length≠0 then qa9 (fun i=>kQ names gs (e.vars.getD i default).sigla) 0 e.vars.length
 else if qji (vsC names gs e e.vars.length)=true then 17 else 0
def vsB(names:List Str)(gs:List Gr)(e:En)(k:Nat):Bool:=decide (0<(vsC names gs e e.vars.length).getD k 0)
def vsL(names:List Str)(gs:List Gr)(e:En):List Int:=if vsE names gs e=0 then zD (vsB names gs e) 32 else []
theorem qrd(names:List Str)(gs:List Gr)(e:En):vsC names gs e 0=List.replicate 32 0:=by
 show qbG (List.replicate 32 0) (zN names gs [])=_;rw[ko];rfl
theorem vsP(names:List Str)(gs:List Gr)(e:En)(h:List AObj)(hz:Szs names gs)(hv:e.vars.length≤1000000000)(hg: ∀i,(e.vars.getD i default).sigla.length≤1000000000):
  ACalls Tryz.prog 62 [strs names,qL gs,.agg (enC e)] h (.tup [qn (vsL names gs e),.int .i64 (vsE names gs e)]) h:=by
 have c59:=fun h=>sgP names gs h hz
 obtain⟨R,hR⟩: ∃R,R=vsE names gs e:=⟨_,rfl⟩
 have hLR:vsL names gs e=if R=0 then zD (vsB names gs e) 32 else []:=by rw[hR];rfl
 rw[hLR,←hR];unfold vsE at hR;obtain⟨s,hs⟩: ∃s,s=sgE names gs:=⟨_,rfl⟩
 rw[←hs]at c59 hR
 by_cases g0:s≠0
 ·have k0:(s=0)=False:=eqf g0;rw[ipo g0]at hR;rw[hR,ine (by decide)];refine acO qy2 ?_;simp (disch:=omega) only[qA5,enC,go_sem]
  repeat' first
   |(refine cA (c59 _) flk ?_;simp (disch:=omega) only[k0,go_sem])
   |(apply qb;exact rvk;simp only[go_sem])
  first|exact kz|exact zA ⟨kz,qj,trivial⟩
 have g0:s=0:=Classical.not_not.1 g0;have k0:(s=0)=True:=eqt g0;rw[ine (fun hc=>hc g0)]at hR;refine acO qy2 ?_;simp (disch:=omega) only[qA5,enC,zM,go_sem]
 repeat' first
  |(refine cA (c59 _) flk ?_;simp (disch:=omega) only[k0,go_sem])
  |with_reducible apply aiA
 all_goals try exact clz
 have e0:([AV.int .i64 0,AV.int .i64 0,AV.int .i64 0,AV.int .i64 0,AV.int .i64 0,AV.int .i64 0,AV.int .i64 0,AV.int .i64 0,AV.int .i64 0,AV.int .i64 0,AV.int .i64 0,AV.int .i64 0,AV.int .i64 0,AV.int .i64 0,AV.int .i64 0,AV.int .i64 0,AV.int .i64 0,AV.int .i64 0,AV.int .i64 0,AV.int .i64 0,AV.int .i64 0,AV.int .i64 0,AV.int .i64 0,AV.int .i64 0,AV.int .i64 0,AV.int .i64 0,AV.int .i64 0,AV.int .i64 0,AV.int .i64 0,AV.int .i64 0,AV.int .i64 0,AV.int .i64 0]:List AV)=qx (vsC names gs e 0):=by rw[qrd];rfl
 rw[e0];refine qp (T:=fun i:Nat×AObj=>qQ 50 [(0,strs names),(1,qL gs),(8,.op (h.length+2) 1 0),(20,zM e.vars),(21,.int .i64 e.vars.length),(22,.int .i64 i.1)])
  (H:=fun i=>h++ [.mem 1 58 [.int .i64 e.layer,.int .i64 e.frm,.int .i64 e.to,.bool e.pos,strs e.sup,zM e.vars],.emp 1,.mem 1 174 (qx (vsC names gs e i.1)),i.2,.emp 0,.emp 0,.emp 0])
  (inv:=fun i=>i.1≤e.vars.length∧qH [i.2] 0=true∧ ∀j,j<i.1→kQ names gs (e.vars.getD j default).sigla=0) (m:=fun i=>e.vars.length-i.1) (0,.emp 0) ⟨nzl _,rfl,fun j hj=>absurd hj (nnz j)⟩ (Wk.temps ?_) ?_
 ·(simp only[strs,zM,go_sem,qi,qe,qa,qh];try (repeat' first|(with_reducible apply aiA)|(apply qg;omega)|(apply qf;rfl)|exact qj))
 rintro⟨n,O⟩ ⟨n1,i2,n2⟩ K hK;simp only at n1 i2 n2 hK;have i2': ∀m,qH (O::m) 0=true:=fun _=>i2
 by_cases hn:n<e.vars.length
 ·have r2:((n:Int)<e.vars.length)=True:=eqt (by omega);have hE:=zC (f:=fun i=>kQ names gs (e.vars.getD i default).sigla) hn n2;have zs:=hg n;have hcs:vsC names gs e (n+1)=qbG (vsC names gs e n) (zN names gs (e.vars.getD n default).sigla):=rfl;have hbn:=qk5 names gs (noS e) n;have hln:=qd1 names gs (noS e) n;obtain⟨D,hD⟩: ∃D,D=vsC names gs e n:=⟨_,rfl⟩
  have eD:=hD.symm;have eD':cnt names gs (noS e) n=D:=eD;rw[eD']at hbn hln;rw[eD]at hcs;obtain⟨x,hx⟩: ∃x,x=e.vars.getD n default:=⟨_,rfl⟩
  have ex:=hx.symm;simp only[ex]at hE hcs zs;simp (disch:=omega) only[strs,zM,vaC,r2,ex,eD,i2',go_sem]
  repeat' first
   |with_reducible apply aiA
  all_goals try exact clz
  refine cE (qBf names gs x.sigla D (h.length+2) 1 174 _ hz zs (by rw[getO_app];rfl) hln (64*((n:Int)+1)) (by omega) hbn) (by exact flk) ?_;rw[←hcs];obtain⟨q,hq⟩: ∃q,q=kQ names gs x.sigla:=⟨_,rfl⟩
  rw[←hq]at hE ⊢
  by_cases b2:q≠0
  ·have p2:(q=0)=False:=eqf b2;rw[hE b2,ipo b2]at hR;rw[hR,ine b2];simp (disch:=omega) only[strs,zM,p2,go_sem]
   repeat' first
    |(apply qb;exact rvk;simp only[go_sem])
   first|exact kz|exact zA ⟨kz,qj,trivial⟩
  ·have b2:q=0:=Classical.not_not.1 b2;have p2:(q=0)=True:=eqt b2;simp (disch:=omega) only[strs,zM,p2,go_sem];refine hK _ _ (n+1,.mem (qr (some O)+1) 85 [strs x.words,strs x.sigla]) ⟨hn,rfl,fun j hj=> ?_⟩ (by simp only;omega) (Wk.temps ?_)
   ·by_cases e':j=n
    ·subst e';rw[ex,←hq,b2]
    ·exact n2 j (by simp only at hj;omega)
   ·(simp only[strs,zM,go_sem,qi,qe,qa,qh];try (repeat' first|(with_reducible apply aiA)|(apply qg;omega)|(apply qf;rfl)|exact qj))
 ·have r2:((n:Int)<e.vars.length)=False:=eqf (by omega);have e':n=e.vars.length:=by omega
  subst e';rw[ine (fun hc=>hc (qI (f:=fun i=>kQ names gs (e.vars.getD i default).sigla) (fun j hj=>n2 j hj)))]at hR;have hln:(vsC names gs e e.vars.length).length=32:=qd1 names gs (noS e) e.vars.length;unfold qji at hR;rw[hln]at hR;have c94:=fun h=>twP (vsC names gs e e.vars.length) h hln
  rw[hln]at c94;obtain⟨pB,hpB⟩: ∃pB,pB=vsB names gs e:=⟨_,rfl⟩
  rw[←hpB];have hpk: ∀k,pB k=decide (0<(vsC names gs e e.vars.length).getD k 0):=fun k=>by rw[hpB];rfl
  obtain⟨D,hD⟩: ∃D,D=vsC names gs e e.vars.length:=⟨_,rfl⟩
  have eD:=hD.symm;simp only[eD]at hR hln c94 hpk;have fT:List.take 32 (qx D)=List.map (fun n=>AV.int .i64 n) D:=ltl (by rw[qT];omega);have fL:=qT D;rw[hln]at fL;cases b3:qZ (fun i=>decide (1<D.getD i 0)) 32 with
  |true=>
   rw[b3]at c94 hR;rw[ipo rfl]at hR;rw[hR,ine (by decide)];simp (disch:=omega) only[strs,zM,r2,eD,fT,fL,go_sem]
   repeat' first
    |(refine cA (c94 _) flk ?_;simp (disch:=omega) only[fT,fL,go_sem])
    |(apply qb;exact rvk;simp only[go_sem])
   first|exact kz|exact zA ⟨kz,qj,trivial⟩
  |false=>
   rw[b3]at c94 hR;rw[ine (by simp)]at hR;rw[hR,ipo rfl];simp (disch:=omega) only[strs,zM,r2,eD,fT,fL,go_sem]
   repeat' first
    |(refine cA (c94 _) flk ?_;simp (disch:=omega) only[fT,fL,go_sem])
   clear hK;refine qp (T:=fun s:Nat×Nat×AObj=>qQ 50 [(12,.osl (h.length+4) s.2.1 1 0 (zD pB s.1).length),(37,.agg (List.map (fun n=>AV.int .i64 n) D)),(38,.int .i64 s.1)])
    (H:=fun s=>h++ [.mem 1 58 [.int .i64 e.layer,.int .i64 e.frm,.int .i64 e.to,.bool e.pos,strs e.sup,zM e.vars],.emp 1,.mem 1 174 (qx D),O,zP s.2.1 3 (qx (zD pB s.1)),s.2.2,.emp 0])
    (inv:=fun s=>s.1≤32∧qH [s.2.2] 0=true) (m:=fun s=>32-s.1) (0,1,.emp 0) ⟨nzl _,rfl⟩ (Wk.temps ?_) ?_
   ·(simp only[zD,List.range_zero,List.filter_nil,List.length_nil,List.map_nil,go_sem,qi,qe,qa,qh];try (repeat' first|(with_reducible apply aiA)|(apply qg;omega)|(apply qf;rfl)|exact qj))
   rintro⟨i,v,O5⟩ ⟨j1,j2⟩ K hK;simp only at j1 j2 hK;have j2': ∀m,qH (O5::m) 0=true:=fun _=>j2
   have hst:=qbs pB i;have hll:=zk pB i;have hp:=hpk i;obtain⟨L,hL⟩: ∃L,L=zD pB i:=⟨_,rfl⟩
   rw[←hL]at hst hll;have eL:=hL.symm;have eC:=qT L;have eTk:List.take L.length (qx L)=qx L:=ltl (by omega)
   by_cases hi:i<32
   ·have k1:((i:Int)<32)=True:=eqt (by omega);have k2:(0≤(i:Int))=True:=eqt (by omega);have k3:(i<D.length)=True:=eqt (by omega);have eG:D[i]? =some (D.getD i 0):=by rw[gdqA,qY (by omega)];rfl
    obtain⟨y,hy⟩: ∃y,y=D.getD i 0:=⟨_,rfl⟩
    rw[←hy]at hp eG
    by_cases hyp:0<y
    ·have k4:(0<y)=True:=eqt hyp;rw[hp,ipo (dqt hyp)]at hst;simp (disch:=omega) only[k1,k2,k3,k4,eG,j2',eL,Nat.mul_one,Int.toNat_natCast,List.getElem?_map,List.length_map,Option.map_some,Option.getD_some,go_sem]
     repeat' first
      |with_reducible apply aiA
     all_goals try exact clz
     have eA:qx L++ [AV.int .i64 (i:Int)]=qx (zD pB (i+1)):=by rw[hst,jh];rfl
     try rw[eTk]
     rw[eA];refine hK _ _ (i+1,v+1,.mem (qr (some O5)+1) 3 [.int .i64 (i:Int)]) ⟨hi,rfl⟩ (by simp only;omega) ?_;simp only[hst,List.length_append,List.length_cons,List.length_nil];refine Wk.temps ?_
     (simp only[go_sem,qi,qe,qa,qh];try (repeat' first|(with_reducible apply aiA)|(apply qg;omega)|(apply qf;rfl)|exact qj))
    ·have k4:(0<y)=False:=eqf hyp;rw[hp,ine (by simpa using hyp),List.append_nil]at hst;simp (disch:=omega) only[k1,k2,k3,k4,eG,j2',eL,Nat.mul_one,Int.toNat_natCast,List.getElem?_map,List.length_map,Option.map_some,Option.getD_some,go_sem]
     repeat' first
      |with_reducible apply aiA
     all_goals try exact clz
     refine hK _ _ (i+1,v,O5) ⟨hi,j2⟩ (by simp only;omega) ?_;simp only[hst];refine Wk.temps ?_
     (simp only[go_sem,qi,qe,qa,qh];try (repeat' first|(with_reducible apply aiA)|(apply qg;omega)|(apply qf;rfl)|exact qj))
   ·obtain rfl:i=32:=by omega
    have k1:(((32:Nat):Int)<32)=False:=eqf (by omega);rw[eL];simp (disch:=omega) only[k1,go_sem]
    repeat' first
     |(apply qb;exact rvk;simp only[go_sem])
    exact zA ⟨qaL (fun _=>rfl) rfl,qj,trivial⟩
theorem qr5{names:List Str}{gs:List Gr}(h:qoa names gs){i j:Nat}(hi:i<names.length)(hj:j<names.length)(e:names.getD i []=names.getD j []):i=j:=by
 have key: ∀i j,j<i→i<names.length→names.getD i []=names.getD j []→False:=fun i j hji hi e=>by
  have:=h.na i hi
  unfold jM at this;split at this
  ·cases this
  split at this
  ·cases this
  rename_i hc;exact of_decide_eq_false (ql.1 (by simpa using hc) j hji) e
 rcases Nat.lt_trichotomy i j with hl|hl|hl
 ·exact absurd e.symm (fun e=>key j i hl hj e)
 ·exact hl
 ·exact absurd e (fun e=>key i j hl hi e)
theorem qt2{names:List Str}{gs:List Gr}(h:qoa names gs){i j:Nat}(hi:i<gs.length)(hj:j<names.length):(gs.getD i default).name≠names.getD j []:=by
 have:=h.gr i hi
 unfold qe3 at this;split at this
 ·cases this
 split at this
 ·cases this
 rename_i hc;exact of_decide_eq_false (ql.1 (by simpa using hc) j hj)
theorem qrT{names:List Str}{gs:List Gr}(h:qoa names gs){i j:Nat}(hi:i<gs.length)(hj:j<gs.length)(e:(gs.getD i default).name=(gs.getD j default).name):i=j:=by
 have key: ∀i j,j<i→i<gs.length→(gs.getD i default).name=(gs.getD j default).name→False:=fun i j hji hi e=>by
  have:=h.gr i hi
  unfold qe3 at this;split at this
  ·cases this
  split at this
  ·cases this
  split at this
  ·cases this
  rename_i hc;exact of_decide_eq_false (ql.1 (by simpa using hc) j hji) e
 rcases Nat.lt_trichotomy i j with hl|hl|hl
 ·exact absurd e.symm (fun e=>key j i hl hj e)
 ·exact hl
 ·exact absurd e (fun e=>key i j hl hi e)
theorem qa4{names:List Str}{gs:List Gr}{k:Nat}(hk:k<gs.length):qaP names gs (k:Int)=(gs.getD k default).name:=by
 unfold qaP;rw[ipo (by omega),Int.toNat_natCast]
theorem qa5{names:List Str}{gs:List Gr}(k:Nat):qaP names gs ((gs.length:Int)+k)=names.getD k []:=by
 unfold qaP;rw[ine (by omega),show ((gs.length:Int)+k-gs.length).toNat=k by omega]
theorem qlg{names:List Str}{gs:List Gr}(h:qoa names gs){k:Nat}(hk:k<gs.length):els names gs (gs.getD k default).name=(gs.getD k default).mem∧gIx gs (gs.getD k default).name=k:=by
 have hn:nIx names (gs.getD k default).name= -1:=by
  rcases qbt names (gs.getD k default).name with⟨j,h1,h2,_⟩|⟨_,h2⟩
  ·exact absurd h2.symm (qt2 h hk h1)
  ·exact h2
 have hg:gIx gs (gs.getD k default).name=k:=by
  rcases qcV gs (gs.getD k default).name with⟨j,h1,h2,h3⟩|⟨h1,_⟩
  ·rw[h3,qrT h h1 hk h2]
  ·exact absurd rfl (h1 k hk)
 refine⟨?_,hg⟩;unfold els;rw[hn,ine (by omega),hg,Int.toNat_natCast]
theorem qli{names:List Str}{gs:List Gr}(h:qoa names gs){k:Nat}(hk:k<names.length):els names gs (names.getD k [])= [(k:Int)]∧nIx names (names.getD k [])=k:=by
 have hn:nIx names (names.getD k [])=k:=by
  rcases qbt names (names.getD k [])with⟨j,h1,h2,h3⟩|⟨h1,_⟩
  ·rw[h3,qr5 h h1 hk h2]
  ·exact absurd rfl (h1 k hk)
 refine⟨?_,hn⟩;unfold els;rw[hn,ipo (by omega)]
theorem qc8{names:List Str}{gs:List Gr}{p:Int}(h:0≤p∧p<gs.length+names.length):(∃k:Nat,k<gs.length∧p=(k:Int))∨ ∃k:Nat,k<names.length∧p=(gs.length:Int)+k:=by
 by_cases hp:p<gs.length
 ·exact .inl ⟨p.toNat,by omega,by omega⟩
 ·exact .inr ⟨(p-gs.length).toNat,by omega,by omega⟩
theorem qqz{names:List Str}{gs:List Gr}(h:qoa names gs){p q:Int}(hp:0≤p∧p<gs.length+names.length)(hq:0≤q∧q<gs.length+names.length)(e:qaP names gs p=qaP names gs q):p=q:=by
 rcases qc8 hp with⟨k,hk,rfl⟩|⟨k,hk,rfl⟩<;>rcases qc8 hq with⟨j,hj,rfl⟩|⟨j,hj,rfl⟩
 ·rw[qa4 hk,qa4 hj]at e;rw[qrT h hk hj e]
 ·rw[qa4 hk,qa5]at e;exact absurd e (qt2 h hk hj)
 ·rw[qa4 hj,qa5]at e;exact absurd e.symm (qt2 h hj hk)
 ·rw[qa5,qa5]at e;rw[qr5 h hk hj e]
theorem qu1{names:List Str}{gs:List Gr}{B:List Int}(h:sgE names gs=0)(hB: ∀p∈B,0≤p∧p<gs.length+names.length)(hn:B.Nodup):
  kQ names gs (B.map (qaP names gs))=0∧zN names gs (B.map (qaP names gs))=zD (fun k=>decide (∃p,p∈B∧(k:Int)∈els names gs (qaP names gs p))) 64:=by
 have ho:=qda h;have hget: ∀i,i<B.length→(B.map (qaP names gs)).getD i []=qaP names gs (B.getD i 0):=fun i hi=>by
  rw[gdqA,List.getElem?_map,qY hi,gdqA,qY hi];rfl
 have hmem: ∀i,i<B.length→B.getD i 0∈B:=fun i hi=>by
  rw[gdqA,qY hi];exact List.getElem_mem hi
 have hs: ∀i,i<B.length→qep names gs (B.map (qaP names gs)) i=0:=fun i hi=>by
  unfold qep;rw[hget i hi,ine,ine]
  ·rw[ql.2 fun j hj=> ?_]
   ·simp
   ·rw[hget j (by omega)];refine dqf fun e=> ?_
    have e2:=qqz ho (hB _ (hmem i hi)) (hB _ (hmem j (by omega))) e;rw[gdqA,qY hi,gdqA,qY (by omega:j<B.length)]at e2
    have:=(List.getElem_inj hn).1 e2
    omega
  ·rcases qc8 (hB _ (hmem i hi))with⟨k,hk,e⟩|⟨k,hk,e⟩
   ·rw[e,qa4 hk,(qlg ho hk).2];omega
   ·rw[e,qa5,(qli ho hk).2];omega
 have he:kQ names gs (B.map (qaP names gs))=0:=by
  unfold kQ;rw[ine (fun hc=>hc h),jo];intro i hi;rw[List.length_map]at hi;exact hs i hi
 refine⟨he,?_⟩;unfold zN;rw[ipo he];refine qdH fun k _=> ?_
 rw[(qfN ho (i:=(B.map (qaP names gs)).length) (fun j hj=>hs j (by rwa [List.length_map]at hj))).2 k];refine decide_eq_decide.2 ⟨?_,?_⟩
 ·rintro⟨j,hj,hm⟩;rw[List.length_map]at hj;rw[hget j hj]at hm;exact⟨_,hmem j hj,hm⟩
 ·rintro⟨p,hp,hm⟩;obtain⟨j,hj,rfl⟩:=List.getElem_of_mem hp;refine⟨j,by rwa [List.length_map],?_⟩;rw[hget j hj,gdqA,qY hj];exact hm
theorem qmH{gs:List Gr}{all c:Nat}(hc:c<2^(kA gs all).length):(kV gs all (kA gs all) c).Nodup:=by
 unfold kV;rw[List.nodup_append];refine⟨?_,?_,?_⟩
 ·rw[List.Nodup,List.pairwise_map];refine List.Pairwise.imp_of_mem ?_ (qaJ c.testBit 64);intro a b ha hb hab e;obtain⟨i,rfl,_,hi⟩:=zE ha;obtain⟨j,rfl,_,hj⟩:=zE hb;have hi:=qa0 hc hi;have hj:=qa0 hc hj;rw[Int.toNat_natCast,Int.toNat_natCast,gdqA,qY hi,gdqA,qY hj]at e
  have:=(List.getElem_inj (show (kA gs all).Nodup from qaJ _ _)).1 e
  exact hab (by rw[this])
 ·rw[List.Nodup,List.pairwise_map];refine List.Pairwise.imp ?_ (qaJ _ 64);intro a b hab e;exact hab (by omega)
 ·intro a ha b hb e;obtain⟨k,h1,rfl⟩:=List.mem_map.1 ha;obtain⟨i,rfl,_,hi⟩:=zE h1;have hi:=qa0 hc hi;obtain⟨s,h2,rfl⟩:=List.mem_map.1 hb;obtain⟨j,rfl,_,_⟩:=zE h2;have hm:(kA gs all).getD i 0∈kA gs all:=by
   rw[gdqA,qY hi];exact List.getElem_mem hi
  obtain⟨g,e1,hg⟩:=qgL hm;rw[Int.toNat_natCast,e1]at e;omega
theorem qm5{names:List Str}{gs:List Gr}{set:List Int}(h:qes names gs set=0):kQ names gs (shR names gs set)=0∧zN names gs (shR names gs set)=set:=by
 have hse:sgE names gs=0∧qdn names.length set=0:=by
  unfold qes at h;split at h
  ·rename_i h1;exact⟨h1,h⟩
  ·cases h
 have ho:=qda hse.1;have hn:=ho.n32;have hg16:=ho.g16;have hin:=(qaD hse.2).1;have hin64:inB 64 set:=fun i hi=>by have:=hin i hi;omega
 have hmi:=qlL hse.1;have hset:=qqx (by omega) hse.2;obtain⟨c,hc1,hc2⟩:=qky gs (jA set) (kA gs (jA set)) (2^(kA gs (jA set)).length-1);have h2p:1≤2^(kA gs (jA set)).length:=Nat.one_le_two_pow;have hc:c<2^(kA gs (jA set)).length:=by omega
 have hLl:(kA gs (jA set)).length≤gs.length:=zk _ _;have hpin:=fun {p}=>qr7 (names:=names) (gs:=gs) (set:=set) (all:=jA set) hin (by omega) rfl hc (p:=p)
 have hnd:=qmH (gs:=gs) (all:=jA set) hc;have hall:jA set<2^64:=qca hin64;have hch:chN (usM gs (kA gs (jA set))) c<2^64:=qrl (qsd hmi _) c;have hR:shR names gs set=(kV gs (jA set) (kA gs (jA set)) c).map (qaP names gs):=by
  unfold shR;rw[ipo h];unfold qwr;rw[hc2]
 obtain⟨h1,h2⟩:=qu1 hse.1 (fun p hp=>hpin hp) hnd;rw[hR];refine⟨h1,?_⟩;rw[h2]
 conv=>rhs;rw[hset]
 refine qdH fun k hk=> ?_
 rw[jG hin64];refine decide_eq_decide.2 ⟨?_,fun hks=> ?_⟩
 ·rintro⟨p,hp,hk2⟩;have hpr:=hpin hp;unfold kV at hp;rcases List.mem_append.1 hp with hp|hp
  ·obtain⟨q,hq,rfl⟩:=List.mem_map.1 hp;obtain⟨i,rfl,_,hi⟩:=zE hq;have hi:=qa0 hc hi;have hm:(kA gs (jA set)).getD i 0∈kA gs (jA set):=by
    rw[gdqA,qY hi];exact List.getElem_mem hi
   obtain⟨g,e1,hg,hb⟩:=zE (show (kA gs (jA set)).getD i 0∈zD (qjw gs (jA set)) gs.length from hm);rw[Int.toNat_natCast,e1,qa4 hg,(qlg ho hg).1]at hk2;rw[qvX (hmi g) hin64]at hb;exact of_decide_eq_true hb _ hk2
  ·obtain⟨q,hq,rfl⟩:=List.mem_map.1 hp;obtain⟨s,rfl,_,hb⟩:=zE hq;have hsn:s<names.length:=by omega
   rw[qa5,(qli ho hsn).1]at hk2;have e:(k:Int)=s:=by simpa using hk2
   rw[qdV hall hch,Bool.and_eq_true]at hb;have hb1:=hb.1;rw[jG hin64]at hb1;rw[e];exact of_decide_eq_true hb1
 ·have hkn:k<names.length:=by
   obtain⟨j,hj,e⟩:=List.getElem_of_mem hks
   have:=hin j hj
   rw[gdqA,qY hj]at this;simp only[Option.getD_some]at this;omega
  have hkb:(jA set).testBit k=true:=by rw[jG hin64];exact dqt hks
  cases hcb:(chN (usM gs (kA gs (jA set))) c).testBit k with
  |true=>
   have hcb2:=hcb;unfold chN at hcb2;rw[qpJ,qy]at hcb2;obtain⟨j,hj,hb⟩:=hcb2;rw[qgE]at hj;rw[Bool.and_eq_true,qgD hj]at hb;obtain⟨hb1,hb2⟩:=hb;have hm:(kA gs (jA set)).getD j 0∈kA gs (jA set):=by
    rw[gdqA,qY hj];exact List.getElem_mem hj
   obtain⟨g,e1,hg,_⟩:=zE (show (kA gs (jA set)).getD j 0∈zD (qjw gs (jA set)) gs.length from hm);rw[e1,Int.toNat_natCast,jG (hmi g)]at hb2;refine⟨(kA gs (jA set)).getD j 0,?_,?_⟩
   ·unfold kV;refine List.mem_append.2 (.inl (List.mem_map.2 ⟨(j:Int),jj.2 ⟨j,by omega,hb1,rfl⟩,?_⟩));rw[Int.toNat_natCast]
   ·rw[e1,qa4 hg,(qlg ho hg).1];exact of_decide_eq_true hb2
  |false=>
   refine⟨(gs.length:Int)+k,?_,?_⟩
   ·unfold kV;refine List.mem_append.2 (.inr (List.mem_map.2 ⟨(k:Int),jj.2 ⟨k,hk,?_,rfl⟩,rfl⟩));rw[qdV hall hch,hkb,hcb];rfl
   ·rw[qa5,(qli ho hkn).1];simp
end RC
end
section
open Go Go.Proofs AF
def qt9:List Nat:= [132,109,174,220,68]
def qxm:C:=
 ((C.ops [⟨some 8,none,.alloc 0 58 [i6 0,i6 0,i6 0,.bool false,.nl,.nl],[]⟩,MC 9 (i6 0)]).seq ((C.block 0 ((C.ops [MV 23 0,MV 24 1,O2 25 (.call 122 true) 23 24,BC 26
 .neq 25 (i6 0),MV 22 26]).seq (C.cond (.t 22) ((C.ops [⟨some 27,none,.build [i6 0,i6 0,i6 0,.bool false,.nl,.nl] [],[]⟩,ST 6 8 27,MC 9 (i6 1)]).seq C.ret) ((C.ops [MV 29
 3,BC 30 .lss 29 (i6 0),MV 31 30,MG 32 31 false 3,MG 33 31 false 2,P1 34 31 false .len 33,P2 35 31 false (.bin .geq) 32 34,PT 36 31 35,MV 28 36]).seq (C.cond (.t 28) ((C.ops
 [⟨some 37,none,.build [i6 0,i6 0,i6 0,.bool false,.nl,.nl] [],[]⟩,ST 6 8 37,MC 9 (i6 6)]).seq C.ret) C.skip))))).seq ((C.ops [MV 38 2,MV 39 3,O2 40 (.idxA 6) 38 39,O1
 41 (.load (some 6)) 40,⟨some 10,none,.alloc 1 58 [i6 0,i6 0,i6 0,.bool false,.nl,.nl],[]⟩,ST 6 10 41]).seq ((C.ops [⟨some 11,none,.alloc 2 183 [.bool false,.bool
 false,.bool false,.bool false,.bool false,.bool false,.bool false,.bool false,.bool false,.bool false,.bool false,.bool false,.bool false,.bool false,.bool false,
 .bool false,.bool false,.bool false,.bool false,.bool false,.bool false,.bool false,.bool false,.bool false,.bool false,.bool false,.bool false,.bool false,.bool
 false,.bool false,.bool false,.bool false],[]⟩]).seq (((C.ops [MV 42 2,O1 43 .len 42,MC 44 (i6 0)]).seq (C.block 1 ((C.ops [BI 45 .lss 44 43]).seq ((C.cond (.t 45) C.skip
 (C.exit 1)).seq ((C.block 2 ((C.ops [O2 46 (.idxA 6) 42 44,O1 47 (.load (some 6)) 46,⟨some 13,none,.alloc 3 58 [i6 0,i6 0,i6 0,.bool false,.nl,.nl],[]⟩,ST 6 13 47]).seq
 (((C.ops [O1 48 (.fldA 1) 13,LD 49 48,O1 50 (.fldA 1) 10,LD 51 50,BI 52 .neq 49 51,MV 53 52,P1 54 53 false (.fldA 2) 13,P1 55 53 false (.load none) 54,P1 56 53 false (.fldA
 2) 10,P1 57 53 false (.load none) 56,P2 58 53 false (.bin .neq) 55 57,PT 59 53 58]).seq (C.cond (.t 59) (C.exit 2) C.skip)).seq ((C.ops [MV 61 0,MV 62 1,O1 63 (.load (some 6))
 13,ON 64 (.call 62 true) [.t 61,.t 62,.t 63],MV 60 64,O1 65 (.ext 0) 60,O1 66 (.ext 1) 60,MV 14 65,MV 15 66]).seq (((C.ops [MV 67 15,BC 68 .neq 67 (i6 0)]).seq (C.cond (.t
 68) ((C.ops [⟨some 69,none,.build [i6 0,i6 0,i6 0,.bool false,.nl,.nl] [],[]⟩,MV 70 15,ST 6 8 69,MV 9 70]).seq C.ret) C.skip)).seq ((C.ops [MV 71 14,O1 72 .len 71,MC
 73 (i6 0)]).seq (C.block 3 ((C.ops [BI 74 .lss 73 72]).seq ((C.cond (.t 74) C.skip (C.exit 3)).seq ((C.block 4 ((C.ops [O2 75 (.idxA 1) 71 73,LD 76 75,MV 17 76]).seq (C.ops [MV
 77 17,O2 78 (.idxArr 32 1) 11 77,⟨none,none,.store 1,[.t 78,.c (.bool true)]⟩]))).seq (C.ops [BC 79 .add 73 (i6 1),MV 73 79])))).loop))))))).seq (C.ops [BC 80 .add 44 (i6
 1),MV 44 80])))).loop)).seq ((C.ops [O1 81 (.fldA 3) 10,LD 82 81,O1 83 (.un UnOp.not) 82,O1 84 (.fldA 3) 10,ST 1 84 83]).seq ((C.ops [O1 85 (.fldA 4) 10,⟨none,none,.store
 1,[.t 85,.c .nl]⟩]).seq (((C.ops [O1 86 (.fldA 3) 10,LD 87 86,O1 88 (.un UnOp.not) 87]).seq (C.cond (.t 88) ((C.ops [O1 89 (.load (some 6)) 10,ST 6 8 89,MC 9 (i6 0)]).seq
 C.ret) C.skip)).seq ((C.ops [ON 18 (.nilo 4 1 3) []]).seq (((C.ops [MV 90 0,O1 91 .len 90,MC 92 (i6 0)]).seq (C.block 5 ((C.ops [BI 93 .lss 92 91]).seq ((C.cond (.t 93) C.skip
 (C.exit 5)).seq ((C.block 6 ((C.ops [MV 94 92,MV 19 94]).seq ((C.ops [MV 95 19,O2 96 (.idxArr 32 1) 11 95,LD 97 96,O1 98 (.un UnOp.not) 97]).seq (C.cond (.t 98) (C.ops [MV 99
 18,MV 100 19,⟨some 101,none,.bslc 5 1 1 3 [i6 0] [(0,1)],[.t 100]⟩,O2 102 (.app 6 1 3 8) 99 101,MV 18 102]) C.skip)))).seq (C.ops [BC 103 .add 92 (i6 1),MV 92
 103])))).loop)).seq ((C.wk.seq (C.ops [MV 105 0,MV 106 1,MV 107 18,ON 108 (.call 142 true) [.t 105,.t 106,.t 107],MV 104 108,O1 109 (.ext 0) 104,O1 110 (.ext 1) 104,MV 20
 109,MV 21 110])).seq (((C.ops [MV 111 21,BC 112 .neq 111 (i6 0)]).seq (C.cond (.t 112) ((C.ops [⟨some 113,none,.build [i6 0,i6 0,i6 0,.bool false,.nl,.nl] [],[]⟩,MV 114
 21,ST 6 8 113,MV 9 114]).seq C.ret) C.skip)).seq ((C.ops [MV 115 20,O1 116 (.fldA 4) 10,ST 1 116 115]).seq ((C.ops [O1 117 (.load (some 6)) 10,ST 6 8 117,MC 9 (i6 0)]).seq
 C.ret))))))))))))))
theorem qpp:qE Tryz.prog 67 118 7 [RV.cell 8 (some 6),RV.tmp 9] qxm:=fi Tryz.f67 [8,10,11,13,18,101,102] qt9 [31]
end
section
open Go Go.Proofs AF HY LN
namespace RC
def smE(l:List En)(o:En)(j:Nat):Bool:=decide ((l.getD j default).frm=o.frm)&&decide ((l.getD j default).to=o.to)
def trF(VE:En→Int)(l:List En)(o:En)(j:Nat):Int:=if smE l o j=true then VE (l.getD j default) else 0
def vrB(VL:En→List Int)(l:List En)(o:En):Nat→Nat→Bool
 |0,_=>false
 |j+1,k=>vrB VL l o j k||(smE l o j&&decide ((k:Int)∈VL (l.getD j default)))
def qof(names:List Str)(VL:En→List Int)(l:List En)(o:En):List Int:=zD (fun k=> !vrB VL l o l.length k) names.length
def trE(names:List Str)(gs:List Gr)(VE:En→Int)(l:List En)(i:Int):Int:=
 if sgE names gs≠0 then 1 else if i<0∨(l.length:Int)≤i then 6 else qa9 (trF VE l (l.getD i.toNat default)) 0 l.length
def zrE:En:=⟨0,0,0,false,[],[]⟩
def tnE(names:List Str)(gs:List Gr)(VL:En→List Int)(l:List En)(o:En):En:=
 if o.pos=true then { o with pos:=false,sup:= [] } else { o with pos:=true,sup:=shR names gs (qof names VL l o) }
def trR(names:List Str)(gs:List Gr)(VE:En→Int)(VL:En→List Int)(l:List En)(i:Int):En:=
 if trE names gs VE l i=0 then tnE names gs VL l (l.getD i.toNat default) else zrE
def bvC(p:Nat→Bool):List AV:=(List.range 32).map fun k=> .bool (p k)
theorem qab(p:Nat→Bool):(bvC p).length=32:=by simp[bvC]
theorem qcI{p:Nat→Bool}{n:Nat}(hn:n<32):(bvC p)[n]? =some (.bool (p n)):=by
 unfold bvC;rw[List.getElem?_map,List.getElem?_range hn];rfl
theorem qsz{p:Nat→Bool}{n:Nat}(hn:n<32):List.take n (bvC p)++ [AV.bool true]++List.drop (n+1) (bvC p)=bvC fun k=>p k||decide (k=n):=by
 refine List.ext_getElem? fun k=> ?_
 by_cases hk:k<32
 ·rw[qcI hk]
  by_cases h1:k<n
  ·rw[List.append_assoc,List.getElem?_append_left (by rw[List.length_take,qab];omega),List.getElem?_take_of_lt h1,qcI hk,dqf (by omega),Bool.or_false]
  ·by_cases h2:k=n
   ·subst h2;rw[List.append_assoc,List.getElem?_append_right (by rw[List.length_take,qab];omega),List.length_take,qab,show k-min k 32=0 by omega,dqt rfl,Bool.or_true];rfl
   ·rw[List.getElem?_append_right (by rw[List.length_append,List.length_take,qab];simp only[List.length_cons,List.length_nil];omega),List.length_append,List.length_take,qab,List.getElem?_drop];simp only[List.length_cons,List.length_nil];rw[show n+1+(k-(min n 32+(0+1)))=k by omega,qcI hk,dqf h2,Bool.or_false]
 ·rw[List.getElem?_eq_none (by simp only[List.length_append,List.length_take,List.length_drop,qab,List.length_cons,List.length_nil];omega),List.getElem?_eq_none (by rw[qab];omega)]
theorem qas{p q:Nat→Bool}(h: ∀k,k<32→p k=q k):bvC p=bvC q:=by
 unfold bvC;exact List.map_congr_left fun k hk=>by rw[h k (List.mem_range.1 hk)]
theorem qfd(p:Nat→Bool)(n:Nat):qdn n (zD p n)=0:=by
 unfold qdn;refine qI fun i hi=> ?_
 have hm:(zD p n).getD i 0∈zD p n:=by rw[gdqA,qY hi];exact List.getElem_mem hi
 obtain⟨k,e,hk,_⟩:=zE hm;unfold qen;rw[ine (by omega)];rw[ine];rintro⟨h0,h1⟩;have hp:=List.pairwise_iff_getElem.1 (qc3 p n) (i-1) i (by omega) hi (by omega);have g: ∀j (hj:j<(zD p n).length),(zD p n).getD j 0=(zD p n)[j]:=fun j hj=>by rw[gdqA,qY hj];rfl
 rw[g i hi,g (i-1) (by omega)]at h1;omega
theorem qEj(names:List Str)(gs:List Gr)(VE:En→Int)(VL:En→List Int)(l:List En)(i:Int)(h:List AObj)(hz:Szs names gs)(hl:l.length≤1000000000)
  (h8:sgE names gs=0→names.length≤8∧gs.length≤8) (hVL: ∀e,∀x∈VL e,0≤x∧x<32) (hVn: ∀e,(VL e).length≤1000)
  (c60: ∀j h,ACalls Tryz.prog 62 [strs names,qL gs,.agg (enC (l.getD j default))] h (.tup [qn (VL (l.getD j default)),.int .i64 (VE (l.getD j default))]) h):
  ACalls Tryz.prog 67 [strs names,qL gs,jl l,.int .i64 i] h (.tup [.agg (enC (trR names gs VE VL l i)),.int .i64 (trE names gs VE l i)]) h:=by
 have c59:=fun h=>sgP names gs h hz
 obtain⟨R,hR⟩: ∃R,R=trE names gs VE l i:=⟨_,rfl⟩
 have hLR:trR names gs VE VL l i=if R=0 then tnE names gs VL l (l.getD i.toNat default) else zrE:=by rw[hR];rfl
 rw[hLR,←hR];have hzr:VLe (.agg [.int .i64 0,.int .i64 0,.int .i64 0,.bool false,.nl,.nl]) (.agg (enC zrE)):=VLe.agg ⟨qj,qj,qj,qj,jX,jX,trivial⟩;unfold trE at hR;obtain⟨s,hs⟩: ∃s,s=sgE names gs:=⟨_,rfl⟩
 rw[←hs]at c59 hR h8
 by_cases g0:s≠0
 ·have k0:(s=0)=False:=eqf g0;rw[ipo g0]at hR;rw[hR,ine (by decide)];refine acO qpp ?_;simp (disch:=omega) only[qxm,go_sem]
  repeat' first
   |((first|refine cA (c59 _) ?_ ?_|refine cG (fun e=>c59 _) ?_ ?_|refine cU (fun _=>c59 _) ?_ ?_);exact flk;simp (disch:=omega) only[k0,go_sem])
   |((first|apply qb|apply qd);exact rvk;simp only[go_sem];first|exact qj|apply qg|apply qf|apply zV|skip)
   |with_reducible first|intro _|apply aiA
  all_goals try exact clz
  exact zA ⟨hzr,qj,trivial⟩
 have g0:s=0:=Classical.not_not.1 g0;have k0:(s=0)=True:=eqt g0;obtain⟨n8,g8⟩:=h8 g0;rw[ine (fun hc=>hc g0)]at hR
 by_cases g1:i<0
 ·have k1:(i<0)=True:=eqt g1;rw[ipo (.inl g1)]at hR;rw[hR,ine (by decide)];refine acO qpp ?_;simp (disch:=omega) only[qxm,jl,go_sem]
  repeat' first
   |((first|refine cA (c59 _) ?_ ?_|refine cG (fun e=>c59 _) ?_ ?_|refine cU (fun _=>c59 _) ?_ ?_);exact flk;simp (disch:=omega) only[k0,k1,jl,go_sem])
   |((first|apply qb|apply qd);exact rvk;simp only[go_sem];first|exact qj|apply qg|apply qf|apply zV|skip)
   |with_reducible first|intro _|apply aiA
  all_goals try exact clz
  exact zA ⟨hzr,qj,trivial⟩
 have k1:(i<0)=False:=eqf g1
 by_cases g2:(l.length:Int)≤i
 ·have k2:((l.length:Int)≤i)=True:=eqt g2;rw[ipo (.inr g2)]at hR;rw[hR,ine (by decide)];refine acO qpp ?_;simp (disch:=omega) only[qxm,jl,go_sem]
  repeat' first
   |((first|refine cA (c59 _) ?_ ?_|refine cG (fun e=>c59 _) ?_ ?_|refine cU (fun _=>c59 _) ?_ ?_);exact flk;simp (disch:=omega) only[k0,k1,k2,jl,go_sem])
   |((first|apply qb|apply qd);exact rvk;simp only[go_sem];first|exact qj|apply qg|apply qf|apply zV|skip)
   |with_reducible first|intro _|apply aiA
  all_goals try exact clz
  exact zA ⟨hzr,qj,trivial⟩
 have k2:((l.length:Int)≤i)=False:=eqf g2;rw[ine (fun hc=>hc.elim g1 g2)]at hR;have k3:(0≤i)=True:=eqt (by omega);have k4:(i<l.length)=True:=eqt (by omega);obtain⟨o,ho⟩: ∃o,o=l.getD i.toNat default:=⟨_,rfl⟩
 have eo:=ho.symm;rw[eo]at hR ⊢;refine acO qpp ?_;simp (disch:=omega) only[qxm,jl,enC,go_sem]
 repeat' first
  |((first|refine cA (c59 _) ?_ ?_|refine cG (fun e=>c59 _) ?_ ?_|refine cU (fun _=>c59 _) ?_ ?_);exact flk;simp (disch:=omega) only[k0,k1,k2,k3,k4,jl,enC,eo,go_sem])
  |((first|apply qb|apply qd);exact rvk;simp only[go_sem];first|exact qj|apply qg|apply qf|apply zV|skip)
  |with_reducible first|intro _|apply aiA
 all_goals try exact clz
 have e0:List.replicate 32 (AV.bool false)=bvC (vrB VL l o 0):=rfl;simp only[List.replicate]at e0
 try rw[e0]
 refine qp (T:=fun j:Nat×AObj=>qQ 118 [(0,strs names),(1,qL gs),(8,.op h.length 1 0),(10,.op (h.length+1) 1 0),(11,.op (h.length+2) 1 0),(42,jl l),(43,.int .i64 l.length),(44,.int .i64 j.1)])
  (H:=fun j=>h++ [.mem 1 58 [.int .i64 0,.int .i64 0,.int .i64 0,.bool false,.nl,.nl],.mem 1 58 [.int .i64 o.layer,.int .i64 o.frm,.int .i64 o.to,.bool o.pos,strs o.sup,zM o.vars],.mem 1 183 (bvC (vrB VL l o j.1)),j.2,.emp 0,.emp 0,.emp 0])
  (inv:=fun j=>j.1≤l.length∧qH [j.2] 0=true∧ ∀k,k<j.1→trF VE l o k=0) (m:=fun j=>l.length-j.1) (0,.emp 0) ⟨nzl _,rfl,fun j hj=>absurd hj (nnz j)⟩ (Wk.temps ?_) ?_
 ·(simp only[strs,jl,enC,go_sem,qi,qe,qa,qh];try (repeat' first|(with_reducible apply aiA)|(apply qg;omega)|(apply qf;rfl)|exact qj))
 rintro⟨j,O⟩ ⟨j1,j2,j3⟩ K hK;simp only at j1 j2 j3 hK;have j2': ∀m,qH (O::m) 0=true:=fun _=>j2
 by_cases hj:j<l.length
 ·have r1:((j:Int)<l.length)=True:=eqt (by omega);have r0:(0≤(j:Int))=True:=eqt (by omega);have hE:=zC (f:=trF VE l o) hj j3;have hf:trF VE l o j=if smE l o j=true then VE (l.getD j default) else 0:=rfl
  have hsm:smE l o j=(decide ((l.getD j default).frm=o.frm)&&decide ((l.getD j default).to=o.to)):=rfl;have hst: ∀k,vrB VL l o (j+1) k=(vrB VL l o j k||(smE l o j&&decide ((k:Int)∈VL (l.getD j default)))):=fun _=>rfl
  have c60j:=fun h=>c60 j h
  have hvl:=hVL (l.getD j default);have hvn:=hVn (l.getD j default);obtain⟨x,hx⟩: ∃x,x=l.getD j default:=⟨_,rfl⟩
  have ex:=hx.symm;simp only[ex]at hf hsm hst c60j hvl hvn;simp only[enC]at c60j
  by_cases a1:x.frm=o.frm
  case neg=>
   have q1:(x.frm=o.frm)=False:=eqf a1;rw[dqf a1,Bool.false_and]at hsm;rw[hsm,ine (by simp)]at hf;simp (disch:=omega) only[jl,enC,r0,r1,ex,j2',q1,go_sem]
   repeat' first
    |((first|apply qb|apply qd);exact rvk;simp only[go_sem];first|exact qj|apply qg|apply qf|apply zV|skip)
    |with_reducible first|intro _|apply aiA
   all_goals try exact clz
   refine hK _ _ (j+1,.mem (qr (some O)+1) 58 [.int .i64 x.layer,.int .i64 x.frm,.int .i64 x.to,.bool x.pos,strs x.sup,zM x.vars]) ⟨hj,rfl,fun k hk=> ?_⟩ (by simp only;omega) ?_
   ·by_cases e':k=j
    ·subst e';exact hf
    ·exact j3 k (by simp only at hk;omega)
   rw[show bvC (vrB VL l o (j+1))=bvC (vrB VL l o j)from qas fun k _=>by rw[hst,hsm];simp];refine Wk.temps ?_
   (simp only[jl,enC,go_sem,qi,qe,qa,qh];try (repeat' first|(with_reducible apply aiA)|(apply qg;omega)|(apply qf;rfl)|exact qj))
  by_cases a2:x.to=o.to
  case neg=>
   have q1:(x.frm=o.frm)=True:=eqt a1;have q2:(x.to=o.to)=False:=eqf a2;rw[dqf a2,Bool.and_false]at hsm;rw[hsm,ine (by simp)]at hf;simp (disch:=omega) only[jl,enC,r0,r1,ex,j2',q1,q2,go_sem]
   repeat' first
    |((first|apply qb|apply qd);exact rvk;simp only[go_sem];first|exact qj|apply qg|apply qf|apply zV|skip)
    |with_reducible first|intro _|apply aiA
   all_goals try exact clz
   refine hK _ _ (j+1,.mem (qr (some O)+1) 58 [.int .i64 x.layer,.int .i64 x.frm,.int .i64 x.to,.bool x.pos,strs x.sup,zM x.vars]) ⟨hj,rfl,fun k hk=> ?_⟩ (by simp only;omega) ?_
   ·by_cases e':k=j
    ·subst e';exact hf
    ·exact j3 k (by simp only at hk;omega)
   rw[show bvC (vrB VL l o (j+1))=bvC (vrB VL l o j)from qas fun k _=>by rw[hst,hsm];simp];refine Wk.temps ?_
   (simp only[jl,enC,go_sem,qi,qe,qa,qh];try (repeat' first|(with_reducible apply aiA)|(apply qg;omega)|(apply qf;rfl)|exact qj))
  have q1:(x.frm=o.frm)=True:=eqt a1;have q2:(x.to=o.to)=True:=eqt a2;rw[dqt a1,dqt a2]at hsm;rw[hsm,ipo (by rfl)]at hf;obtain⟨y,hy⟩: ∃y,y=VE x:=⟨_,rfl⟩
  obtain⟨V,hV⟩: ∃V,V=VL x:=⟨_,rfl⟩
  rw[←hy]at hf c60j;rw[←hV]at c60j hvl hvn;simp only[←hV,hsm,Bool.and_self,Bool.true_and]at hst
  by_cases a3:y≠0
  ·have q3:(y=0)=False:=eqf a3;rw[hE (by rw[hf];exact a3),hf]at hR;rw[hR,ine a3];simp (disch:=omega) only[jl,enC,r0,r1,ex,j2',q1,q2,go_sem]
   repeat' first
    |((first|refine cA (c60j _) ?_ ?_|refine cG (fun e=>c60j _) ?_ ?_|refine cU (fun _=>c60j _) ?_ ?_);exact flk;simp (disch:=omega) only[jl,enC,r0,r1,ex,j2',q1,q2,q3,go_sem])
    |((first|apply qb|apply qd);exact rvk;simp only[go_sem];first|exact qj|apply qg|apply qf|apply zV|skip)
    |with_reducible first|intro _|apply aiA
   all_goals try exact clz
   exact zA ⟨hzr,qj,trivial⟩
  have a3:y=0:=Classical.not_not.1 a3;have q3:(y=0)=True:=eqt a3;have zV1: ∀g,valL g .len [qn V]= .int .i64 V.length:=fun _=>rfl
  have zV2: ∀g,okL g .len [qn V]=True:=fun _=>eqt trivial
  simp (disch:=omega) only[jl,enC,r0,r1,ex,j2',q1,q2,go_sem]
  repeat' first
   |((first|refine cA (c60j _) ?_ ?_|refine cG (fun e=>c60j _) ?_ ?_|refine cU (fun _=>c60j _) ?_ ?_);exact flk;simp (disch:=omega) only[jl,enC,r0,r1,ex,j2',q1,q2,q3,zV1,zV2,go_sem])
   |((first|apply qb|apply qd);exact rvk;simp only[go_sem];first|exact qj|apply qg|apply qf|apply zV|skip)
   |with_reducible first|intro _|apply aiA
  all_goals try exact clz
  obtain⟨pf,hpf⟩: ∃pf:Nat→Nat→Bool,pf=fun m k=>vrB VL l o j k||decide ((k:Int)∈V.take m):=⟨_,rfl⟩
  have p0:bvC (pf 0)=bvC (vrB VL l o j):=qas fun k _=>by rw[hpf];simp
  rw[←p0];refine qp (T:=fun m:Nat=>qQ 118 [(0,strs names),(1,qL gs),(8,.op h.length 1 0),(10,.op (h.length+1) 1 0),(11,.op (h.length+2) 1 0),(42,jl l),(43,.int .i64 l.length),(44,.int .i64 j),(71,qn V),(72,.int .i64 V.length),(73,.int .i64 m)])
   (H:=fun m=>h++ [.mem 1 58 [.int .i64 0,.int .i64 0,.int .i64 0,.bool false,.nl,.nl],.mem 1 58 [.int .i64 o.layer,.int .i64 o.frm,.int .i64 o.to,.bool o.pos,strs o.sup,zM o.vars],.mem 1 183 (bvC (pf m)),.mem (qr (some O)+1) 58 [.int .i64 x.layer,.int .i64 x.frm,.int .i64 x.to,.bool x.pos,strs x.sup,zM x.vars],.emp 0,.emp 0,.emp 0])
   (inv:=fun m=>m≤V.length) (m:=fun m=>V.length-m) 0 (nzl _) (Wk.temps ?_) ?_
  ·(simp only[strs,jl,enC,go_sem,qi,qe,qa,qh];try (repeat' first|(with_reducible apply aiA)|(apply qg;omega)|(apply qf;rfl)|exact qj))
  rintro m m1 KA hKA;have zv: ∀X:List Int,qn X= .sl X.length fun i=> [.int .i64 (X.getD i 0)]:=fun _=>rfl
  by_cases hm:m<V.length
  ·have t1:((m:Int)<V.length)=True:=eqt (by omega);have t0:(0≤(m:Int))=True:=eqt (by omega);have hmm:V.getD m 0∈V:=by rw[gdqA,qY hm];exact List.getElem_mem hm
   obtain⟨b0,b1⟩:=hvl _ hmm;have htk:=jV hm;obtain⟨w,hw⟩: ∃w,w=V.getD m 0:=⟨_,rfl⟩
   have ew:=hw.symm;rw[ew]at b0 b1 htk;obtain⟨u,rfl⟩: ∃u:Nat,w=(u:Int):=⟨w.toNat,by omega⟩
   have u32:u<32:=by omega
   have t2:(0≤(u:Int))=True:=eqt (by omega);have t3:((u:Int)<32)=True:=eqt (by omega);have t4:(u<32)=True:=eqt u32;have t5:(u+1≤32)=True:=eqt u32;have gl:=qab (pf m);have gs1:=qsz (p:=pf m) u32;have gg:=qcI (p:=pf m) u32;have hpn:(bvC fun k=>pf m k||decide (k=u))=bvC (pf (m+1)):=qas fun k _=>by
    rw[hpf];simp only;rw[htk,Bool.or_assoc,←Bool.decide_or];congr 1;refine decide_eq_decide.2 ?_;rw[List.mem_append,List.mem_singleton];constructor
    ·rintro (h1|h1)
     ·exact .inl h1
     ·exact .inr (by omega)
    ·rintro (h1|h1)
     ·exact .inl h1
     ·exact .inr (by omega)
   simp (disch:=omega) only[zv,t0,t1,t2,t3,t4,t5,ew,gl,gs1,gg,Nat.mul_one,Nat.zero_add,Int.toNat_natCast,Option.isSome_some,go_sem]
   repeat' first
    |((first|apply qb|apply qd);exact rvk;simp only[go_sem];first|exact qj|apply qg|apply qf|apply zV|skip)
    |with_reducible first|intro _|apply aiA
   all_goals try exact clz
   try rw[hpn]
   refine hKA _ _ (m+1) hm (by omega) (Wk.temps ?_)
   (simp only[strs,jl,enC,zv,go_sem,qi,qe,qa,qh];try (repeat' first|(with_reducible apply aiA)|(apply qg;omega)|(apply qf;rfl)|exact qj))
  ·obtain rfl:m=V.length:=by omega
   have t1:((V.length:Int)<V.length)=False:=eqf (by omega);simp (disch:=omega) only[t1,go_sem]
   repeat' first
    |((first|apply qb|apply qd);exact rvk;simp only[go_sem];first|exact qj|apply qg|apply qf|apply zV|skip)
    |with_reducible first|intro _|apply aiA
   all_goals try exact clz
   refine hK _ _ (j+1,.mem (qr (some O)+1) 58 [.int .i64 x.layer,.int .i64 x.frm,.int .i64 x.to,.bool x.pos,strs x.sup,zM x.vars]) ⟨hj,rfl,fun k hk=> ?_⟩ (by simp only;omega) ?_
   ·by_cases e':k=j
    ·subst e';rw[hf];exact a3
    ·exact j3 k (by simp only at hk;omega)
   rw[show bvC (vrB VL l o (j+1))=bvC (pf V.length)from qas fun k _=>by rw[hst,hpf];simp only;rw[List.take_length]];refine Wk.temps ?_
   (simp only[jl,enC,go_sem,qi,qe,qa,qh];try (repeat' first|(with_reducible apply aiA)|(apply qg;omega)|(apply qf;rfl)|exact qj))
 obtain rfl:j=l.length:=by omega
 have r1:((l.length:Int)<l.length)=False:=eqf (by omega);rw[qI (f:=trF VE l o) j3]at hR;rw[hR,ipo rfl];unfold tnE;cases hpos:o.pos with
 |true=>
  rw[ipo rfl];simp (disch:=omega) only[r1,go_sem]
  repeat' first
   |((first|apply qb|apply qd);exact rvk;simp only[go_sem];first|exact qj|apply qg|apply qf|apply zV|skip)
   |with_reducible first|intro _|apply aiA
  all_goals try exact clz
  exact zA ⟨VLe.agg ⟨qj,qj,qj,qj,jX,qj,trivial⟩,qj,trivial⟩
 |false=>
 rw[ine (by simp)];clear hK;obtain⟨pB,hpB⟩: ∃pB:Nat→Bool,pB=fun k=> !vrB VL l o l.length k:=⟨_,rfl⟩
 have hrst:qof names VL l o=zD pB names.length:=by rw[hpB];rfl
 have hpk: ∀k,pB k= !vrB VL l o l.length k:=fun k=>by rw[hpB]
 obtain⟨vb,hvb⟩: ∃vb,vb=vrB VL l o l.length:=⟨_,rfl⟩
 simp only[←hvb]at hpk;have zn1: ∀g,valL g .len [strs names]= .int .i64 names.length:=fun _=>rfl
 have zn2: ∀g,okL g .len [strs names]=True:=fun _=>eqt trivial
 rw[←hvb];simp (disch:=omega) only[r1,zn1,zn2,go_sem]
 repeat' first
  |((first|apply qb|apply qd);exact rvk;simp only[go_sem];first|exact qj|apply qg|apply qf|apply zV|skip)
  |with_reducible first|intro _|apply aiA
 all_goals try exact clz
 refine qp (T:=fun s:Nat×Nat×AObj=>qQ 118 [(0,strs names),(1,qL gs),(8,.op h.length 1 0),(10,.op (h.length+1) 1 0),(11,.op (h.length+2) 1 0),(18,.osl (h.length+4) s.2.1 1 0 (zD pB s.1).length),(91,.int .i64 names.length),(92,.int .i64 s.1)])
  (H:=fun s=>h++ [.mem 1 58 [.int .i64 0,.int .i64 0,.int .i64 0,.bool false,.nl,.nl],.mem 1 58 [.int .i64 o.layer,.int .i64 o.frm,.int .i64 o.to,.bool true,.nl,zM o.vars],.mem 1 183 (bvC vb),O,zP s.2.1 3 (qx (zD pB s.1)),s.2.2,.emp 0])
  (inv:=fun s=>s.1≤names.length∧qH [s.2.2] 0=true) (m:=fun s=>names.length-s.1) (0,1,.emp 0) ⟨nzl _,rfl⟩ (Wk.temps ?_) ?_
 ·(simp only[strs,zD,List.range_zero,List.filter_nil,List.length_nil,List.map_nil,go_sem,qi,qe,qa,qh];try (repeat' first|(with_reducible apply aiA)|(apply qg;omega)|(apply qf;rfl)|exact qj))
 rintro⟨k,v,O5⟩ ⟨m1,m2⟩ KA hKA;simp only at m1 m2 hKA;have m2': ∀m,qH (O5::m) 0=true:=fun _=>m2
 have hst:=qbs pB k;have hll:=zk pB k;have hp:=hpk k
 by_cases hk:k<names.length
 ·have t1:((k:Int)<names.length)=True:=eqt (by omega);have t2:(0≤(k:Int))=True:=eqt (by omega);have t3:((k:Int)<32)=True:=eqt (by omega);have t4:(k<32)=True:=eqt (by omega);have gl:=qab vb;have gg:=qcI (p:=vb) (n:=k) (by omega);obtain⟨L,hL⟩: ∃L,L=zD pB k:=⟨_,rfl⟩
  rw[←hL]at hst hll;have eL:=hL.symm;have eC:=qT L;have eTk:List.take L.length (qx L)=qx L:=ltl (by omega);cases hb:vb k with
  |false=>
   rw[hb]at gg hp;rw[hp,ipo (by rfl)]at hst;simp (disch:=omega) only[t1,t2,t3,t4,gl,gg,m2',eL,Nat.mul_one,Nat.zero_add,Int.toNat_natCast,Option.isSome_some,Option.getD_some,go_sem]
   repeat' first
    |((first|apply qb|apply qd);exact rvk;simp only[go_sem];first|exact qj|apply qg|apply qf|apply zV|skip)
    |with_reducible first|intro _|apply aiA
   all_goals try exact clz
   have eA:qx L++ [AV.int .i64 (k:Int)]=qx (zD pB (k+1)):=by rw[hst,jh];rfl
   try rw[eTk]
   try rw[eA]
   refine hKA _ _ (k+1,v+1,.mem (qr (some O5)+1) 3 [.int .i64 (k:Int)]) ⟨hk,rfl⟩ (by simp only;omega) ?_;simp only[hst,List.length_append,List.length_cons,List.length_nil];refine Wk.temps ?_
   (simp only[strs,go_sem,qi,qe,qa,qh];try (repeat' first|(with_reducible apply aiA)|(apply qg;omega)|(apply qf;rfl)|exact qj))
  |true=>
   rw[hb]at gg hp;rw[hp,ine (by simp),List.append_nil]at hst;simp (disch:=omega) only[t1,t2,t3,t4,gl,gg,m2',eL,Nat.mul_one,Nat.zero_add,Int.toNat_natCast,Option.isSome_some,Option.getD_some,go_sem]
   repeat' first
    |((first|apply qb|apply qd);exact rvk;simp only[go_sem];first|exact qj|apply qg|apply qf|apply zV|skip)
    |with_reducible first|intro _|apply aiA
   all_goals try exact clz
   refine hKA _ _ (k+1,v,O5) ⟨hk,m2⟩ (by simp only;omega) ?_;simp only[hst];refine Wk.temps ?_
   (simp only[strs,go_sem,qi,qe,qa,qh];try (repeat' first|(with_reducible apply aiA)|(apply qg;omega)|(apply qf;rfl)|exact qj))
 ·obtain rfl:k=names.length:=by omega
  have t1:((names.length:Int)<names.length)=False:=eqf (by omega);simp (disch:=omega) only[t1,go_sem]
  repeat' first
   |((first|apply qb|apply qd);exact rvk;simp only[go_sem];first|exact qj|apply qg|apply qf|apply zV|skip)
   |with_reducible first|intro _|apply aiA
  all_goals try exact clz
  obtain⟨r,hr⟩: ∃r,r=zD pB names.length:=⟨_,rfl⟩
  have hse:qes names gs r=0:=by
   unfold qes;rw[←hs,ipo g0,hr];exact qfd _ _
  have c61:=fun h=>qB7 names gs r h hz (by rw[hr];omega) (fun _=>⟨n8,g8⟩)
  rw[hse]at c61;rw[hrst,←hr];refine⟨qQ 118 [(0,strs names),(1,qL gs),(8,.op h.length 1 0),(10,.op (h.length+1) 1 0),(18,qn r)],_,Wk.trans (Wk.freeze [h.length+4] (by simp only[ke,go_sem])) (Wk.temps ?_),?_⟩
  ·(simp only[strs,List.map,go_sem,qi,qe,qa,qh];try (repeat' first|(with_reducible apply aiA)|(apply qg;omega)|(apply qf;rfl)|exact qj))
   ·rw[ine (by simp)];exact qj
   ·rw[ine (by simp)];exact qj
   ·rw[ipo (by simp),ipo (by simp)];exact qaL (fun _=>rfl) rfl
  simp only[qc1,List.map,go_sem]
  try simp (disch:=omega) only[go_sem]
  repeat' first
   |((first|refine cA (c61 _) ?_ ?_|refine cG (fun e=>c61 _) ?_ ?_|refine cU (fun _=>c61 _) ?_ ?_);exact flk;simp (disch:=omega) only[go_sem])
   |((first|apply qb|apply qd);exact rvk;simp only[go_sem];first|exact qj|apply qg|apply qf|apply zV|skip)
   |with_reducible first|intro _|apply aiA
  all_goals try exact clz
theorem qCl{names:List Str}{gs:List Gr}{w:List Str}{e:En}(h:qh7 names gs w e=0):
  vsE names gs e=0∧ ∀k x,k<e.vars.length→x∈zN names gs (e.vars.getD k default).sigla→x∈vsL names gs e:=by
 have c:=qau.1 h;have ht:(qba names gs (noS e) e.vars.length).2=false:=by
  refine qeE (e:=noS e) _ (fun j k hj hk x hx=>qcB c.tc hj hk hx) (fun k hk x hx=> ?_);rw[show (noS e).sup= []from rfl,ko]at hx;cases hx
 have hE:vsE names gs e=0:=by
  unfold vsE;rw[ine (fun hc=>hc c.sg),ine (fun hc=>hc (qI (f:=fun i=>kQ names gs (e.vars.getD i default).sigla) c.ev))];unfold vsC;rw[qbb,ht];rfl
 refine⟨hE,fun k x hk hx=> ?_⟩;have hi:=qfL names gs (noS e) e.vars.length;have hm:x∈(qba names gs (noS e) e.vars.length).1:=(qdU names gs (noS e) _ ht x).2 (.inr ⟨k,hk,hx⟩);obtain⟨x0,x1⟩:=hi.rng x hm;have h1:=(hi.mem x.toNat (by omega)).1 (by rw[show ((x.toNat:Nat):Int)=x by omega];exact hm);unfold vsL;rw[ipo hE];refine jj.2 ⟨x.toNat,by omega,?_,by omega⟩;exact dqt (by unfold vsC;omega)
def vrP(a:Ap)(k y r:Nat):Bool:=decide (lyN a.lay ((a.cls.getD k []).getD r [])=y)&& !decide (((a.l.getD k default).rds.getD r default).words=qfJ a k)
def vaR(a:Ap)(k r:Nat):Va:=⟨((a.l.getD k default).rds.getD r default).words,shR a.x.sig a.gs ((a.l.getD k default).rds.getD r default).src⟩
def vrI(a:Ap)(k y n:Nat):List Nat:=(List.range n).filter (vrP a k y)
theorem qse(a:Ap)(k y:Nat): ∀n,vrG a k y n=(vrI a k y n).map (vaR a k):=by
 intro n
 induction n with
 |zero=>rfl
 |succ n ih=>
  unfold vrG vrI;rw[ih,List.range_succ,List.filter_append,List.map_append];congr 1;unfold vrI at ih
  by_cases h1:lyN a.lay ((a.cls.getD k []).getD n [])=(y:Int)
  ·by_cases h2:((a.l.getD k default).rds.getD n default).words=qfJ a k
   ·rw[ine (fun hc=>hc.2 h2),List.filter_cons_of_neg (by unfold vrP;rw[dqt h2];simp)];rfl
   ·rw[ipo ⟨h1,h2⟩,List.filter_cons_of_pos (by unfold vrP;rw[dqt h1,dqf h2];rfl)];rfl
  ·rw[ine (fun hc=>h1 hc.1),List.filter_cons_of_neg (by unfold vrP;rw[dqf h1];simp)];rfl
theorem qn5(a:Ap)(k y n:Nat):(vrI a k y n).Pairwise (· < ·):=List.Pairwise.filter _ List.pairwise_lt_range
theorem ju{a:Ap}{k y n r:Nat}:r∈vrI a k y n↔r<n∧lyN a.lay ((a.cls.getD k []).getD r [])=y∧((a.l.getD k default).rds.getD r default).words≠qfJ a k:=by
 unfold vrI vrP;rw[List.mem_filter,List.mem_range,Bool.and_eq_true,decide_eq_true_iff,Bool.not_eq_true',decide_eq_false_iff_not]
theorem qew(a:Ap)(k y:Nat):(vrK a k y).length=(vrI a k y (a.l.getD k default).rds.length).length:=by unfold vrK;rw[qse,List.length_map]
theorem jk{a:Ap}{k y i:Nat}(hi:i<(vrK a k y).length): ∃r,(vrI a k y (a.l.getD k default).rds.length)[i]? =some r∧(vrK a k y).getD i default=vaR a k r:=by
 have hi':=hi;rw[qew]at hi';refine⟨_,qY hi',?_⟩;unfold vrK;rw[qse,gdqA,List.getElem?_map,qY hi'];rfl
structure qwh (a:Ap) (k:Nat):Prop where
 inv:qfK (a.l.getD k default).rds a.x.sig.length
 has:qhP (a.l.getD k default).rds a.x.sig.length fun i=>rdG a.x i (a.l.getD k default).frm.toNat ((a.l.getD k default).to.toNat-(a.l.getD k default).frm.toNat)
theorem qmG{a:Ap}(h:qnG a.x a.l=true){k:Nat}(hk:k<a.l.length):qwh a k:=by
 have hr:=(qa8 h).rg (a.l.getD k default) (by rw[gdqA,qY hk];exact List.getElem_mem hk);refine⟨by rw[hr.2.2.2];exact qhv _ _ _,?_⟩;obtain⟨u,hu⟩: ∃u,u=a.l.getD k default:=⟨_,rfl⟩
 rw[←hu]at hr ⊢
 have:=qqg a.x u.frm.toNat u.to.toNat
 rw[←hr.2.2.2]at this;exact this
theorem qbj{L:List Rd}{i:Nat}(hi:i<L.length):L.getD i default∈L:=by rw[gdqA,qY hi];exact List.getElem_mem hi
theorem jJ{a:Ap}{k:Nat}(h:qwh a k)(hs:sgE a.x.sig a.gs=0){r:Nat}(hr:r<(a.l.getD k default).rds.length):
  qes a.x.sig a.gs ((a.l.getD k default).rds.getD r default).src=0∧kQ a.x.sig a.gs (vaR a k r).sigla=0∧zN a.x.sig a.gs (vaR a k r).sigla=((a.l.getD k default).rds.getD r default).src∧(vaR a k r).sigla≠ []:=by
 obtain⟨h1,h2⟩:=h.inv.src _ (qbj hr);have hst:qes a.x.sig a.gs ((a.l.getD k default).rds.getD r default).src=0:=by
  unfold qes;rw[ipo hs];exact qrZ h1 h2
 obtain⟨h3,h4⟩:=qm5 hst;refine⟨hst,h3,h4,fun e=> ?_⟩;have e:shR a.x.sig a.gs ((a.l.getD k default).rds.getD r default).src= []:=e;rw[e,ko]at h4;exact h.has.nn r hr h4.symm
theorem qdb{a:Ap}{k:Nat}(h:qwh a k){r s:Nat}(hr:r<(a.l.getD k default).rds.length)(hs:s<(a.l.getD k default).rds.length)(hne:r≠s){x:Int}(hx:x∈((a.l.getD k default).rds.getD r default).src): ¬x∈((a.l.getD k default).rds.getD s default).src:=fun hx2=>by
 have b:=(h.inv.src _ (qbj hr)).2 x hx;obtain⟨j,_,_,_,_,hu⟩:=qmP h.has h.inv (s:=x.toNat) (by omega);have ex:((x.toNat:Nat):Int)=x:=by omega
 rw[ex]at hu;exact hne (((hu r hr).1 hx).trans ((hu s hs).1 hx2).symm)
theorem qt0{s:Str}(h:qbJ s=true):2≤s.length:=by
 unfold qbJ at h;rw[List.any_eq_true]at h;obtain⟨k,_,hk⟩:=h;rw[of_decide_eq_true hk,List.length_cons,List.length_append,List.length_singleton];omega
theorem qvc{t:Tk}(h:txB t=true):qdw t.text=true:=by
 unfold txB at h;unfold qdw;split at h
 ·rw[Bool.and_eq_true]at h
  have:=qt0 h.1
  rw[ine (by omega),h.1,Bool.or_true]
 ·split at h
  ·rw[Bool.and_eq_true]at h;have h:=h.1;unfold qzw at h;rw[Bool.and_eq_true,decide_eq_true_iff]at h;rw[ipo h.1,h.2,Bool.or_true]
  ·rw[Bool.and_eq_true]at h;rw[h.1,Bool.true_or]
end RC
end
