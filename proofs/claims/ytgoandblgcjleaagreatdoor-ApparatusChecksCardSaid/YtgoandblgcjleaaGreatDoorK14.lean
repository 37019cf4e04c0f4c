import Derived.Test.YtgoandblgcjleaaGreatDoorK3
import Derived.Test.YtgoandblgcjleaaGreatDoorK5
import Derived.Test.YtgoandblgcjleaaGreatDoorK8
import Derived.Test.YtgoandblgcjleaaGreatDoorProg
import Derived.Test.YtgoandblgcjleaaGreatDoorK13
import Derived.Shelf.Slices.In.SortAlone
import Derived.Shelf.Slices.In.CompactI
import Derived.Test.YtgoandblgcjleaaGreatDoorK10
import Derived.Sort.OwnSortedInts
import Derived.Test.YtgoandblgcjleaaGreatDoorK12
set_option linter.all false
set_option linter.unusedSimpArgs false
set_option linter.unusedVariables false
set_option linter.unusedSectionVars false
set_option maxHeartbeats 64000000
set_option maxRecDepth 100000
section
open Go Go.Proofs AF
def qAi:List Nat:= [132,109,174,220,68]
def qBS:C:=
 ((C.ops [O1 5 (.box 0 58) 2,ON 6 (.nilo 1 1 3) [],MC 7 (i6 0)]).seq (((C.ops [MV 15 0,MV 16 1,O2 17 (.call 122 true) 15 16,BC 18 .neq 17 (i6 0)]).seq (C.cond (.t 18) ((C.ops
 [ON 6 (.nilo 1 1 3) [],MC 7 (i6 1)]).seq C.ret) C.skip)).seq ((C.ops [⟨some 8,none,.alloc 2 174 [i6 0,i6 0,i6 0,i6 0,i6 0,i6 0,i6 0,i6 0,i6 0,i6 0,i6 0,i6 0,i6 0,i6
 0,i6 0,i6 0,i6 0,i6 0,i6 0,i6 0,i6 0,i6 0,i6 0,i6 0,i6 0,i6 0,i6 0,i6 0,i6 0,i6 0,i6 0,i6 0],[]⟩]).seq (((C.ops [O1 19 (.fldA 5) 5,LD 20 19,O1 21 .len 20,MC
 22 (i6 0)]).seq (C.block 0 ((C.ops [BI 23 .lss 22 21]).seq ((C.cond (.t 23) C.skip (C.exit 0)).seq ((C.block 1 ((C.ops [O2 24 (.idxA 2) 20 22,O1 25 (.load (some 2)) 24,⟨some 10,
 none,.alloc 3 85 [.nl,.nl],[]⟩,ST 2 10 25]).seq ((C.ops [MV 26 0,MV 27 1,O1 28 (.fldA 1) 10,LD 29 28,ON 30 (.call 132 false) [.t 26,.t 27,.t 29,.t 8],MV 11 30]).seq
 ((C.ops [MV 31 11,BC 32 .neq 31 (i6 0)]).seq (C.cond (.t 32) ((C.ops [MV 33 11,ON 6 (.nilo 1 1 3) [],MV 7 33]).seq C.ret) C.skip))))).seq (C.ops [BC 34 .add 22 (i6 1),MV 22
 34])))).loop)).seq (((C.ops [O1 35 (.load (some 32)) 8,O1 36 (.call 133 true) 35]).seq (C.cond (.t 36) ((C.ops [ON 6 (.nilo 1 1 3) [],MC 7 (i6 17)]).seq C.ret) C.skip)).seq
 ((C.ops [ON 12 (.nilo 4 1 3) []]).seq (((C.ops [O1 37 (.load (some 32)) 8,MC 38 (i6 0)]).seq (C.block 2 ((C.ops [BC 39 .lss 38 (i6 32)]).seq ((C.cond (.t 39) C.skip (C.exit
 2)).seq ((C.block 3 ((C.ops [MV 40 38,O2 41 (.aidx 32 1 none) 37 38,MV 13 40,MV 14 41]).seq ((C.ops [MV 42 14,BC 43 .gtr 42 (i6 0)]).seq (C.cond (.t 43) (C.ops [MV 44 12,MV 45
 13,⟨some 46,none,.bslc 5 1 1 3 [i6 0] [(0,1)],[.t 45]⟩,O2 47 (.app 6 1 3 8) 44 46,MV 12 47]) C.skip)))).seq (C.ops [BC 48 .add 38 (i6 1),MV 38 48])))).loop)).seq ((C.ops
 [MV 49 12,MV 6 49,MC 7 (i6 0)]).seq
 C.ret))))))))
theorem qzN:qB Tryz.prog 62 50 7 [RV.tmp 6,RV.tmp 7] qBS:=fi Tryz.f62 [5,6,8,10,12,46,47] qAi []
end
section
open Go Go.Proofs AF HY LN
namespace RC
def noS(e:En):En:= { e with sup:= [] }
def vsC(names:List Str)(gs:List Gr)(e:En)(i:Nat):List Int:=cnt names gs (noS e) i
def vsE(names:List Str)(gs:List Gr)(e:En):Int:=
 if sgE names gs≠0 then 1 else if qaZ (fun i=>kx names gs (e.vars.getD i default).sigla) 0 e.vars.length≠0 then qaZ (fun i=>kx names gs (e.vars.getD i default).sigla) 0 e.vars.length
 else if qjl (vsC names gs e e.vars.length)=true then 17 else 0
def vsB(names:List Str)(gs:List Gr)(e:En)(k:Nat):Bool:=decide (0<(vsC names gs e e.vars.length).getD k 0)
def vsL(names:List Str)(gs:List Gr)(e:En):List Int:=if vsE names gs e=0 then qT (vsB names gs e) 32 else []
theorem qrs(names:List Str)(gs:List Gr)(e:En):vsC names gs e 0=List.replicate 32 0:=by
 show qcx (List.replicate 32 0) (jC names gs [])=_;rw[qcf];rfl
theorem vsP(names:List Str)(gs:List Gr)(e:En)(h:List AObj)(hz:Szs names gs)(hv:e.vars.length≤1000000000)(hg: ∀i,(e.vars.getD i default).sigla.length≤1000000000):
  ACalls Tryz.prog 62 [strs names,qu gs,.agg (enC e)] h (.tup [ql (vsL names gs e),.int .i64 (vsE names gs e)]) h:=by
 have c59:=fun h=>sgP names gs h hz
 obtain⟨R,hR⟩: ∃R,R=vsE names gs e:=⟨_,rfl⟩
 have hLR:vsL names gs e=if R=0 then qT (vsB names gs e) 32 else []:=by rw[hR];rfl
 rw[hLR,←hR];unfold vsE at hR;obtain⟨s,hs⟩: ∃s,s=sgE names gs:=⟨_,rfl⟩
 rw[←hs]at c59 hR
 by_cases g0:s≠0
 ·have k0:(s=0)=False:=eqf g0;rw[ipo g0]at hR;rw[hR,ine (by decide)];refine acO qzN ?_;simp (disch:=omega) only[qBS,enC,go_sem]
  repeat' first
   |(refine cA (c59 _) flk ?_;simp (disch:=omega) only[k0,go_sem])
   |(apply qb;exact rvk;simp only[go_sem])
  first|exact zu|exact qL ⟨zu,qk,trivial⟩
 have g0:s=0:=Classical.not_not.1 g0;have k0:(s=0)=True:=eqt g0;rw[ine (fun hc=>hc g0)]at hR;refine acO qzN ?_;simp (disch:=omega) only[qBS,enC,qW,go_sem]
 repeat' first
  |(refine cA (c59 _) flk ?_;simp (disch:=omega) only[k0,go_sem])
  |with_reducible apply aiA
 all_goals try exact clz
 have e0:([AV.int .i64 0,AV.int .i64 0,AV.int .i64 0,AV.int .i64 0,AV.int .i64 0,AV.int .i64 0,AV.int .i64 0,AV.int .i64 0,AV.int .i64 0,AV.int .i64 0,AV.int .i64 0,AV.int .i64 0,AV.int .i64 0,AV.int .i64 0,AV.int .i64 0,AV.int .i64 0,AV.int .i64 0,AV.int .i64 0,AV.int .i64 0,AV.int .i64 0,AV.int .i64 0,AV.int .i64 0,AV.int .i64 0,AV.int .i64 0,AV.int .i64 0,AV.int .i64 0,AV.int .i64 0,AV.int .i64 0,AV.int .i64 0,AV.int .i64 0,AV.int .i64 0,AV.int .i64 0]:List AV)=qp (vsC names gs e 0):=by rw[qrs];rfl
 rw[e0];refine qn (T:=fun i:Nat×AObj=>qI 50 [(0,strs names),(1,qu gs),(8,.op (h.length+2) 1 0),(20,qW e.vars),(21,.int .i64 e.vars.length),(22,.int .i64 i.1)])
  (H:=fun i=>h++ [.mem 1 58 [.int .i64 e.layer,.int .i64 e.frm,.int .i64 e.to,.bool e.pos,strs e.sup,qW e.vars],.emp 1,.mem 1 174 (qp (vsC names gs e i.1)),i.2,.emp 0,.emp 0,.emp 0])
  (inv:=fun i=>i.1≤e.vars.length∧qC [i.2] 0=true∧ ∀j,j<i.1→kx names gs (e.vars.getD j default).sigla=0) (m:=fun i=>e.vars.length-i.1) (0,.emp 0) ⟨nzl _,rfl,fun j hj=>absurd hj (nnz j)⟩ (Wk.temps ?_) ?_
 ·(simp only[strs,qW,go_sem,qj,qd,qa,qi];try (repeat' first|(with_reducible apply aiA)|(apply qh;omega)|(apply qg;rfl)|exact qk))
 rintro⟨n,O⟩ ⟨n1,i2,n2⟩ K hK;simp only at n1 i2 n2 hK;have i2': ∀m,qC (O::m) 0=true:=fun _=>i2
 by_cases hn:n<e.vars.length
 ·have r2:((n:Int)<e.vars.length)=True:=eqt om;have hE:=qO (f:=fun i=>kx names gs (e.vars.getD i default).sigla) hn n2;have zs:=hg n;have hcs:vsC names gs e (n+1)=qcx (vsC names gs e n) (jC names gs (e.vars.getD n default).sigla):=rfl;have hbn:=qk7 names gs (noS e) n;have hln:=qdL names gs (noS e) n;obtain⟨D,hD⟩: ∃D,D=vsC names gs e n:=⟨_,rfl⟩
  have eD:=hD.symm;have eD':cnt names gs (noS e) n=D:=eD;rw[eD']at hbn hln;rw[eD]at hcs;obtain⟨x,hx⟩: ∃x,x=e.vars.getD n default:=⟨_,rfl⟩
  have ex:=hx.symm;simp only[ex]at hE hcs zs;simp (disch:=omega) only[strs,qW,vaC,r2,ex,eD,i2',go_sem]
  repeat' first
   |with_reducible apply aiA
  all_goals try exact clz
  refine cE (qB5 names gs x.sigla D (h.length+2) 1 174 _ hz zs (by rw[getO_app];rfl) hln (64*((n:Int)+1)) om hbn) (by exact flk) ?_;rw[←hcs];obtain⟨q,hq⟩: ∃q,q=kx names gs x.sigla:=⟨_,rfl⟩
  rw[←hq]at hE ⊢
  by_cases b2:q≠0
  ·have p2:(q=0)=False:=eqf b2;rw[hE b2,ipo b2]at hR;rw[hR,ine b2];simp (disch:=omega) only[strs,qW,p2,go_sem]
   repeat' first
    |(apply qb;exact rvk;simp only[go_sem])
   first|exact zu|exact qL ⟨zu,qk,trivial⟩
  ·have b2:q=0:=Classical.not_not.1 b2;have p2:(q=0)=True:=eqt b2;simp (disch:=omega) only[strs,qW,p2,go_sem];refine hK _ _ (n+1,.mem (qr (some O)+1) 85 [strs x.words,strs x.sigla]) ⟨hn,rfl,fun j hj=> ?_⟩ (by simp only;omega) (Wk.temps ?_)
   ·by_cases e':j=n
    ·subst e';rw[ex,←hq,b2]
    ·exact n2 j (by simp only at hj;omega)
   ·(simp only[strs,qW,go_sem,qj,qd,qa,qi];try (repeat' first|(with_reducible apply aiA)|(apply qh;omega)|(apply qg;rfl)|exact qk))
 ·have r2:((n:Int)<e.vars.length)=False:=eqf om;have e':n=e.vars.length:=by omega
  subst e';rw[ine (fun hc=>hc (qz (f:=fun i=>kx names gs (e.vars.getD i default).sigla) (fun j hj=>n2 j hj)))]at hR;have hln:(vsC names gs e e.vars.length).length=32:=qdL names gs (noS e) e.vars.length;unfold qjl at hR;rw[hln]at hR;have c94:=fun h=>twP (vsC names gs e e.vars.length) h hln
  rw[hln]at c94;obtain⟨pB,hpB⟩: ∃pB,pB=vsB names gs e:=⟨_,rfl⟩
  rw[←hpB];have hpk: ∀k,pB k=decide (0<(vsC names gs e e.vars.length).getD k 0):=fun k=>by rw[hpB];rfl
  obtain⟨D,hD⟩: ∃D,D=vsC names gs e e.vars.length:=⟨_,rfl⟩
  have eD:=hD.symm;simp only[eD]at hR hln c94 hpk;have fT:List.take 32 (qp D)=List.map (fun n=>AV.int .i64 n) D:=ltl (by rw[qy];omega);have fL:=qy D;rw[hln]at fL;cases b3:zd (fun i=>decide (1<D.getD i 0)) 32 with
  |true=>
   rw[b3]at c94 hR;rw[ipo rfl]at hR;rw[hR,ine (by decide)];simp (disch:=omega) only[strs,qW,r2,eD,fT,fL,go_sem]
   repeat' first
    |(refine cA (c94 _) flk ?_;simp (disch:=omega) only[fT,fL,go_sem])
    |(apply qb;exact rvk;simp only[go_sem])
   first|exact zu|exact qL ⟨zu,qk,trivial⟩
  |false=>
   rw[b3]at c94 hR;rw[ine (by simp)]at hR;rw[hR,ipo rfl];simp (disch:=omega) only[strs,qW,r2,eD,fT,fL,go_sem]
   repeat' first
    |(refine cA (c94 _) flk ?_;simp (disch:=omega) only[fT,fL,go_sem])
   clear hK;refine qn (T:=fun s:Nat×Nat×AObj=>qI 50 [(12,.osl (h.length+4) s.2.1 1 0 (qT pB s.1).length),(37,.agg (List.map (fun n=>AV.int .i64 n) D)),(38,.int .i64 s.1)])
    (H:=fun s=>h++ [.mem 1 58 [.int .i64 e.layer,.int .i64 e.frm,.int .i64 e.to,.bool e.pos,strs e.sup,qW e.vars],.emp 1,.mem 1 174 (qp D),O,zP s.2.1 3 (qp (qT pB s.1)),s.2.2,.emp 0])
    (inv:=fun s=>s.1≤32∧qC [s.2.2] 0=true) (m:=fun s=>32-s.1) (0,1,.emp 0) ⟨nzl _,rfl⟩ (Wk.temps ?_) ?_
   ·(simp only[qT,List.range_zero,List.filter_nil,lnl,List.map_nil,go_sem,qj,qd,qa,qi];try (repeat' first|(with_reducible apply aiA)|(apply qh;omega)|(apply qg;rfl)|exact qk))
   rintro⟨i,v,O5⟩ ⟨j1,j2⟩ K hK;simp only at j1 j2 hK;have j2': ∀m,qC (O5::m) 0=true:=fun _=>j2
   have hst:=zH pB i;have hll:=qN pB i;have hp:=hpk i;obtain⟨L,hL⟩: ∃L,L=qT pB i:=⟨_,rfl⟩
   rw[←hL]at hst hll;have eL:=hL.symm;have eC:=qy L;have eTk:List.take L.length (qp L)=qp L:=ltl om
   by_cases hi:i<32
   ·have k1:((i:Int)<32)=True:=eqt om;have k2:(0≤(i:Int))=True:=eqt om;have k3:(i<D.length)=True:=eqt om;have eG:D[i]? =some (D.getD i 0):=by rw[gdqA,zp om];rfl
    obtain⟨y,hy⟩: ∃y,y=D.getD i 0:=⟨_,rfl⟩
    rw[←hy]at hp eG
    by_cases hyp:0<y
    ·have k4:(0<y)=True:=eqt hyp;rw[hp,ipo (dqt hyp)]at hst;simp (disch:=omega) only[k1,k2,k3,k4,eG,j2',eL,Nat.mul_one,itn,List.getElem?_map,List.length_map,Option.map_some,Option.getD_some,go_sem]
     repeat' first
      |with_reducible apply aiA
     all_goals try exact clz
     have eA:qp L++ [AV.int .i64 (i:Int)]=qp (qT pB (i+1)):=by rw[hst,qR];rfl
     try rw[eTk]
     rw[eA];refine hK _ _ (i+1,v+1,.mem (qr (some O5)+1) 3 [.int .i64 (i:Int)]) ⟨hi,rfl⟩ (by simp only;omega) ?_;simp only[hst,lap,lco,lnl];refine Wk.temps ?_
     (simp only[go_sem,qj,qd,qa,qi];try (repeat' first|(with_reducible apply aiA)|(apply qh;omega)|(apply qg;rfl)|exact qk))
    ·have k4:(0<y)=False:=eqf hyp;rw[hp,ine (by simpa using hyp),lan]at hst;simp (disch:=omega) only[k1,k2,k3,k4,eG,j2',eL,Nat.mul_one,itn,List.getElem?_map,List.length_map,Option.map_some,Option.getD_some,go_sem]
     repeat' first
      |with_reducible apply aiA
     all_goals try exact clz
     refine hK _ _ (i+1,v,O5) ⟨hi,j2⟩ (by simp only;omega) ?_;simp only[hst];refine Wk.temps ?_
     (simp only[go_sem,qj,qd,qa,qi];try (repeat' first|(with_reducible apply aiA)|(apply qh;omega)|(apply qg;rfl)|exact qk))
   ·obtain rfl:i=32:=by omega
    have k1:(((32:Nat):Int)<32)=False:=eqf om;rw[eL];simp (disch:=omega) only[k1,go_sem]
    repeat' first
     |(apply qb;exact rvk;simp only[go_sem])
    exact qL ⟨qaE (fun _=>rfl) rfl,qk,trivial⟩
end RC
end
section
open Go Go.Proofs AF
def quA:List Nat:= [132,109,174,220,68]
def qxX:C:=
 ((C.ops [⟨some 8,none,.alloc 0 58 [i6 0,i6 0,i6 0,.bool false,.nl,.nl],[]⟩,MC 9 (i6 0)]).seq ((C.block 0 ((C.ops [MV 23 0,MV 24 1,O2 25 (.call 122 true) 23 24,BC 26
 .neq 25 (i6 0),MV 22 26]).seq (C.cond (.t 22) ((C.ops [⟨some 27,none,.build [i6 0,i6 0,i6 0,.bool false,.nl,.nl] [],[]⟩,ST 6 8 27,MC 9 (i6 1)]).seq C.ret) ((C.ops [MV 29
 3,BC 30 .lss 29 (i6 0),MV 31 30,MG 32 31 false 3,MG 33 31 false 2,P1 34 31 false .len 33,P2 35 31 false (.bin .geq) 32 34,PT 36 31 35,MV 28 36]).seq (C.cond (.t 28) ((C.ops
 [⟨some 37,none,.build [i6 0,i6 0,i6 0,.bool false,.nl,.nl] [],[]⟩,ST 6 8 37,MC 9 (i6 6)]).seq C.ret) C.skip))))).seq ((C.ops [MV 38 2,MV 39 3,O2 40 (.idxA 6) 38 39,O1
 41 (.load (some 6)) 40,⟨some 10,none,.alloc 1 58 [i6 0,i6 0,i6 0,.bool false,.nl,.nl],[]⟩,ST 6 10 41]).seq ((C.ops [⟨some 11,none,.alloc 2 183 [.bool false,.bool
 false,.bool false,.bool false,.bool false,.bool false,.bool false,.bool false,.bool false,.bool false,.bool false,.bool false,.bool false,.bool false,.bool false,
 .bool false,.bool false,.bool false,.bool false,.bool false,.bool false,.bool false,.bool false,.bool false,.bool false,.bool false,.bool false,.bool false,.bool
 false,.bool false,.bool false,.bool false],[]⟩]).seq (((C.ops [MV 42 2,O1 43 .len 42,MC 44 (i6 0)]).seq (C.block 1 ((C.ops [BI 45 .lss 44 43]).seq ((C.cond (.t 45) C.skip
 (C.exit 1)).seq ((C.block 2 ((C.ops [O2 46 (.idxA 6) 42 44,O1 47 (.load (some 6)) 46,⟨some 13,none,.alloc 3 58 [i6 0,i6 0,i6 0,.bool false,.nl,.nl],[]⟩,ST 6 13 47]).seq
 (((C.ops [O1 48 (.fldA 1) 13,LD 49 48,O1 50 (.fldA 1) 10,LD 51 50,BI 52 .neq 49 51,MV 53 52,P1 54 53 false (.fldA 2) 13,P1 55 53 false (.load none) 54,P1 56 53 false (.fldA
 2) 10,P1 57 53 false (.load none) 56,P2 58 53 false (.bin .neq) 55 57,PT 59 53 58]).seq (C.cond (.t 59) (C.exit 2) C.skip)).seq ((C.ops [MV 61 0,MV 62 1,O1 63 (.load (some 6))
 13,ON 64 (.call 62 true) [.t 61,.t 62,.t 63],MV 60 64,O1 65 (.ext 0) 60,O1 66 (.ext 1) 60,MV 14 65,MV 15 66]).seq (((C.ops [MV 67 15,BC 68 .neq 67 (i6 0)]).seq (C.cond (.t
 68) ((C.ops [⟨some 69,none,.build [i6 0,i6 0,i6 0,.bool false,.nl,.nl] [],[]⟩,MV 70 15,ST 6 8 69,MV 9 70]).seq C.ret) C.skip)).seq ((C.ops [MV 71 14,O1 72 .len 71,MC
 73 (i6 0)]).seq (C.block 3 ((C.ops [BI 74 .lss 73 72]).seq ((C.cond (.t 74) C.skip (C.exit 3)).seq ((C.block 4 ((C.ops [O2 75 (.idxA 1) 71 73,LD 76 75,MV 17 76]).seq (C.ops [MV
 77 17,O2 78 (.idxArr 32 1) 11 77,⟨none,none,.store 1,[.t 78,.c (.bool true)]⟩]))).seq (C.ops [BC 79 .add 73 (i6 1),MV 73 79])))).loop))))))).seq (C.ops [BC 80 .add 44 (i6
 1),MV 44 80])))).loop)).seq ((C.ops [O1 81 (.fldA 3) 10,LD 82 81,O1 83 (.un UnOp.not) 82,O1 84 (.fldA 3) 10,ST 1 84 83]).seq ((C.ops [O1 85 (.fldA 4) 10,⟨none,none,.store
 1,[.t 85,.c .nl]⟩]).seq (((C.ops [O1 86 (.fldA 3) 10,LD 87 86,O1 88 (.un UnOp.not) 87]).seq (C.cond (.t 88) ((C.ops [O1 89 (.load (some 6)) 10,ST 6 8 89,MC 9 (i6 0)]).seq
 C.ret) C.skip)).seq ((C.ops [ON 18 (.nilo 4 1 3) []]).seq (((C.ops [MV 90 0,O1 91 .len 90,MC 92 (i6 0)]).seq (C.block 5 ((C.ops [BI 93 .lss 92 91]).seq ((C.cond (.t 93) C.skip
 (C.exit 5)).seq ((C.block 6 ((C.ops [MV 94 92,MV 19 94]).seq ((C.ops [MV 95 19,O2 96 (.idxArr 32 1) 11 95,LD 97 96,O1 98 (.un UnOp.not) 97]).seq (C.cond (.t 98) (C.ops [MV 99
 18,MV 100 19,⟨some 101,none,.bslc 5 1 1 3 [i6 0] [(0,1)],[.t 100]⟩,O2 102 (.app 6 1 3 8) 99 101,MV 18 102]) C.skip)))).seq (C.ops [BC 103 .add 92 (i6 1),MV 92
 103])))).loop)).seq ((C.wk.seq (C.ops [MV 105 0,MV 106 1,MV 107 18,ON 108 (.call 142 true) [.t 105,.t 106,.t 107],MV 104 108,O1 109 (.ext 0) 104,O1 110 (.ext 1) 104,MV 20
 109,MV 21 110])).seq (((C.ops [MV 111 21,BC 112 .neq 111 (i6 0)]).seq (C.cond (.t 112) ((C.ops [⟨some 113,none,.build [i6 0,i6 0,i6 0,.bool false,.nl,.nl] [],[]⟩,MV 114
 21,ST 6 8 113,MV 9 114]).seq C.ret) C.skip)).seq ((C.ops [MV 115 20,O1 116 (.fldA 4) 10,ST 1 116 115]).seq ((C.ops [O1 117 (.load (some 6)) 10,ST 6 8 117,MC 9 (i6 0)]).seq
 C.ret))))))))))))))
theorem qpF:qB Tryz.prog 67 118 7 [RV.cell 8 (some 6),RV.tmp 9] qxX:=fi Tryz.f67 [8,10,11,13,18,101,102] quA [31]
end
section
open Go Go.Proofs AF HY LN
namespace RC
def smE(l:List En)(o:En)(j:Nat):Bool:=decide ((l.getD j default).frm=o.frm)&&decide ((l.getD j default).to=o.to)
def trF(VE:En→Int)(l:List En)(o:En)(j:Nat):Int:=if smE l o j=true then VE (l.getD j default) else 0
def vrB(VL:En→List Int)(l:List En)(o:En):Nat→Nat→Bool
 |0,_=>false
 |j+1,k=>vrB VL l o j k||(smE l o j&&decide ((k:Int)∈VL (l.getD j default)))
def qsz(names:List Str)(VL:En→List Int)(l:List En)(o:En):List Int:=qT (fun k=> !vrB VL l o l.length k) names.length
def trE(names:List Str)(gs:List Gr)(VE:En→Int)(l:List En)(i:Int):Int:=
 if sgE names gs≠0 then 1 else if i<0∨(l.length:Int)≤i then 6 else qaZ (trF VE l (l.getD i.toNat default)) 0 l.length
def zrE:En:=⟨0,0,0,false,[],[]⟩
def tnE(names:List Str)(gs:List Gr)(VL:En→List Int)(l:List En)(o:En):En:=
 if o.pos=true then { o with pos:=false,sup:= [] } else { o with pos:=true,sup:=shR names gs (qsz names VL l o) }
def trR(names:List Str)(gs:List Gr)(VE:En→Int)(VL:En→List Int)(l:List En)(i:Int):En:=
 if trE names gs VE l i=0 then tnE names gs VL l (l.getD i.toNat default) else zrE
def bvC(p:Nat→Bool):List AV:=(List.range 32).map fun k=> .bool (p k)
theorem kT(p:Nat→Bool):(bvC p).length=32:=by simp[bvC]
theorem qcy{p:Nat→Bool}{n:Nat}(hn:n<32):(bvC p)[n]? =some (.bool (p n)):=by
 unfold bvC;rw[List.getElem?_map,List.getElem?_range hn];rfl
theorem qs1{p:Nat→Bool}{n:Nat}(hn:n<32):List.take n (bvC p)++ [AV.bool true]++List.drop (n+1) (bvC p)=bvC fun k=>p k||decide (k=n):=by
 refine List.ext_getElem? fun k=> ?_
 by_cases hk:k<32
 ·rw[qcy hk]
  by_cases h1:k<n
  ·rw[List.append_assoc,List.getElem?_append_left (by rw[List.length_take,kT];omega),List.getElem?_take_of_lt h1,qcy hk,dqf om,Bool.or_false]
  ·by_cases h2:k=n
   ·subst h2;rw[List.append_assoc,List.getElem?_append_right (by rw[List.length_take,kT];omega),List.length_take,kT,show k-min k 32=0 by omega,dqt rfl,Bool.or_true];rfl
   ·rw[List.getElem?_append_right (by rw[lap,List.length_take,kT];simp only[lco,lnl];omega),lap,List.length_take,kT,List.getElem?_drop];simp only[lco,lnl];rw[show n+1+(k-(min n 32+(0+1)))=k by omega,qcy hk,dqf h2,Bool.or_false]
 ·rw[List.getElem?_eq_none (by simp only[lap,List.length_take,List.length_drop,kT,lco,lnl];omega),List.getElem?_eq_none (by rw[kT];omega)]
theorem qap{p q:Nat→Bool}(h: ∀k,k<32→p k=q k):bvC p=bvC q:=by
 unfold bvC;exact List.map_congr_left fun k hk=>by rw[h k (List.mem_range.1 hk)]
theorem qe9(p:Nat→Bool)(n:Nat):qai n (qT p n)=0:=by
 unfold qai;refine qz fun i hi=> ?_
 have hm:(qT p n).getD i 0∈qT p n:=by rw[gdqA,zp hi];exact List.getElem_mem hi
 obtain⟨k,e,hk,_⟩:=jk hm;unfold qbC;rw[ine om];rw[ine];rintro⟨h0,h1⟩;have hp:=List.pairwise_iff_getElem.1 (qd0 p n) (i-1) i om hi om;have g: ∀j (hj:j<(qT p n).length),(qT p n).getD j 0=(qT p n)[j]:=fun j hj=>by rw[gdqA,zp hj];rfl
 rw[g i hi,g (i-1) om]at h1;omega
theorem qE4(names:List Str)(gs:List Gr)(VE:En→Int)(VL:En→List Int)(l:List En)(i:Int)(h:List AObj)(hz:Szs names gs)(hl:l.length≤1000000000)
  (h8:sgE names gs=0→names.length≤8∧gs.length≤8) (hVL: ∀e,∀x∈VL e,0≤x∧x<32) (hVn: ∀e,(VL e).length≤1000)
  (c60: ∀j h,ACalls Tryz.prog 62 [strs names,qu gs,.agg (enC (l.getD j default))] h (.tup [ql (VL (l.getD j default)),.int .i64 (VE (l.getD j default))]) h):
  ACalls Tryz.prog 67 [strs names,qu gs,zg l,.int .i64 i] h (.tup [.agg (enC (trR names gs VE VL l i)),.int .i64 (trE names gs VE l i)]) h:=by
 have c59:=fun h=>sgP names gs h hz
 obtain⟨R,hR⟩: ∃R,R=trE names gs VE l i:=⟨_,rfl⟩
 have hLR:trR names gs VE VL l i=if R=0 then tnE names gs VL l (l.getD i.toNat default) else zrE:=by rw[hR];rfl
 rw[hLR,←hR];have hzr:VLe (.agg [.int .i64 0,.int .i64 0,.int .i64 0,.bool false,.nl,.nl]) (.agg (enC zrE)):=VLe.agg ⟨qk,qk,qk,qk,jf,jf,trivial⟩;unfold trE at hR;obtain⟨s,hs⟩: ∃s,s=sgE names gs:=⟨_,rfl⟩
 rw[←hs]at c59 hR h8
 by_cases g0:s≠0
 ·have k0:(s=0)=False:=eqf g0;rw[ipo g0]at hR;rw[hR,ine (by decide)];refine acO qpF ?_;simp (disch:=omega) only[qxX,go_sem]
  repeat' first
   |((first|refine cA (c59 _) ?_ ?_|refine cG (fun e=>c59 _) ?_ ?_|refine cU (fun _=>c59 _) ?_ ?_);exact flk;simp (disch:=omega) only[k0,go_sem])
   |((first|apply qb|apply qe);exact rvk;simp only[go_sem];first|exact qk|apply qh|apply qg|apply zV|skip)
   |with_reducible first|intro _|apply aiA
  all_goals try exact clz
  exact qL ⟨hzr,qk,trivial⟩
 have g0:s=0:=Classical.not_not.1 g0;have k0:(s=0)=True:=eqt g0;obtain⟨n8,g8⟩:=h8 g0;rw[ine (fun hc=>hc g0)]at hR
 by_cases g1:i<0
 ·have k1:(i<0)=True:=eqt g1;rw[ipo (.inl g1)]at hR;rw[hR,ine (by decide)];refine acO qpF ?_;simp (disch:=omega) only[qxX,zg,go_sem]
  repeat' first
   |((first|refine cA (c59 _) ?_ ?_|refine cG (fun e=>c59 _) ?_ ?_|refine cU (fun _=>c59 _) ?_ ?_);exact flk;simp (disch:=omega) only[k0,k1,zg,go_sem])
   |((first|apply qb|apply qe);exact rvk;simp only[go_sem];first|exact qk|apply qh|apply qg|apply zV|skip)
   |with_reducible first|intro _|apply aiA
  all_goals try exact clz
  exact qL ⟨hzr,qk,trivial⟩
 have k1:(i<0)=False:=eqf g1
 by_cases g2:(l.length:Int)≤i
 ·have k2:((l.length:Int)≤i)=True:=eqt g2;rw[ipo (.inr g2)]at hR;rw[hR,ine (by decide)];refine acO qpF ?_;simp (disch:=omega) only[qxX,zg,go_sem]
  repeat' first
   |((first|refine cA (c59 _) ?_ ?_|refine cG (fun e=>c59 _) ?_ ?_|refine cU (fun _=>c59 _) ?_ ?_);exact flk;simp (disch:=omega) only[k0,k1,k2,zg,go_sem])
   |((first|apply qb|apply qe);exact rvk;simp only[go_sem];first|exact qk|apply qh|apply qg|apply zV|skip)
   |with_reducible first|intro _|apply aiA
  all_goals try exact clz
  exact qL ⟨hzr,qk,trivial⟩
 have k2:((l.length:Int)≤i)=False:=eqf g2;rw[ine (fun hc=>hc.elim g1 g2)]at hR;have k3:(0≤i)=True:=eqt om;have k4:(i<l.length)=True:=eqt om;obtain⟨o,ho⟩: ∃o,o=l.getD i.toNat default:=⟨_,rfl⟩
 have eo:=ho.symm;rw[eo]at hR ⊢;refine acO qpF ?_;simp (disch:=omega) only[qxX,zg,enC,go_sem]
 repeat' first
  |((first|refine cA (c59 _) ?_ ?_|refine cG (fun e=>c59 _) ?_ ?_|refine cU (fun _=>c59 _) ?_ ?_);exact flk;simp (disch:=omega) only[k0,k1,k2,k3,k4,zg,enC,eo,go_sem])
  |((first|apply qb|apply qe);exact rvk;simp only[go_sem];first|exact qk|apply qh|apply qg|apply zV|skip)
  |with_reducible first|intro _|apply aiA
 all_goals try exact clz
 have e0:List.replicate 32 (AV.bool false)=bvC (vrB VL l o 0):=rfl;simp only[List.replicate]at e0
 try rw[e0]
 refine qn (T:=fun j:Nat×AObj=>qI 118 [(0,strs names),(1,qu gs),(8,.op h.length 1 0),(10,.op (h.length+1) 1 0),(11,.op (h.length+2) 1 0),(42,zg l),(43,.int .i64 l.length),(44,.int .i64 j.1)])
  (H:=fun j=>h++ [.mem 1 58 [.int .i64 0,.int .i64 0,.int .i64 0,.bool false,.nl,.nl],.mem 1 58 [.int .i64 o.layer,.int .i64 o.frm,.int .i64 o.to,.bool o.pos,strs o.sup,qW o.vars],.mem 1 183 (bvC (vrB VL l o j.1)),j.2,.emp 0,.emp 0,.emp 0])
  (inv:=fun j=>j.1≤l.length∧qC [j.2] 0=true∧ ∀k,k<j.1→trF VE l o k=0) (m:=fun j=>l.length-j.1) (0,.emp 0) ⟨nzl _,rfl,fun j hj=>absurd hj (nnz j)⟩ (Wk.temps ?_) ?_
 ·(simp only[strs,zg,enC,go_sem,qj,qd,qa,qi];try (repeat' first|(with_reducible apply aiA)|(apply qh;omega)|(apply qg;rfl)|exact qk))
 rintro⟨j,O⟩ ⟨j1,j2,j3⟩ K hK;simp only at j1 j2 j3 hK;have j2': ∀m,qC (O::m) 0=true:=fun _=>j2
 by_cases hj:j<l.length
 ·have r1:((j:Int)<l.length)=True:=eqt om;have r0:(0≤(j:Int))=True:=eqt om;have hE:=qO (f:=trF VE l o) hj j3;have hf:trF VE l o j=if smE l o j=true then VE (l.getD j default) else 0:=rfl
  have hsm:smE l o j=(decide ((l.getD j default).frm=o.frm)&&decide ((l.getD j default).to=o.to)):=rfl;have hst: ∀k,vrB VL l o (j+1) k=(vrB VL l o j k||(smE l o j&&decide ((k:Int)∈VL (l.getD j default)))):=fun _=>rfl
  have c60j:=fun h=>c60 j h
  have hvl:=hVL (l.getD j default);have hvn:=hVn (l.getD j default);obtain⟨x,hx⟩: ∃x,x=l.getD j default:=⟨_,rfl⟩
  have ex:=hx.symm;simp only[ex]at hf hsm hst c60j hvl hvn;simp only[enC]at c60j
  by_cases a1:x.frm=o.frm
  case neg=>
   have q1:(x.frm=o.frm)=False:=eqf a1;rw[dqf a1,Bool.false_and]at hsm;rw[hsm,ine (by simp)]at hf;simp (disch:=omega) only[zg,enC,r0,r1,ex,j2',q1,go_sem]
   repeat' first
    |((first|apply qb|apply qe);exact rvk;simp only[go_sem];first|exact qk|apply qh|apply qg|apply zV|skip)
    |with_reducible first|intro _|apply aiA
   all_goals try exact clz
   refine hK _ _ (j+1,.mem (qr (some O)+1) 58 [.int .i64 x.layer,.int .i64 x.frm,.int .i64 x.to,.bool x.pos,strs x.sup,qW x.vars]) ⟨hj,rfl,fun k hk=> ?_⟩ (by simp only;omega) ?_
   ·by_cases e':k=j
    ·subst e';exact hf
    ·exact j3 k (by simp only at hk;omega)
   rw[show bvC (vrB VL l o (j+1))=bvC (vrB VL l o j)from qap fun k _=>by rw[hst,hsm];simp];refine Wk.temps ?_
   (simp only[zg,enC,go_sem,qj,qd,qa,qi];try (repeat' first|(with_reducible apply aiA)|(apply qh;omega)|(apply qg;rfl)|exact qk))
  by_cases a2:x.to=o.to
  case neg=>
   have q1:(x.frm=o.frm)=True:=eqt a1;have q2:(x.to=o.to)=False:=eqf a2;rw[dqf a2,Bool.and_false]at hsm;rw[hsm,ine (by simp)]at hf;simp (disch:=omega) only[zg,enC,r0,r1,ex,j2',q1,q2,go_sem]
   repeat' first
    |((first|apply qb|apply qe);exact rvk;simp only[go_sem];first|exact qk|apply qh|apply qg|apply zV|skip)
    |with_reducible first|intro _|apply aiA
   all_goals try exact clz
   refine hK _ _ (j+1,.mem (qr (some O)+1) 58 [.int .i64 x.layer,.int .i64 x.frm,.int .i64 x.to,.bool x.pos,strs x.sup,qW x.vars]) ⟨hj,rfl,fun k hk=> ?_⟩ (by simp only;omega) ?_
   ·by_cases e':k=j
    ·subst e';exact hf
    ·exact j3 k (by simp only at hk;omega)
   rw[show bvC (vrB VL l o (j+1))=bvC (vrB VL l o j)from qap fun k _=>by rw[hst,hsm];simp];refine Wk.temps ?_
   (simp only[zg,enC,go_sem,qj,qd,qa,qi];try (repeat' first|(with_reducible apply aiA)|(apply qh;omega)|(apply qg;rfl)|exact qk))
  have q1:(x.frm=o.frm)=True:=eqt a1;have q2:(x.to=o.to)=True:=eqt a2;rw[dqt a1,dqt a2]at hsm;rw[hsm,ipo (by rfl)]at hf;obtain⟨y,hy⟩: ∃y,y=VE x:=⟨_,rfl⟩
  obtain⟨V,hV⟩: ∃V,V=VL x:=⟨_,rfl⟩
  rw[←hy]at hf c60j;rw[←hV]at c60j hvl hvn;simp only[←hV,hsm,Bool.and_self,Bool.true_and]at hst
  by_cases a3:y≠0
  ·have q3:(y=0)=False:=eqf a3;rw[hE (by rw[hf];exact a3),hf]at hR;rw[hR,ine a3];simp (disch:=omega) only[zg,enC,r0,r1,ex,j2',q1,q2,go_sem]
   repeat' first
    |((first|refine cA (c60j _) ?_ ?_|refine cG (fun e=>c60j _) ?_ ?_|refine cU (fun _=>c60j _) ?_ ?_);exact flk;simp (disch:=omega) only[zg,enC,r0,r1,ex,j2',q1,q2,q3,go_sem])
    |((first|apply qb|apply qe);exact rvk;simp only[go_sem];first|exact qk|apply qh|apply qg|apply zV|skip)
    |with_reducible first|intro _|apply aiA
   all_goals try exact clz
   exact qL ⟨hzr,qk,trivial⟩
  have a3:y=0:=Classical.not_not.1 a3;have q3:(y=0)=True:=eqt a3;have zV1: ∀g,valL g .len [ql V]= .int .i64 V.length:=fun _=>rfl
  have zV2: ∀g,okL g .len [ql V]=True:=fun _=>eqt trivial
  simp (disch:=omega) only[zg,enC,r0,r1,ex,j2',q1,q2,go_sem]
  repeat' first
   |((first|refine cA (c60j _) ?_ ?_|refine cG (fun e=>c60j _) ?_ ?_|refine cU (fun _=>c60j _) ?_ ?_);exact flk;simp (disch:=omega) only[zg,enC,r0,r1,ex,j2',q1,q2,q3,zV1,zV2,go_sem])
   |((first|apply qb|apply qe);exact rvk;simp only[go_sem];first|exact qk|apply qh|apply qg|apply zV|skip)
   |with_reducible first|intro _|apply aiA
  all_goals try exact clz
  obtain⟨pf,hpf⟩: ∃pf:Nat→Nat→Bool,pf=fun m k=>vrB VL l o j k||decide ((k:Int)∈V.take m):=⟨_,rfl⟩
  have p0:bvC (pf 0)=bvC (vrB VL l o j):=qap fun k _=>by rw[hpf];simp
  rw[←p0];refine qn (T:=fun m:Nat=>qI 118 [(0,strs names),(1,qu gs),(8,.op h.length 1 0),(10,.op (h.length+1) 1 0),(11,.op (h.length+2) 1 0),(42,zg l),(43,.int .i64 l.length),(44,.int .i64 j),(71,ql V),(72,.int .i64 V.length),(73,.int .i64 m)])
   (H:=fun m=>h++ [.mem 1 58 [.int .i64 0,.int .i64 0,.int .i64 0,.bool false,.nl,.nl],.mem 1 58 [.int .i64 o.layer,.int .i64 o.frm,.int .i64 o.to,.bool o.pos,strs o.sup,qW o.vars],.mem 1 183 (bvC (pf m)),.mem (qr (some O)+1) 58 [.int .i64 x.layer,.int .i64 x.frm,.int .i64 x.to,.bool x.pos,strs x.sup,qW x.vars],.emp 0,.emp 0,.emp 0])
   (inv:=fun m=>m≤V.length) (m:=fun m=>V.length-m) 0 (nzl _) (Wk.temps ?_) ?_
  ·(simp only[strs,zg,enC,go_sem,qj,qd,qa,qi];try (repeat' first|(with_reducible apply aiA)|(apply qh;omega)|(apply qg;rfl)|exact qk))
  rintro m m1 KA hKA;have zv: ∀X:List Int,ql X= .sl X.length fun i=> [.int .i64 (X.getD i 0)]:=fun _=>rfl
  by_cases hm:m<V.length
  ·have t1:((m:Int)<V.length)=True:=eqt om;have t0:(0≤(m:Int))=True:=eqt om;have hmm:V.getD m 0∈V:=by rw[gdqA,zp hm];exact List.getElem_mem hm
   obtain⟨b0,b1⟩:=hvl _ hmm;have htk:=zS hm;obtain⟨w,hw⟩: ∃w,w=V.getD m 0:=⟨_,rfl⟩
   have ew:=hw.symm;rw[ew]at b0 b1 htk;obtain⟨u,rfl⟩: ∃u:Nat,w=(u:Int):=⟨w.toNat,om⟩
   have u32:u<32:=by omega
   have t2:(0≤(u:Int))=True:=eqt om;have t3:((u:Int)<32)=True:=eqt om;have t4:(u<32)=True:=eqt u32;have t5:(u+1≤32)=True:=eqt u32;have gl:=kT (pf m);have gs1:=qs1 (p:=pf m) u32;have gg:=qcy (p:=pf m) u32;have hpn:(bvC fun k=>pf m k||decide (k=u))=bvC (pf (m+1)):=qap fun k _=>by
    rw[hpf];simp only;rw[htk,Bool.or_assoc,←Bool.decide_or];congr 1;refine decide_eq_decide.2 ?_;rw[List.mem_append,List.mem_singleton];constructor
    ·rintro (h1|h1)
     ·exact .inl h1
     ·exact .inr om
    ·rintro (h1|h1)
     ·exact .inl h1
     ·exact .inr om
   simp (disch:=omega) only[zv,t0,t1,t2,t3,t4,t5,ew,gl,gs1,gg,Nat.mul_one,Nat.zero_add,itn,Option.isSome_some,go_sem]
   repeat' first
    |((first|apply qb|apply qe);exact rvk;simp only[go_sem];first|exact qk|apply qh|apply qg|apply zV|skip)
    |with_reducible first|intro _|apply aiA
   all_goals try exact clz
   try rw[hpn]
   refine hKA _ _ (m+1) hm om (Wk.temps ?_)
   (simp only[strs,zg,enC,zv,go_sem,qj,qd,qa,qi];try (repeat' first|(with_reducible apply aiA)|(apply qh;omega)|(apply qg;rfl)|exact qk))
  ·obtain rfl:m=V.length:=by omega
   have t1:((V.length:Int)<V.length)=False:=eqf om;simp (disch:=omega) only[t1,go_sem]
   repeat' first
    |((first|apply qb|apply qe);exact rvk;simp only[go_sem];first|exact qk|apply qh|apply qg|apply zV|skip)
    |with_reducible first|intro _|apply aiA
   all_goals try exact clz
   refine hK _ _ (j+1,.mem (qr (some O)+1) 58 [.int .i64 x.layer,.int .i64 x.frm,.int .i64 x.to,.bool x.pos,strs x.sup,qW x.vars]) ⟨hj,rfl,fun k hk=> ?_⟩ (by simp only;omega) ?_
   ·by_cases e':k=j
    ·subst e';rw[hf];exact a3
    ·exact j3 k (by simp only at hk;omega)
   rw[show bvC (vrB VL l o (j+1))=bvC (pf V.length)from qap fun k _=>by rw[hst,hpf];simp only;rw[List.take_length]];refine Wk.temps ?_
   (simp only[zg,enC,go_sem,qj,qd,qa,qi];try (repeat' first|(with_reducible apply aiA)|(apply qh;omega)|(apply qg;rfl)|exact qk))
 obtain rfl:j=l.length:=by omega
 have r1:((l.length:Int)<l.length)=False:=eqf om;rw[qz (f:=trF VE l o) j3]at hR;rw[hR,ipo rfl];unfold tnE;cases hpos:o.pos with
 |true=>
  rw[ipo rfl];simp (disch:=omega) only[r1,go_sem]
  repeat' first
   |((first|apply qb|apply qe);exact rvk;simp only[go_sem];first|exact qk|apply qh|apply qg|apply zV|skip)
   |with_reducible first|intro _|apply aiA
  all_goals try exact clz
  exact qL ⟨VLe.agg ⟨qk,qk,qk,qk,jf,qk,trivial⟩,qk,trivial⟩
 |false=>
 rw[ine (by simp)];clear hK;obtain⟨pB,hpB⟩: ∃pB:Nat→Bool,pB=fun k=> !vrB VL l o l.length k:=⟨_,rfl⟩
 have hrst:qsz names VL l o=qT pB names.length:=by rw[hpB];rfl
 have hpk: ∀k,pB k= !vrB VL l o l.length k:=fun k=>by rw[hpB]
 obtain⟨vb,hvb⟩: ∃vb,vb=vrB VL l o l.length:=⟨_,rfl⟩
 simp only[←hvb]at hpk;have zn1: ∀g,valL g .len [strs names]= .int .i64 names.length:=fun _=>rfl
 have zn2: ∀g,okL g .len [strs names]=True:=fun _=>eqt trivial
 rw[←hvb];simp (disch:=omega) only[r1,zn1,zn2,go_sem]
 repeat' first
  |((first|apply qb|apply qe);exact rvk;simp only[go_sem];first|exact qk|apply qh|apply qg|apply zV|skip)
  |with_reducible first|intro _|apply aiA
 all_goals try exact clz
 refine qn (T:=fun s:Nat×Nat×AObj=>qI 118 [(0,strs names),(1,qu gs),(8,.op h.length 1 0),(10,.op (h.length+1) 1 0),(11,.op (h.length+2) 1 0),(18,.osl (h.length+4) s.2.1 1 0 (qT pB s.1).length),(91,.int .i64 names.length),(92,.int .i64 s.1)])
  (H:=fun s=>h++ [.mem 1 58 [.int .i64 0,.int .i64 0,.int .i64 0,.bool false,.nl,.nl],.mem 1 58 [.int .i64 o.layer,.int .i64 o.frm,.int .i64 o.to,.bool true,.nl,qW o.vars],.mem 1 183 (bvC vb),O,zP s.2.1 3 (qp (qT pB s.1)),s.2.2,.emp 0])
  (inv:=fun s=>s.1≤names.length∧qC [s.2.2] 0=true) (m:=fun s=>names.length-s.1) (0,1,.emp 0) ⟨nzl _,rfl⟩ (Wk.temps ?_) ?_
 ·(simp only[strs,qT,List.range_zero,List.filter_nil,lnl,List.map_nil,go_sem,qj,qd,qa,qi];try (repeat' first|(with_reducible apply aiA)|(apply qh;omega)|(apply qg;rfl)|exact qk))
 rintro⟨k,v,O5⟩ ⟨m1,m2⟩ KA hKA;simp only at m1 m2 hKA;have m2': ∀m,qC (O5::m) 0=true:=fun _=>m2
 have hst:=zH pB k;have hll:=qN pB k;have hp:=hpk k
 by_cases hk:k<names.length
 ·have t1:((k:Int)<names.length)=True:=eqt om;have t2:(0≤(k:Int))=True:=eqt om;have t3:((k:Int)<32)=True:=eqt om;have t4:(k<32)=True:=eqt om;have gl:=kT vb;have gg:=qcy (p:=vb) (n:=k) om;obtain⟨L,hL⟩: ∃L,L=qT pB k:=⟨_,rfl⟩
  rw[←hL]at hst hll;have eL:=hL.symm;have eC:=qy L;have eTk:List.take L.length (qp L)=qp L:=ltl om;cases hb:vb k with
  |false=>
   rw[hb]at gg hp;rw[hp,ipo (by rfl)]at hst;simp (disch:=omega) only[t1,t2,t3,t4,gl,gg,m2',eL,Nat.mul_one,Nat.zero_add,itn,Option.isSome_some,Option.getD_some,go_sem]
   repeat' first
    |((first|apply qb|apply qe);exact rvk;simp only[go_sem];first|exact qk|apply qh|apply qg|apply zV|skip)
    |with_reducible first|intro _|apply aiA
   all_goals try exact clz
   have eA:qp L++ [AV.int .i64 (k:Int)]=qp (qT pB (k+1)):=by rw[hst,qR];rfl
   try rw[eTk]
   try rw[eA]
   refine hKA _ _ (k+1,v+1,.mem (qr (some O5)+1) 3 [.int .i64 (k:Int)]) ⟨hk,rfl⟩ (by simp only;omega) ?_;simp only[hst,lap,lco,lnl];refine Wk.temps ?_
   (simp only[strs,go_sem,qj,qd,qa,qi];try (repeat' first|(with_reducible apply aiA)|(apply qh;omega)|(apply qg;rfl)|exact qk))
  |true=>
   rw[hb]at gg hp;rw[hp,ine (by simp),lan]at hst;simp (disch:=omega) only[t1,t2,t3,t4,gl,gg,m2',eL,Nat.mul_one,Nat.zero_add,itn,Option.isSome_some,Option.getD_some,go_sem]
   repeat' first
    |((first|apply qb|apply qe);exact rvk;simp only[go_sem];first|exact qk|apply qh|apply qg|apply zV|skip)
    |with_reducible first|intro _|apply aiA
   all_goals try exact clz
   refine hKA _ _ (k+1,v,O5) ⟨hk,m2⟩ (by simp only;omega) ?_;simp only[hst];refine Wk.temps ?_
   (simp only[strs,go_sem,qj,qd,qa,qi];try (repeat' first|(with_reducible apply aiA)|(apply qh;omega)|(apply qg;rfl)|exact qk))
 ·obtain rfl:k=names.length:=by omega
  have t1:((names.length:Int)<names.length)=False:=eqf om;simp (disch:=omega) only[t1,go_sem]
  repeat' first
   |((first|apply qb|apply qe);exact rvk;simp only[go_sem];first|exact qk|apply qh|apply qg|apply zV|skip)
   |with_reducible first|intro _|apply aiA
  all_goals try exact clz
  obtain⟨r,hr⟩: ∃r,r=qT pB names.length:=⟨_,rfl⟩
  have hse:qbJ names gs r=0:=by
   unfold qbJ;rw[←hs,ipo g0,hr];exact qe9 _ _
  have c61:=fun h=>qCO names gs r h hz (by rw[hr];omega) (fun _=>⟨n8,g8⟩)
  rw[hse]at c61;rw[hrst,←hr];refine⟨qI 118 [(0,strs names),(1,qu gs),(8,.op h.length 1 0),(10,.op (h.length+1) 1 0),(18,ql r)],_,Wk.trans (Wk.freeze [h.length+4] (by simp only[ju,go_sem])) (Wk.temps ?_),?_⟩
  ·(simp only[strs,List.map,go_sem,qj,qd,qa,qi];try (repeat' first|(with_reducible apply aiA)|(apply qh;omega)|(apply qg;rfl)|exact qk))
   ·rw[ine (by simp)];exact qk
   ·rw[ine (by simp)];exact qk
   ·rw[ipo (by simp),ipo (by simp)];exact qaE (fun _=>rfl) rfl
  simp only[qbs,List.map,go_sem]
  try simp (disch:=omega) only[go_sem]
  repeat' first
   |((first|refine cA (c61 _) ?_ ?_|refine cG (fun e=>c61 _) ?_ ?_|refine cU (fun _=>c61 _) ?_ ?_);exact flk;simp (disch:=omega) only[go_sem])
   |((first|apply qb|apply qe);exact rvk;simp only[go_sem];first|exact qk|apply qh|apply qg|apply zV|skip)
   |with_reducible first|intro _|apply aiA
  all_goals try exact clz
end RC
end
section
namespace Go.Proofs
open Go.Shelf
end Go.Proofs
end
section
open Go Go.Proofs Go.Sort AF HY LN
namespace RC
end RC
end
section
open Go Go.Proofs AF HY LN
namespace RC
theorem qsG{names:List Str}{gs:List Gr}{e:En}(h:vsE names gs e=0):vsL names gs e=(ke names gs (noS e) e.vars.length).1:=by
 have hi:=qjE names gs (noS e) e.vars.length;have hp:(ke names gs (noS e) e.vars.length).1.Pairwise (· < ·):=by
  cases e.vars.length with
  |zero=>
   show (jC names gs []).Pairwise (· < ·);rw[qcf];exact List.Pairwise.nil
  |succ n=>rw[qaz];exact qd0 _ _
 unfold vsL;rw[ipo h];refine qAm (qd0 _ _) hp fun x=> ?_
 rw[qbe];constructor
 ·rintro⟨k,hk,hb,rfl⟩;have hb:=of_decide_eq_true hb;unfold vsC at hb;exact (hi.mem k hk).2 om
 ·intro hx;obtain⟨x0,x1⟩:=hi.rng x hx;have h1:=(hi.mem x.toNat om).1 (by rw[show ((x.toNat:Nat):Int)=x by omega];exact hx);refine⟨x.toNat,om,?_,om⟩;exact dqt (by unfold vsC;omega)
theorem vsR(names:List Str)(gs:List Gr)(e:En)(h:List AObj)(hz:Szs names gs)(hv:e.vars.length≤1000000000)(hsg: ∀i,(e.vars.getD i default).sigla.length≤1000000)(hgm: ∀i,(gs.getD i default).mem.length≤1000):
  ACalls Tryz.prog 72 [strs names,qu gs,.agg (enC e)] h (.tup [ql (vsL names gs e),.int .i64 (vsE names gs e)]) h:=by
 have c49:=fun h=>sgR names gs h hz
 obtain⟨R,hR⟩: ∃R,R=vsE names gs e:=⟨_,rfl⟩
 have hLR:vsL names gs e=if R=0 then (ke names gs (noS e) e.vars.length).1 else []:=by
  rw[hR];split
  ·rename_i h;exact qsG h
  ·rename_i h;unfold vsL;rw[ine h]
 rw[hLR,←hR];unfold vsE at hR;obtain⟨s,hs⟩: ∃s,s=sgE names gs:=⟨_,rfl⟩
 rw[←hs]at c49 hR
 by_cases g0:s≠0
 ·have k0:(s=0)=False:=eqf g0;rw[ipo g0]at hR;rw[hR,ine (by decide)];refine acO qzQ ?_;simp (disch:=omega) only[qBV,enC,go_sem]
  repeat' first
   |(refine cA (c49 _) flk ?_;simp (disch:=omega) only[k0,go_sem])
   |(apply qb;exact rvk;simp only[go_sem])
  first|exact zu|exact qL ⟨zu,qk,trivial⟩
 have g0:s=0:=Classical.not_not.1 g0;have k0:(s=0)=True:=eqt g0;rw[ine (fun hc=>hc g0)]at hR;refine acO qzQ ?_;simp (disch:=omega) only[qBV,enC,qW,go_sem]
 repeat' first
  |(refine cA (c49 _) flk ?_;simp (disch:=omega) only[k0,go_sem])
 have a0:(ke names gs (noS e) 0).1= []:=qcf names gs;have a1:(ke names gs (noS e) 0).2=false:=rfl;refine qn (T:=fun i:Nat=>qI 62 [(0,strs names),(1,qu gs),(5,.op h.length 1 0),(8,ql (ke names gs (noS e) i).1),(9,.bool (ke names gs (noS e) i).2),(10,.int .i64 i)])
  (H:=fun i=>h++ [.mem 1 58 [.int .i64 e.layer,.int .i64 e.frm,.int .i64 e.to,.bool e.pos,strs e.sup,qW e.vars],.emp 1,.emp 2])
  (inv:=fun i=>i≤e.vars.length∧ ∀j,j<i→kx names gs (e.vars.getD j default).sigla=0) (m:=fun i=>e.vars.length-i) 0 ⟨nzl _,fun j hj=>absurd hj (nnz j)⟩ (Wk.trans (Wk.freeze [h.length+2] (by simp only[ju,go_sem])) ?_) ?_
 ·rw[a0,a1];simp only[qbs,List.map,go_sem];refine Wk.temps ?_
  (simp only[strs,qu,ql,go_sem,qj,qd,qa,qi];try (repeat' first|(with_reducible apply aiA)|(apply qh;omega)|(apply qg;rfl)|exact qk))
  ·rw[ine (by simp)];exact qk
  ·rw[ipo (by simp),ipo (by simp),ipo (nzl _)];exact VLe.sl_eq rfl (fun i hi=>absurd hi (by simp))
 rintro m ⟨m1,m2⟩ K2 hK2;obtain⟨sa1,sa2⟩:=qfH names gs (noS e) m;have hac:=qaz names gs (noS e) m;have hac:ke names gs (noS e) (m+1)=(qT (fun k=>decide ((k:Int)∈(ke names gs (noS e) m).1)||decide ((k:Int)∈jC names gs (e.vars.getD m default).sigla)) 64,(ke names gs (noS e) m).2||(ke names gs (noS e) m).1.any fun x=>decide (x∈jC names gs (e.vars.getD m default).sigla)):=hac;obtain⟨A,hA⟩: ∃A,A=(ke names gs (noS e) m).1:=⟨_,rfl⟩
 obtain⟨B,hB⟩: ∃B,B=(ke names gs (noS e) m).2:=⟨_,rfl⟩
 have eA:=hA.symm;have eB:=hB.symm;rw[eA]at sa1 sa2;rw[eA,eB]at hac
 by_cases hm:m<e.vars.length
 ·have s1:((m:Int)<e.vars.length)=True:=eqt om;have hE:=qO (f:=fun i=>kx names gs (e.vars.getD i default).sigla) hm m2;have c28b:=fun h=>qua names gs (e.vars.getD m default).sigla h hz (hsg m) hgm
  have ho:=qcg names gs (e.vars.getD m default).sigla;obtain⟨x,hx⟩: ∃x,x=e.vars.getD m default:=⟨_,rfl⟩
  have ex:=hx.symm;simp only[ex]at hE c28b hac ho;obtain⟨q,hq⟩: ∃q,q=kx names gs x.sigla:=⟨_,rfl⟩
  obtain⟨O,hO⟩: ∃O,O=jC names gs x.sigla:=⟨_,rfl⟩
  rw[←hq]at hE c28b;rw[←hO]at c28b hac ho;obtain⟨ho1,ho2⟩:=ho;have c70:=fun h=>qDz A O h om om sa1 ho1
  have c71:=fun h=>qCY A O h om om sa1 ho1
  have hfp:=qlm A O;obtain⟨F,hF⟩: ∃F,F=qf1 A O A.length:=⟨_,rfl⟩
  obtain⟨U,hU⟩: ∃U,U=qT (fun k=>decide ((k:Int)∈A)||decide ((k:Int)∈O)) 64:=⟨_,rfl⟩
  rw[←hF]at c70 hfp;rw[←hU]at c71 hac;unfold strs qu ql at c28b;unfold ql at c70 c71
  by_cases b2:q≠0
  ·have p2:(q=0)=False:=eqf b2;rw[hE b2,ipo b2]at hR;rw[hR,ine b2];simp (disch:=omega) only[strs,qu,qW,vaC,ql,s1,ex,eA,eB,go_sem]
   repeat' first
    |(refine cA (c28b _) flk ?_;simp (disch:=omega) only[p2,go_sem])
    |(apply qb;exact rvk;simp only[go_sem])
    |with_reducible apply aiA
   all_goals try exact clz
   first|exact zu|exact qL ⟨zu,qk,trivial⟩
  ·have b2:q=0:=Classical.not_not.1 b2;have p2:(q=0)=True:=eqt b2;have kF:((0:Int)<F.length)=(A.any (fun x=>decide (x∈O))=true):=by
    rw[←hfp];simp
   obtain⟨G,hG⟩: ∃G,G=A.any fun x=>decide (x∈O):=⟨_,rfl⟩
   rw[←hG]at kF hac;have fin: ∀B',B'=(B||G)→(ke names gs (noS e) (m+1)).1=U∧(ke names gs (noS e) (m+1)).2=B':=fun B' hb=>by rw[hac,hb];exact⟨rfl,rfl⟩
   have hi2: ∀j,j<m+1→kx names gs (e.vars.getD j default).sigla=0:=fun j hj=>by
    by_cases e':j=m
    ·subst e';rw[ex,←hq];exact b2
    ·exact m2 j om
   cases B with
   |true=>
    obtain⟨f1,f2⟩:=fin true rfl;simp (disch:=omega) only[strs,qu,qW,vaC,ql,s1,ex,eA,eB,go_sem]
    repeat' first
     |((first|refine cA (c28b _) ?_ ?_|refine cA (c70 _) ?_ ?_|refine cA (c71 _) ?_ ?_);exact flk;simp (disch:=omega) only[p2,go_sem])
     |with_reducible apply aiA
    all_goals try exact clz
    refine hK2 _ _ (m+1) ⟨hm,hi2⟩ om (Wk.temps ?_);rw[f1,f2]
    (simp only[strs,qu,ql,go_sem,qj,qd,qa,qi];try (repeat' first|(with_reducible apply aiA)|(apply qh;omega)|(apply qg;rfl)|exact qk))
   |false=>
    cases G with
    |true=>
     obtain⟨f1,f2⟩:=fin true rfl;have kF:((0:Int)<F.length)=True:=by rw[kF];simp
     simp (disch:=omega) only[strs,qu,qW,vaC,ql,s1,ex,eA,eB,go_sem]
     repeat' first
      |((first|refine cA (c28b _) ?_ ?_|refine cA (c70 _) ?_ ?_|refine cA (c71 _) ?_ ?_);exact flk;simp (disch:=omega) only[p2,kF,go_sem])
      |with_reducible apply aiA
     all_goals try exact clz
     refine hK2 _ _ (m+1) ⟨hm,hi2⟩ om (Wk.temps ?_);rw[f1,f2]
     (simp only[strs,qu,ql,go_sem,qj,qd,qa,qi];try (repeat' first|(with_reducible apply aiA)|(apply qh;omega)|(apply qg;rfl)|exact qk))
    |false=>
     obtain⟨f1,f2⟩:=fin false rfl;have kF:((0:Int)<F.length)=False:=by rw[kF];simp
     simp (disch:=omega) only[strs,qu,qW,vaC,ql,s1,ex,eA,eB,go_sem]
     repeat' first
      |((first|refine cA (c28b _) ?_ ?_|refine cA (c70 _) ?_ ?_|refine cA (c71 _) ?_ ?_);exact flk;simp (disch:=omega) only[p2,kF,go_sem])
      |with_reducible apply aiA
     all_goals try exact clz
     refine hK2 _ _ (m+1) ⟨hm,hi2⟩ om (Wk.temps ?_);rw[f1,f2]
     (simp only[strs,qu,ql,go_sem,qj,qd,qa,qi];try (repeat' first|(with_reducible apply aiA)|(apply qh;omega)|(apply qg;rfl)|exact qk))
 have s1:((m:Int)<e.vars.length)=False:=eqf om;obtain rfl:m=e.vars.length:=by omega
 rw[ine (fun hc=>hc (qz (f:=fun i=>kx names gs (e.vars.getD i default).sigla) (fun j hj=>m2 j hj)))]at hR;unfold vsC at hR;rw[qam,eB]at hR;cases B with
 |true=>
  rw[ipo rfl]at hR;rw[hR,ine (by decide)];simp (disch:=omega) only[strs,qu,qW,ql,s1,eB,go_sem]
  repeat' first
   |(apply qb;exact rvk;simp only[go_sem])
   |with_reducible apply aiA
  all_goals try exact clz
  first|exact zu|exact qL ⟨zu,qk,trivial⟩
 |false=>
  rw[ine (by simp)]at hR;rw[hR,ipo rfl];simp (disch:=omega) only[strs,qu,qW,ql,s1,eB,eA,go_sem]
  repeat' first
   |(apply qb;exact rvk;simp only[go_sem];exact qk)
   |with_reducible apply aiA
  all_goals try exact clz
theorem qvJ{names:List Str}{gs:List Gr}{e:En}{x:Int}(hx:x∈vsL names gs e):0≤x∧x<names.length:=by
 by_cases h:vsE names gs e=0
 ·rw[qsG h]at hx;have ht:(ke names gs (noS e) e.vars.length).2=false:=by
   unfold vsE at h;split at h
   ·cases h
   ·split at h
    ·rename_i h1;exact absurd h h1
    ·unfold vsC at h;rw[qam]at h;cases hb:(ke names gs (noS e) e.vars.length).2 with
     |false=>rfl
     |true=>rw[hb]at h;cases h
  rcases (qsN names gs (noS e) _ ht x).1 hx with h1|⟨j,_,h1⟩
  ·rw[show (noS e).sup= []from rfl,qcf]at h1;cases h1
  ·exact jl qg5.1 x h1
 ·unfold vsL at hx;rw[ine h]at hx;cases hx
theorem qdM{a b:En}:qcD a b=false↔a.to≤b.frm∧ ¬(a.frm=b.frm∧a.to=b.to):=by
 unfold qcD;rw[Bool.or_eq_false_iff,decide_eq_false_iff_not,Bool.and_eq_false_iff,decide_eq_false_iff_not,decide_eq_false_iff_not];omega
theorem qCJ{L:List En}(hs:L.Pairwise fun a b=>qgW b a=false)(hr: ∀e∈L,e.frm≤e.to)(hc:qar L=false):L.Pairwise fun a b=>qcD a b=false:=by
 induction L with
 |nil=>exact List.Pairwise.nil
 |cons a r ih=>
  have h0:=qnF hs hc;obtain⟨h1,h2⟩:=List.pairwise_cons.1 hs;have h3:=ih h2 (fun e he=>hr e (List.mem_cons_of_mem _ he)) (qdj hc);refine List.pairwise_cons.2 ⟨?_,h3⟩;cases r with
  |nil=>intro z hz;cases hz
  |cons b r=>
   have hab:qcD a b=false:=by
    rw[qar,Bool.or_eq_false_iff]at hc;exact hc.1
   intro z hz;have g0:=qa2.1 ((List.pairwise_cons.1 h0).1 z hz);rcases List.mem_cons.1 hz with rfl|hz'
   ·exact hab
   ·have g1:=qdM.1 ((List.pairwise_cons.1 h3).1 z hz');have g2:=qdM.1 hab;have g3:=hr b (by simp);rw[qdM];omega
theorem qg1: ∀ {L:List En},(L.Pairwise fun a b=>qcD a b=false)→qar L=false
 | [],_=>rfl
 | [_],_=>rfl
 |a::b::r,h=>by
  obtain⟨h1,h2⟩:=List.pairwise_cons.1 h;rw[qar,h1 b (by simp),qg1 h2];rfl
theorem qiB(names:List Str)(gs:List Gr)(l:List En)(src:Int)(p:En→Bool):ofE names gs (l.filter p) src=(ofE names gs l src).filter p:=by
 have h:=qeS qgY qgX p l [] List.Pairwise.nil;unfold ofE qwE;rw[List.filter_nil]at h;rw[←h,List.filter_reverse,List.filter_reverse,List.filter_reverse,List.filter_filter,List.filter_filter];congr 2;funext x;exact Bool.and_comm _ _
theorem qCG{names:List Str}{gs:List Gr}{t:List Str}{l:List En}(h:qwr names gs t l){s:Nat}(hs:s<names.length):(ofE names gs l (s:Int)).Pairwise fun a b=>qcD a b=false:=by
 refine qCJ (qiC names gs l s) (fun e he=> ?_) (qaJ h.cl hs);have h1:e∈qwE l:=(List.mem_filter.1 he).1;have h2:=qk1.1 (h.ck e ((qfv l).subset h1));exact h2.rng.2.1
theorem qwr.filter{names:List Str}{gs:List Gr}{t:List Str}{l:List En}(h:qwr names gs t l)(p:En→Bool):qwr names gs t (l.filter p):=
 ⟨h.sg,Nat.le_trans (List.length_filter_le _ _) h.n,fun e he=>h.ck e ((List.mem_filter.1 he).1),qo.2 fun s hs=>by
  rw[qiB]
  exact qg1 (List.Pairwise.filter _ (qCG h hs))⟩
theorem qnR(names:List Str)(gs:List Gr)(VL:En→List Int)(l:List En)(o:En):(tnE names gs VL l o).frm=o.frm∧(tnE names gs VL l o).to=o.to∧(tnE names gs VL l o).vars=o.vars∧(tnE names gs VL l o).layer=o.layer∧(tnE names gs VL l o).pos= !o.pos:=by
 unfold tnE;split
 ·rename_i h;exact⟨rfl,rfl,rfl,rfl,by rw[h];rfl⟩
 ·rename_i h;have h:o.pos=false:=by simpa using h
  exact⟨rfl,rfl,rfl,rfl,by rw[h];rfl⟩
def ofL(L:List En)(n:Int):List En:=L.filter fun e=>decide (e.layer=n)
end RC
end
section
open Go Go.Proofs AF
def zJ:List Nat:= []
def j6:C:=
 ((C.ops [O1 1 (.box 0 124) 0,MC 2 (i6 0)]).seq (((C.ops [O1 6 (.fldA 4) 1,LD 7 6,BC 8 .lss 7 (i6 0),MV 9 8,P1 10 9 false (.fldA 4) 1,P1 11 9 false (.load none) 10,PC 12 9
 false (.bin .gtr) 11 (i6 31),PT 13 9 12]).seq (C.cond (.t 13) ((C.ops [MC 2 (i6 2)]).seq C.ret) C.skip)).seq ((C.ops [O1 14 (.fldA 4) 1,LD 15 14,BC 16 .and 15 (i6 2),BC 17 .neq
 16 (i6 0),O1 18 (.fldA 4) 1,LD 19 18,BC 20 .and 19 (i6 8),BC 21 .neq 20 (i6 0),MV 3 17,MV 4 21]).seq (((C.ops [MV 22 3,MV 23 22,MG 24 23 true 4,PF 25 23 24]).seq (C.cond
 (.t 25) ((C.ops [MC 2 (i6 8)]).seq C.ret) C.skip)).seq ((C.ops [MC 5 (.fn (Fn.func 247) [] [])]).seq (((C.ops [MV 26 3]).seq (C.cond (.t 26) (C.ops [MC 5 (.fn (Fn.func 248) []
 [])]) C.skip)).seq (((C.ops [MV 27 4]).seq (C.cond (.t 27) (C.ops [MC 5 (.fn (Fn.func 249) [] [])]) C.skip)).seq ((C.block 0 (((C.ops [MV 29 5,O1 30 (.fldA 0) 1,LD 31 30,O2 32
 .callv 29 31,O1 33 (.un UnOp.not) 32,MV 28 33]).seq (C.cond (.t 28) C.skip ((C.ops [O1 34 (.load (some 6)) 1,O1 35 (.call 250 true) 34,MV 36 35,P1 37 36 true (.fldA 1) 1,P1
 38 36 true (.load none) 37,P1 39 36 true (.call 251 true) 38,P1 40 36 true (.un UnOp.not) 39,PF 41 36 40,MV 28 41]).seq (C.cond (.t 28) C.skip (C.ops [O1 42 (.load (some 6)) 1,
 O1 43 (.call 250 true) 42,O1 44 (.un UnOp.not) 43,MV 45 44,P1 46 45 true (.fldA 1) 1,P1 47 45 true (.load none) 46,P1 48 45 true (.fldA 0) 1,P1 49 45 true (.load none) 48,P2
 50 45 true (.bin .neq) 47 49,PF 51 45 50,MV 28 51]))))).seq (C.cond (.t 28) ((C.ops [MC 2 (i6 11)]).seq C.ret) ((C.ops [O1 53 (.fldA 2) 1,O1 54 (.fldA 1) 53,LD 55 54,BC 56
 .lss 55 (i6 0),MV 52 56]).seq (C.cond (.t 52) ((C.ops [MC 2 (i6 2)]).seq C.ret) ((C.ops [O1 58 (.fldA 2) 1,O1 59 (.fldA 0) 58,LD 60 59,O1 61 (.call 252 true) 60,O1 62 (.un
 UnOp.not) 61,MV 63 62,P1 64 63 false (.fldA 5) 1,P1 65 63 false (.load none) 64,P1 66 63 false (.call 252 true) 65,P1 67 63 false (.un UnOp.not) 66,PT 68 63 67,MV 57
 68]).seq (C.cond (.t 57) ((C.ops [MC 2 (i6 14)]).seq C.ret) C.skip))))))).seq ((C.ops [MC 2 (i6 0)]).seq
 C.ret)))))))))
theorem ja:qB Tryz.prog 207 69 1 [RV.tmp 2] j6:=fi Tryz.f207 [1] zJ []
def qdI:C:=
 ((C.ops [MC 2 (.bool false)]).seq (((C.ops [MV 5 0,O1 6 .slen 5,BC 7 .lss 6 (i6 3),MV 8 7,MG 9 8 false 0,PC 10 8 false .sidx 9 (i6 0),PC 11 8 false (.bin .neq) 10 (.int .u8
 91),PT 12 8 11,MV 13 12,MG 14 13 false 0,MG 15 13 false 0,P1 16 13 false .slen 15,PC 17 13 false (.bin .sub) 16 (i6 1),P2 18 13 false .sidx 14 17,PC 19 13 false (.bin .neq)
 18 (.int .u8 93),PT 20 13 19]).seq (C.cond (.t 20) ((C.ops [MC 2 (.bool false)]).seq C.ret) C.skip)).seq ((C.ops [MV 22 0,MV 23 0,O1 24 .slen 23,BC 25 .sub 24 (i6 1),ON 26
 (.sslc true true) [.t 22,.c (i6 1),.t 25],O1 27 (.call 291 true) 26,MV 21 27,O1 28 (.ext 0) 21,O1 29 (.ext 1) 21,MV 3 28,MV 4 29]).seq ((C.ops [MV 30 4,O1 31 (.isnil
 .iface false) 30,MV 32 31,MG 33 32 true 3,PC 34 32 true (.bin .geq) 33 (i6 1),PF 35 32 34,MV 36 35,MG 37 36 true 3,PC 38 36 true (.bin .leq) 37 (i6 64),PF 39 36 38,MV 40
 39,MG 41 40 true 0,MG 42 40 true 3,P1 43 40 true (.call 86 true) 42,PN 44 40 true (.bin .add) [.c (.str [91]),.t 43],PC 45 40 true (.bin .add) 44 (.str [93]),P2 46 40 true
 (.bin .eql) 41 45,PF 47 40 46,MV 2 47]).seq
 C.ret))))
theorem qbO:qB Tryz.prog 248 48 0 [RV.tmp 2] qdI:=fi Tryz.f248 [] zJ []
def qoQ:C:=
 ((C.ops [MC 2 (.bool false)]).seq (((C.ops [MV 4 0,O1 5 .slen 4,BC 6 .neq 5 (i6 1)]).seq (C.cond (.t 6) ((C.ops [MC 2 (.bool false)]).seq C.ret) C.skip)).seq ((C.ops [MV 7 0,OC
 8 .sidx 7 (i6 0),O1 9 (.call 285 true) 8,MV 3 9]).seq ((C.ops [MV 10 3,BC 11 .eql 10 (i6 5),MV 12 11,MG 13 12 false 3,PC 14 12 false (.bin .eql) 13 (i6 4),PT 15 12 14,MV 2
 15]).seq
 C.ret))))
theorem qlI:qB Tryz.prog 249 16 0 [RV.tmp 2] qoQ:=fi Tryz.f249 [] zJ []
def qxA:C:=
 ((C.ops [O1 1 (.box 0 124) 0,MC 2 (.bool false)]).seq ((C.ops [O1 3 (.fldA 4) 1,LD 4 3,BC 5 .and 4 (i6 10),BC 6 .eql 5 (i6 0),MV 2 6]).seq
 C.ret))
theorem qzk:qB Tryz.prog 250 7 1 [RV.tmp 2] qxA:=fi Tryz.f250 [1] zJ []
def qxB:C:=
 ((C.ops [MC 2 (.bool false)]).seq (((C.ops [MV 4 0,O1 5 .slen 4,MC 6 (i6 0)]).seq (C.block 0 ((C.ops [BI 7 .lss 6 5]).seq ((C.cond (.t 7) C.skip (C.exit 0)).seq ((C.block 1
 ((C.ops [MV 8 6,MV 3 8]).seq ((C.ops [MV 9 0,MV 10 3,O2 11 .sidx 9 10,O1 12 (.call 292 true) 11,O1 13 (.un UnOp.not) 12]).seq (C.cond (.t 13) ((C.ops [MC 2 (.bool false)]).seq
 C.ret) C.skip)))).seq (C.ops [BC 14 .add 6 (i6 1),MV 6 14])))).loop)).seq ((C.ops [MV 15 0,BC 16 .neq 15 (.str []),MV 17 16,MG 18 17 true 0,P1 19 17 true .slen 18,PC 20 17
 true (.bin .leq) 19 (i6 64),PF 21 17 20,MV 2 21]).seq
 C.ret)))
theorem qzl:qB Tryz.prog 251 22 0 [RV.tmp 2] qxB:=fi Tryz.f251 [] zJ []
def qtn:C:=
 ((C.ops [MC 2 (.bool false)]).seq ((C.ops [MV 3 0,BC 4 .eql 3 (.str []),MV 5 4,MG 6 5 false 0,P1 7 5 false (.call 186 true) 6,PT 8 5 7,MV 2 8]).seq
 C.ret))
theorem qr8:qB Tryz.prog 252 9 0 [RV.tmp 2] qtn:=fi Tryz.f252 [] zJ []
def qoR:C:=
 ((C.ops [MC 2 (.bool false)]).seq ((C.ops [MV 4 0,O1 5 (.call 285 true) 4,MV 3 5]).seq ((C.ops [MV 6 0,O1 7 (.call 311 true) 6,MV 8 7,MG 9 8 false 3,PC 10 8 false (.bin .eql)
 9 (i6 2),PT 11 8 10,MV 12 11,MG 13 12 false 3,PC 14 12 false (.bin .eql) 13 (i6 4),PT 15 12 14,MV 2 15]).seq
 C.ret)))
theorem qlJ:qB Tryz.prog 292 16 0 [RV.tmp 2] qoR:=fi Tryz.f292 [] zJ []
def qtu:C:=
 ((C.ops [MC 2 (.bool false)]).seq ((C.ops [MV 4 0,O1 5 (.call 285 true) 4,MV 3 5]).seq ((C.ops [MV 6 3,BC 7 .eql 6 (i6 1),MV 8 7,MG 9 8 false 3,PC 10 8 false (.bin .eql) 9
 (i6 3),PT 11 8 10,MV 2 11]).seq
 C.ret)))
theorem qsf:qB Tryz.prog 311 12 0 [RV.tmp 2] qtu:=fi Tryz.f311 [] zJ []
def qBW:C:=
 ((C.ops [O1 1 (.box 0 26) 0,MC 2 (i6 0)]).seq (((C.ops [O1 4 (.fldA 0) 1,LD 5 4,O1 6 (.fldA 1) 1,LD 7 6,O1 8 (.fldA 2) 1,LD 9 8,ON 10 (.call 152 true) [.t 5,.t 7,.t 9],MV
 3 10]).seq ((C.ops [MV 11 3,BC 12 .neq 11 (i6 0)]).seq (C.cond (.t 12) ((C.ops [MV 13 3,MV 2 13]).seq C.ret) C.skip))).seq (((C.ops [O1 14 (.fldA 2) 1,LD 15 14,O1 16 (.fldA 3)
 1,LD 17 16,O2 18 (.call 153 true) 15 17,BC 19 .neq 18 (i6 0)]).seq (C.cond (.t 19) ((C.ops [MC 2 (i6 19)]).seq C.ret) C.skip)).seq ((C.ops [MC 2 (i6 0)]).seq
 C.ret))))
theorem qzR:qB Tryz.prog 81 20 1 [RV.tmp 2] qBW:=fi Tryz.f81 [1] zJ []
def qkC:C:=
 ((C.ops [MC 6 (i6 0)]).seq ((C.block 0 ((C.ops [MV 12 0,O1 13 (.call 186 true) 12,O1 14 (.un UnOp.not) 13,MV 11 14]).seq (C.cond (.t 11) ((C.ops [MC 6 (i6 14)]).seq C.ret)
 ((C.ops [MV 16 1,O1 17 .len 16,BC 18 .eql 17 (i6 0),MV 15 18]).seq (C.cond (.t 15) ((C.ops [MC 6 (i6 5)]).seq C.ret) ((C.ops [MV 20 1,O1 21 .len 20,BC 22 .gtr 21 (i6 32),MV
 19 22]).seq (C.cond (.t 19) ((C.ops [MC 6 (i6 4)]).seq C.ret) C.skip))))))).seq (((C.ops [MV 23 1,O1 24 .len 23,MC 25 (i6 0)]).seq (C.block 1 ((C.ops [BI 26 .lss 25 24]).seq
 ((C.cond (.t 26) C.skip (C.exit 1)).seq ((C.block 2 ((C.ops [MV 27 25,O2 28 (.idxA 1) 23 25,LD 29 28,MV 7 27,MV 8 29]).seq (((C.ops [MV 30 8,O1 31 (.call 204 true) 30,O1 32
 (.un UnOp.not) 31]).seq (C.cond (.t 32) ((C.ops [MC 6 (i6 14)]).seq C.ret) C.skip)).seq ((C.ops [MV 33 1,MV 34 7,O2 35 (.slc 1 false true) 33 34,MV 36 8,O2 37 (.call 43 true)
 35 36]).seq (C.cond (.t 37) ((C.ops [MC 6 (i6 7)]).seq C.ret) C.skip))))).seq (C.ops [BC 38 .add 25 (i6 1),MV 25 38])))).loop)).seq (((C.ops [MV 39 2,O1 40 .len 39,MV 41 1,O1
 42 .len 41,BI 43 .neq 40 42]).seq (C.cond (.t 43) ((C.ops [MC 6 (i6 9)]).seq C.ret) C.skip)).seq (((C.ops [MV 44 2,O1 45 .len 44,MC 46 (i6 0)]).seq (C.block 3 ((C.ops [BI 47
 .lss 46 45]).seq ((C.cond (.t 47) C.skip (C.exit 3)).seq ((C.block 4 ((C.ops [O2 48 (.idxA 1) 44 46,LD 49 48,MV 10 49]).seq (((C.ops [MV 50 10,O1 51 .len 50,BC 52 .gtr 51 (i6
 1024)]).seq (C.cond (.t 52) ((C.ops [MC 6 (i6 4)]).seq C.ret) C.skip)).seq ((C.ops [MV 53 10,OC 54 (.call 205 true) 53 (.fn (Fn.func 206) [] [])]).seq (C.cond (.t 54) ((C.ops [MC
 6 (i6 1)]).seq C.ret) C.skip))))).seq (C.ops [BC 55 .add 46 (i6 1),MV 46 55])))).loop)).seq ((C.ops [MC 6 (i6 0)]).seq
 C.ret))))))
theorem qg7:qB Tryz.prog 152 56 0 [RV.tmp 6] qkC:=fi Tryz.f152 [] zJ []
def qxp:C:=
 ((C.ops [O1 1 (.box 0 124) 0,MC 2 (.bool false)]).seq ((C.ops [O1 3 (.load (some 6)) 1,O1 4 (.call 207 true) 3,BC 5 .neq 4 (i6 0),MV 2 5]).seq
 C.ret))
theorem qy7:qB Tryz.prog 206 6 1 [RV.tmp 2] qxp:=fi Tryz.f206 [1] zJ []
def qkG:C:=
 ((C.ops [MC 2 (.bool false)]).seq ((C.ops [MV 6 0,OC 7 (.call 241 true) 6 (.str [42]),MV 5 7,O1 8 (.ext 0) 5,O1 9 (.ext 1) 5,MV 3 8,MV 4 9]).seq ((C.ops [MV 10 3,O1 11
 (.call 186 true) 10,MV 12 11,MG 13 12 true 4,P1 14 12 true (.un UnOp.not) 13,MG 15 12 true 14,MG 16 15 false 0,P1 17 15 false .slen 16,PC 18 15 false (.bin .leq) 17 (i6 16),
 QT 19 12 true 15 18,PF 20 12 19,MV 2 20]).seq
 C.ret)))
theorem qhb:qB Tryz.prog 204 21 0 [RV.tmp 2] qkG:=fi Tryz.f204 [] zJ []
def qxq:C:=
 ((C.ops [MC 2 (i6 0)]).seq ((C.block 0 ((C.ops [MV 4 0,O1 5 .len 4,BC 6 .eql 5 (i6 0),MV 3 6]).seq (C.cond (.t 3) ((C.ops [MC 2 (i6 5)]).seq C.ret) ((C.ops [MV 8 0,O1 9 .len 8,
 BC 10 .gtr 9 (i6 32),MV 11 10,MG 12 11 false 0,PC 13 11 false (.call 253 true) 12 (.fn (Fn.func 254) [] []),PT 14 11 13,MV 7 14]).seq (C.cond (.t 7) ((C.ops [MC 2 (i6 4)]).seq
 C.ret) C.skip))))).seq ((C.ops [MC 2 (i6 0)]).seq
 C.ret)))
theorem qy8:qB Tryz.prog 208 15 0 [RV.tmp 2] qxq:=fi Tryz.f208 [] zJ []
def qxC:C:=
 ((C.ops [MC 2 (.bool false)]).seq ((C.ops [MV 3 0,O1 4 .len 3,BC 5 .gtr 4 (i6 1024),MV 2 5]).seq
 C.ret))
theorem qzn:qB Tryz.prog 254 6 0 [RV.tmp 2] qxC:=fi Tryz.f254 [] zJ []
def qw5:C:=
 ((C.ops [MC 4 (i6 0)]).seq (((C.ops [MV 6 0,O1 7 (.call 208 true) 6,MV 5 7]).seq ((C.ops [MV 8 5,BC 9 .neq 8 (i6 0)]).seq (C.cond (.t 9) ((C.ops [MV 10 5,MV 4 10]).seq C.ret)
 C.skip))).seq (((C.ops [MV 11 0,MV 12 1,O2 13 (.call 209 true) 11 12,O1 14 (.un UnOp.not) 13]).seq (C.cond (.t 14) ((C.ops [MC 4 (i6 19)]).seq C.ret) C.skip)).seq ((C.ops [MC 4
 (i6 0)]).seq
 C.ret))))
theorem qyK:qB Tryz.prog 153 15 0 [RV.tmp 4] qw5:=fi Tryz.f153 [] zJ []
def qxr:C:=
 ((C.ops [MC 4 (.bool false)]).seq ((C.ops [MV 12 0,O1 13 .len 12,⟨some 14,none,.mkslc 0 1 3 [i6 0] 8,[.t 13,.t 13]⟩,MV 5 14]).seq (((C.ops [MV 15 1,O1 16 .len 15,MC 17 (i6
 0)]).seq (C.block 0 ((C.ops [BI 18 .lss 17 16]).seq ((C.cond (.t 18) C.skip (C.exit 0)).seq ((C.block 1 ((C.ops [O2 19 (.idxA 1) 15 17,LD 20 19,MV 7 20]).seq (((C.ops [MV 21 7,
 O1 22 .len 21,MV 23 0,O1 24 .len 23,BI 25 .neq 22 24]).seq (C.cond (.t 25) ((C.ops [MC 4 (.bool false)]).seq C.ret) C.skip)).seq ((C.ops [MC 8 (.bool false)]).seq (((C.ops [MV
 26 7,O1 27 .len 26,MC 28 (i6 0)]).seq (C.block 2 ((C.ops [BI 29 .lss 28 27]).seq ((C.cond (.t 29) C.skip (C.exit 2)).seq ((C.block 3 ((C.ops [MV 30 28,O2 31 (.idxA 1) 26 28,LD
 32 31,MV 9 30,MV 10 32]).seq (((C.ops [MV 33 10,BC 34 .eql 33 (i6 (-1))]).seq (C.cond (.t 34) (C.exit 3) C.skip)).seq (((C.ops [MV 35 10,MV 36 5,MV 37 9,O2 38 (.idxA 1) 36
 37,LD 39 38,BI 40 .neq 35 39,MV 41 40,MG 42 41 false 10,MG 43 41 false 0,MG 44 41 false 9,P2 45 41 false (.idxA 1) 43 44,P1 46 41 false (.load none) 45,P1 47 41 false .len
 46,P2 48 41 false (.bin .geq) 42 47,PT 49 41 48]).seq (C.cond (.t 49) ((C.ops [MC 4 (.bool false)]).seq C.ret) C.skip)).seq ((C.ops [MV 50 5,MV 51 9,O2 52 (.idxA 1) 50 51,LD
 53 52,BC 54 .add 53 (i6 1),O2 55 (.idxA 1) 50 51,ST 1 55 54]).seq (C.ops [MC 8 (.bool true)])))))).seq (C.ops [BC 56 .add 28 (i6 1),MV 28 56])))).loop)).seq ((C.ops [MV 57 8,
 O1 58 (.un UnOp.not) 57]).seq (C.cond (.t 58) ((C.ops [MC 4 (.bool false)]).seq C.ret) C.skip))))))).seq (C.ops [BC 59 .add 17 (i6 1),MV 17 59])))).loop)).seq (((C.ops [MV 60 0,
 O1 61 .len 60,MC 62 (i6 0)]).seq (C.block 4 ((C.ops [BI 63 .lss 62 61]).seq ((C.cond (.t 63) C.skip (C.exit 4)).seq ((C.block 5 ((C.ops [MV 64 62,MV 11 64]).seq ((C.ops [MV 65 5,
 MV 66 11,O2 67 (.idxA 1) 65 66,LD 68 67,MV 69 0,MV 70 11,O2 71 (.idxA 1) 69 70,LD 72 71,O1 73 .len 72,BI 74 .neq 68 73]).seq (C.cond (.t 74) ((C.ops [MC 4 (.bool
 false)]).seq C.ret) C.skip)))).seq (C.ops [BC 75 .add 62 (i6 1),MV 62 75])))).loop)).seq ((C.ops [MC 4 (.bool true)]).seq
 C.ret)))))
theorem qy9:qB Tryz.prog 209 76 1 [RV.tmp 4] qxr:=fi Tryz.f209 [14] zJ []
def qDm:C:=
 ((C.ops [ON 4 (.nilo 0 1 9) []]).seq ((C.ops [MV 5 0,MV 6 1,ON 7 (.call 118 true) [.t 5,.t 6,.c (i6 0),.c (i6 (-1))],MV 4 7]).seq
 C.ret))
theorem qCg:qB Tryz.prog 44 8 1 [RV.tmp 4] qDm:=fi Tryz.f44 [4] zJ []
def qwV:C:=
 ((C.ops [ON 8 (.nilo 0 1 9) []]).seq (((C.ops [MV 12 3,BC 13 .eql 12 (i6 0)]).seq (C.cond (.t 13) ((C.ops [ON 8 (.nilo 0 1 9) []]).seq C.ret) C.skip)).seq (((C.ops [MV 14 1,BC 15
 .eql 14 (.str [])]).seq (C.cond (.t 15) ((C.ops [MV 16 0,MV 17 3,O2 18 (.call 182 true) 16 17,MV 8 18]).seq C.ret) C.skip)).seq (((C.ops [MV 19 3,BC 20 .lss 19 (i6 0)]).seq
 (C.cond (.t 20) (C.ops [MV 21 0,MV 22 1,O2 23 (.call 183 true) 21 22,BC 24 .add 23 (i6 1),MV 3 24]) C.skip)).seq ((C.ops [MV 25 3,MV 26 0,O1 27 .slen 26,BC 28 .add 27 (i6
 1),O2 29 (.mm false) 25 28,MV 3 29]).seq ((C.ops [MV 30 3,⟨some 31,none,.mkslc 1 1 9 [.str []] 16,[.t 30,.t 30]⟩,MV 9 31]).seq ((C.ops [MV 32 3,BC 33 .sub 32 (i6 1),MV 3
 33]).seq ((C.ops [MC 10 (i6 0)]).seq ((C.block 0 (((C.ops [MV 34 10,MV 35 3,BI 36 .lss 34 35]).seq (C.cond (.t 36) C.skip (C.exit 0))).seq (C.block 1 ((C.ops [MV 37 0,MV 38 1,
 O2 39 (.call 184 true) 37 38,MV 11 39]).seq (((C.ops [MV 40 11,BC 41 .lss 40 (i6 0)]).seq (C.cond (.t 41) (C.exit 0) C.skip)).seq ((C.ops [MV 42 9,MV 43 10,MV 44 0,MV 45 11,
 MV 46 2,BI 47 .add 45 46,O2 48 (.sslc false true) 44 47,O2 49 (.idxA 1) 42 43,ST 1 49 48]).seq ((C.ops [MV 50 0,MV 51 11,MV 52 1,O1 53 .slen 52,BI 54 .add 51 53,O2 55
 (.sslc true false) 50 54,MV 0 55]).seq (C.ops [MV 56 10,BC 57 .add 56 (i6 1),MV 10 57]))))))).loop).seq ((C.ops [MV 58 9,MV 59 10,MV 60 0,O2 61 (.idxA 1) 58 59,ST 1 61
 60]).seq ((C.ops [MV 62 9,MV 63 10,BC 64 .add 63 (i6 1),O2 65 (.slc 1 false true) 62 64,MV 8 65]).seq
 C.ret)))))))))))
theorem qyz:qB Tryz.prog 118 66 2 [RV.tmp 8] qwV:=fi Tryz.f118 [8,31] zJ []
end
section
open Go Go.Proofs AF HY LN
namespace RC
theorem qDC(s:Str)(h:List AObj)(hs:s.length≤1000000000):ACalls Tryz.prog 252 [.str s] h (.bool (qwx s)) h:=by
 have c1:=fun h=>t44 s h hs
 unfold qwx
 by_cases g:s= []
 ·subst g;rw[dqt rfl,Bool.true_or];refine acO qr8 ?_;simp (disch:=omega) only[qtn,go_sem]
  repeat' first
   |(refine qm ( .bool false) ?_;simp (disch:=omega) only[go_sem])
   |(apply qe;exact rvk;simp only[go_sem];exact qk)
 ·have k1:(s= [])=False:=eqf g;rw[dqf g,Bool.false_or];refine acO qr8 ?_;simp (disch:=omega) only[qtn,k1,go_sem]
  repeat' first
   |(refine cG (fun e=>c1 _) flk ?_;simp (disch:=omega) only[go_sem])
   |(apply qe;exact rvk;simp only[go_sem];exact qk)
theorem qEG(s:Str)(h:List AObj)(hs:s.length≤1000000000):ACalls Tryz.prog 249 [.str s] h (.bool (qBA s)) h:=by
 unfold qBA
 by_cases g:s.length=1
 ·have k1:((s.length:Int)=1)=True:=eqt om;have k2:((0:Int)<s.length)=True:=eqt om;have e:(s[0]?).getD 0=ch s 0:=by simp[ch,gdqA]
  have c5:=fun h=>qda (ch s 0) h
  rw[dqt g,Bool.true_and];obtain⟨k,hk⟩: ∃k,k=zG (ch s 0):=⟨_,rfl⟩
  rw[←hk]at c5 ⊢
  by_cases g1:k=5
  ·have q1:(k=5)=True:=eqt g1;rw[dqt g1,Bool.true_or];refine acO qlI ?_;simp (disch:=omega) only[qoQ,k1,go_sem]
   repeat' first
    |(refine cA (c5 _) flk ?_;simp (disch:=omega) only[e,q1,go_sem])
    |(apply qe;exact rvk;simp only[go_sem];exact qk)
    |with_reducible apply aiA
   all_goals try exact clz
  ·have q1:(k=5)=False:=eqf g1;rw[dqf g1,Bool.false_or];refine acO qlI ?_;simp (disch:=omega) only[qoQ,k1,go_sem]
   repeat' first
    |(refine cA (c5 _) flk ?_;simp (disch:=omega) only[e,q1,go_sem])
    |(apply qe;exact rvk;simp only[go_sem];exact qk)
    |with_reducible apply aiA
   all_goals try exact clz
 ·have k1:((s.length:Int)=1)=False:=eqf om;rw[dqf g,Bool.false_and];refine acO qlI ?_;simp (disch:=omega) only[qoQ,k1,go_sem]
  repeat' first
   |(apply qe;exact rvk;simp only[go_sem];exact qk)
theorem qDY(c:UInt8)(h:List AObj):ACalls Tryz.prog 311 [.int .u8 (c.toNat:Int)] h (.bool (decide (zG c=1)||decide (zG c=3))) h:=by
 have c5:=fun h=>qda c h
 obtain⟨k,hk⟩: ∃k,k=zG c:=⟨_,rfl⟩
 rw[←hk]at c5 ⊢
 by_cases g1:k=1
 ·have q1:(k=1)=True:=eqt g1;rw[dqt g1,Bool.true_or];refine acO qsf ?_;simp (disch:=omega) only[qtu,go_sem]
  repeat' first
   |(refine cA (c5 _) flk ?_;simp (disch:=omega) only[q1,go_sem])
   |(apply qe;exact rvk;simp only[go_sem];exact qk)
 ·have q1:(k=1)=False:=eqf g1;rw[dqf g1,Bool.false_or];refine acO qsf ?_;simp (disch:=omega) only[qtu,go_sem]
  repeat' first
   |(refine cA (c5 _) flk ?_;simp (disch:=omega) only[q1,go_sem])
   |(apply qe;exact rvk;simp only[go_sem];exact qk)
theorem qEA(c:UInt8)(h:List AObj):ACalls Tryz.prog 292 [.int .u8 (c.toNat:Int)] h (.bool (quB c)) h:=by
 have c5:=fun h=>qda c h
 have c6:=fun h=>qDY c h
 unfold quB;rw[←Bool.or_assoc];obtain⟨k,hk⟩: ∃k,k=zG c:=⟨_,rfl⟩
 rw[←hk]at c5 c6 ⊢;obtain⟨b,hb⟩: ∃b,b=(decide (k=1)||decide (k=3)):=⟨_,rfl⟩
 rw[←hb]at c6 ⊢;cases b with
 |true=>
  rw[Bool.true_or];refine acO qlJ ?_;simp (disch:=omega) only[qoR,go_sem]
  repeat' first
   |((first|refine cA (c5 _) ?_ ?_|refine cA (c6 _) ?_ ?_);exact flk;simp (disch:=omega) only[go_sem])
   |(apply qe;exact rvk;simp only[go_sem];exact qk)
 |false=>
  rw[Bool.false_or]
  by_cases g1:k=2
  ·have q1:(k=2)=True:=eqt g1;rw[dqt g1,Bool.true_or];refine acO qlJ ?_;simp (disch:=omega) only[qoR,go_sem]
   repeat' first
    |((first|refine cA (c5 _) ?_ ?_|refine cA (c6 _) ?_ ?_);exact flk;simp (disch:=omega) only[q1,go_sem])
    |(apply qe;exact rvk;simp only[go_sem];exact qk)
  ·have q1:(k=2)=False:=eqf g1;rw[dqf g1,Bool.false_or];refine acO qlJ ?_;simp (disch:=omega) only[qoR,go_sem]
   repeat' first
    |((first|refine cA (c5 _) ?_ ?_|refine cA (c6 _) ?_ ?_);exact flk;simp (disch:=omega) only[q1,go_sem])
    |(apply qe;exact rvk;simp only[go_sem];exact qk)
theorem qCF(s:Str)(h:List AObj)(hs:s.length≤1000000000):ACalls Tryz.prog 251 [.str s] h (.bool (qAo s)) h:=by
 obtain⟨R,hR⟩: ∃R,R=qAo s:=⟨_,rfl⟩
 rw[←hR];unfold qAo at hR;refine acO qzl ?_;simp (disch:=omega) only[qxB,go_sem];refine qn (T:=fun i:Nat=>qI 22 [(0,.str s),(5,.int .i64 s.length),(6,.int .i64 i)]) (H:=fun _=>h) (inv:=fun i=>i≤s.length∧ ∀j,j<i→quB (ch s j)=true) (m:=fun i=>s.length-i) 0 ⟨nzl _,fun j hj=>by omega⟩ (Wk.temps ?_) ?_
 ·(simp only[go_sem,qj,qd,qa,qi];try (repeat' first|(with_reducible apply aiA)|(apply qh;omega)|(apply qg;rfl)|exact qk))
 rintro i ⟨i1,i2⟩ K hK
 by_cases hi:i<s.length
 ·have k1:((i:Int)<s.length)=True:=eqt om;have e:(s[i]?).getD 0=ch s i:=by simp[ch,gdqA]
  have c1:=fun h=>qEA (ch s i) h
  cases g:quB (ch s i)with
  |false=>
   rw[g]at c1;have hV:R=false:=by
    have:((List.range s.length).all fun i=>quB (ch s i))=false:=by
     rw[List.all_eq_false];exact⟨i,List.mem_range.2 hi,by simp[g]⟩
    rw[hR,this,Bool.and_false,Bool.and_false]
   rw[hV];simp (disch:=omega) only[k1,e,go_sem]
   repeat' first
    |(refine cA (c1 _) flk ?_;simp (disch:=omega) only[go_sem])
    |(apply qe;exact rvk;simp only[go_sem];exact qk)
    |with_reducible apply aiA
   all_goals try exact clz
  |true=>
   rw[g]at c1;simp (disch:=omega) only[k1,e,go_sem]
   repeat' first
    |(refine cA (c1 _) flk ?_;simp (disch:=omega) only[go_sem])
    |with_reducible apply aiA
   all_goals try exact clz
   refine hK _ _ (i+1) ⟨hi,fun j hj=> ?_⟩ om (Wk.temps ?_)
   ·by_cases e':j=i
    ·subst e';exact g
    ·exact i2 j om
   ·(simp only[go_sem,qj,qd,qa,qi];try (repeat' first|(with_reducible apply aiA)|(apply qh;omega)|(apply qg;rfl)|exact qk))
 ·have k1:((i:Int)<s.length)=False:=eqf om;have hA:((List.range s.length).all fun i=>quB (ch s i))=true:=by
   rw[List.all_eq_true];intro j hj;exact i2 j (by have:=List.mem_range.1 hj;omega)
  rw[hA,Bool.and_true]at hR
  by_cases g:s= []
  ·have q1:(s= [])=True:=eqt g;rw[hR,dqf (fun h=>h g),Bool.false_and];simp (disch:=omega) only[k1,q1,go_sem]
   repeat' first
    |(apply qe;exact rvk;simp only[go_sem];exact qk)
  ·have q1:(s= [])=False:=eqf g;have q2:decide ((s.length:Int)≤64)=decide (s.length≤64):=decide_eq_decide.2 om;rw[hR,dqt (show s≠ []from g),Bool.true_and];simp (disch:=omega) only[k1,q1,q2,go_sem]
   repeat' first
    |(apply qe;exact rvk;simp only[go_sem];exact qk)
theorem quF{k:Nat}:1≤(Lib.itoa (k:Int)).length:=by
 rw[Lib.itoa_nonneg]
 by_cases g:k<10
 ·rw[Lib.decDigits,dif_pos g];simp
 ·rw[Lib.decDigits,dif_neg g];simp
theorem qzZ{s:Str}(h:qb6 s=true):3≤s.length∧((s[0]?).getD 0).toNat=91∧((s[s.length-1]?).getD 0).toNat=93∧ ∃v:Int,Lib.atoiAll ((s.drop 1).take (s.length-1-1))= .ok v∧1≤v∧v≤64∧s=91::(Lib.itoa v++ [93]):=by
 unfold qb6 at h;rw[List.any_eq_true]at h;obtain⟨k,hk,e⟩:=h;have hk':k<64:=by simpa using hk
 have e:=of_decide_eq_true e;have hl:=quF (k:=k+1);obtain⟨t,ht⟩: ∃t,t=Lib.itoa ((k+1:Nat):Int):=⟨_,rfl⟩
 rw[←ht]at e hl;have ha:Lib.atoiAll t= .ok ((k+1:Nat):Int):=by rw[ht];exact qeA om om
 have e1:s.length=t.length+2:=by rw[e];simp
 refine⟨om,by rw[e];rfl,?_,((k+1:Nat):Int),?_,om,om,by rw[←ht];exact e⟩
 ·rw[e1,e,show t.length+2-1=t.length+1 by omega,List.getElem?_cons_succ,List.getElem?_append_right (nlr _),Nat.sub_self];rfl
 ·rw[←ha,e1,e];congr 1;simp
theorem qz1{s:Str}{v:Int}(h1:1≤v)(h2:v≤64)(e:s=91::(Lib.itoa v++ [93])):qb6 s=true:=by
 unfold qb6;rw[List.any_eq_true];refine⟨v.toNat-1,by simp;omega,dqt ?_⟩;rw[show ((v.toNat-1+1:Nat):Int)=v by omega];exact e
theorem qEs(s:Str)(h:List AObj)(hs:s.length≤1000000000)(hp:qag SG h):ACalls Tryz.prog 248 [.str s] h (.bool (qb6 s)) h:=by
 have hF:= @qzZ s;have hM:= @qz1 s;obtain⟨R,hR⟩: ∃R,R=qb6 s:=⟨_,rfl⟩
 rw[←hR]at hF hM ⊢;have hV: ¬(R=true)→R=false:=by cases R<;>simp
 by_cases g0:s.length<3
 ·have k0:((s.length:Int)<3)=True:=eqt om;rw[hV (fun c=>by have:=(hF c).1;omega)];refine acO qbO ?_;simp (disch:=omega) only[qdI,k0,go_sem]
  repeat' first
   |(apply qe;exact rvk;simp only[go_sem];exact qk)
 have k0:((s.length:Int)<3)=False:=eqf om;have k1:((0:Int)<s.length)=True:=eqt om;have k2:((s.length:Int)-1).toNat=s.length-1:=by omega
 have k3:(0≤(s.length:Int)-1)=True:=eqt om;have k4:((s.length:Int)-1≤s.length)=True:=eqt om;have k5:((s.length:Int)-1<s.length)=True:=eqt om;have k6:((1:Int)≤(s.length:Int)-1)=True:=eqt om;obtain⟨m,hm⟩: ∃m,m=(s.drop 1).take (s.length-1-1):=⟨_,rfl⟩
 have hml:m.length≤s.length:=by rw[hm];simp;omega
 have em:=hm.symm;rw[em]at hF;obtain⟨a,ha⟩: ∃a,a=(s[0]?).getD 0:=⟨_,rfl⟩
 obtain⟨b,hb⟩: ∃b,b=(s[s.length-1]?).getD 0:=⟨_,rfl⟩
 have ea:=ha.symm;have eb:=hb.symm;rw[ea,eb]at hF
 by_cases g1:a.toNat=91
 case neg=>
  have q1:((a.toNat:Int)=91)=False:=eqf om;rw[hV (fun c=>g1 (hF c).2.1)];refine acO qbO ?_;simp (disch:=omega) only[qdI,k0,k1,k2,k3,k4,k5,k6,em,ea,eb,q1,Int.toNat_zero,Int.toNat_one,go_sem]
  repeat' first
   |(apply qe;exact rvk;simp only[go_sem];exact qk)
   |with_reducible apply aiA
  all_goals try exact clz
 have q1:((a.toNat:Int)=91)=True:=eqt om
 by_cases g2:b.toNat=93
 case neg=>
  have q2:((b.toNat:Int)=93)=False:=eqf om;rw[hV (fun c=>g2 (hF c).2.2.1)];refine acO qbO ?_;simp (disch:=omega) only[qdI,k0,k1,k2,k3,k4,k5,k6,em,ea,eb,q1,q2,Int.toNat_zero,Int.toNat_one,go_sem]
  repeat' first
   |(apply qe;exact rvk;simp only[go_sem];exact qk)
   |with_reducible apply aiA
  all_goals try exact clz
 have q2:((b.toNat:Int)=93)=True:=eqt om;have c180:=t50 m h (SG.err hp) om;unfold qoC at c180;cases hA:Lib.atoiAll m
 case ok v=>
  rw[hA]at c180 hF;simp only at c180;obtain⟨r1,r2⟩:=qgV hA;have c181:=t48 v h (SG.pow hp) r1 r2;obtain⟨t,ht⟩: ∃t,t=Lib.itoa v:=⟨_,rfl⟩
  rw[←ht]at c181
  by_cases g3:1≤v
  case neg=>
   have q3:(1≤v)=False:=eqf g3;rw[hV (fun c=>by obtain⟨_,_,_,w,e,w1,_⟩:=hF c;cases e;exact g3 w1)];refine acO qbO ?_;simp (disch:=omega) only[qdI,k0,k1,k2,k3,k4,k5,k6,em,ea,eb,q1,q2,Int.toNat_zero,Int.toNat_one,go_sem]
   repeat' first
    |(refine qm ( .str []) ?_;simp (disch:=omega) only[go_sem])
    |(refine cA (c180) flk ?_;simp (disch:=omega) only[q3,go_sem])
    |(apply qe;exact rvk;simp only[go_sem];exact qk)
    |with_reducible first|intro _|apply aiA
   all_goals try exact clz
  have q3:(1≤v)=True:=eqt g3
  by_cases g4:v≤64
  case neg=>
   have q4:(v≤64)=False:=eqf g4;rw[hV (fun c=>by obtain⟨_,_,_,w,e,_,w2,_⟩:=hF c;cases e;exact g4 w2)];refine acO qbO ?_;simp (disch:=omega) only[qdI,k0,k1,k2,k3,k4,k5,k6,em,ea,eb,q1,q2,Int.toNat_zero,Int.toNat_one,go_sem]
   repeat' first
    |(refine qm ( .str []) ?_;simp (disch:=omega) only[go_sem])
    |(refine cA (c180) flk ?_;simp (disch:=omega) only[q3,q4,go_sem])
    |(apply qe;exact rvk;simp only[go_sem];exact qk)
    |with_reducible apply aiA
   all_goals try exact clz
  have q4:(v≤64)=True:=eqt g4
  by_cases g5:s=91::(t++ [93])
  ·have q5:(s=91::(t++ [93]))=True:=eqt g5;have htl:t.length≤9:=by
    obtain⟨n,rfl⟩: ∃n:Nat,v=n:=⟨v.toNat,om⟩
    rw[ht];exact qdY om
   rw[hM g3 g4 (by rw[←ht];exact g5)];refine acO qbO ?_;simp (disch:=omega) only[qdI,k0,k1,k2,k3,k4,k5,k6,em,ea,eb,q1,q2,Int.toNat_zero,Int.toNat_one,go_sem]
   repeat' first
    |((first|refine cA (c180) ?_ ?_|refine cG (fun e=>c181) ?_ ?_);exact flk;simp (disch:=omega) only[q3,q4,q5,go_sem])
    |(apply qe;exact rvk;simp only[go_sem];exact qk)
    |with_reducible apply aiA
   all_goals try exact clz
  ·have q5:(s=91::(t++ [93]))=False:=eqf g5;have htl:t.length≤9:=by
    obtain⟨n,rfl⟩: ∃n:Nat,v=n:=⟨v.toNat,om⟩
    rw[ht];exact qdY om
   rw[hV (fun c=>by obtain⟨_,_,_,w,e,_,_,w3⟩:=hF c;cases e;exact g5 (by rw[ht];exact w3))];refine acO qbO ?_;simp (disch:=omega) only[qdI,k0,k1,k2,k3,k4,k5,k6,em,ea,eb,q1,q2,Int.toNat_zero,Int.toNat_one,go_sem]
   repeat' first
    |((first|refine cA (c180) ?_ ?_|refine cG (fun e=>c181) ?_ ?_);exact flk;simp (disch:=omega) only[q3,q4,q5,go_sem])
    |(apply qe;exact rvk;simp only[go_sem];exact qk)
    |with_reducible apply aiA
   all_goals try exact clz
 all_goals
  rw[hA]at c180 hF;simp only at c180;rw[hV (fun c=>by obtain⟨_,_,_,w,e,_⟩:=hF c;cases e)];refine acO qbO ?_;simp (disch:=omega) only[qdI,k0,k1,k2,k3,k4,k5,k6,em,ea,eb,q1,q2,Int.toNat_zero,Int.toNat_one,go_sem]
  repeat' first
   |(refine qm ( .str []) ?_;simp (disch:=omega) only[go_sem])
   |(refine cA (c180) flk ?_;simp (disch:=omega) only[go_sem])
   |(apply qe;exact rvk;simp only[go_sem];exact qk)
   |with_reducible first|intro _|apply aiA
  all_goals try exact clz
theorem qBJ: ∀f:Nat,f<32→qok .i64 (f:Int) 2=if f.testBit 1 then 2 else 0:=by decide+kernel
theorem qBK: ∀f:Nat,f<32→qok .i64 (f:Int) 8=if f.testBit 3 then 8 else 0:=by decide+kernel
theorem qwN: ∀f:Nat,f<32→qok .i64 (f:Int) 10=(if f.testBit 1 then 2 else 0)+if f.testBit 3 then 8 else 0:=by decide+kernel
theorem qEB(t:Tk)(f:Nat)(h:List AObj)(hf:t.flags=f)(hf2:f<32):ACalls Tryz.prog 250 [.agg (tkC t)] h (.bool (!qus t.flags&& !mkB t.flags)) h:=by
 have e1:=qwN f hf2;have eg:qus t.flags=f.testBit 1:=by unfold qus;rw[hf,itn]
 have ek:mkB t.flags=f.testBit 3:=by unfold mkB;rw[hf,itn]
 rw[eg,ek];cases g1:f.testBit 1<;>cases g2:f.testBit 3<;>rw[g1,g2]at e1<;>simp only[Bool.false_eq_true,if_false,if_true,Int.add_zero,Int.zero_add]at e1
 all_goals
  refine acO qzk ?_;simp (disch:=omega) only[qxA,tkC,hf,e1,go_sem]
  repeat' first
   |(apply qb;exact rvk;simp only[go_sem];exact qk)
structure qsK (t:Tk):Prop where
 tx:t.text.length≤1000000000
 nm:t.norm.length≤1000000000
 pg:t.page.length≤1000000000
 na:t.name.length≤1000000000
theorem tkP(t:Tk)(h:List AObj)(hz:qsK t)(hp:qag SG h):ACalls Tryz.prog 207 [.agg (tkC t)] h (.int .i64 (tkE t)) h:=by
 obtain⟨R,hR⟩: ∃R,R=tkE t:=⟨_,rfl⟩
 rw[←hR];unfold tkE at hR
 by_cases g1:t.flags<0
 ·have k1:(t.flags<0)=True:=eqt g1;rw[ipo (.inl g1)]at hR;rw[hR];refine acO ja ?_;simp (disch:=omega) only[j6,tkC,go_sem]
  repeat' first
   |(apply qb;exact rvk;simp only[go_sem];first|exact qk|apply qh)
   |with_reducible first|intro _|apply aiA
  all_goals try exact clz
 have k1:(t.flags<0)=False:=eqf g1
 by_cases g2:31<t.flags
 ·have k2:((31:Int)<t.flags)=True:=eqt g2;rw[ipo (.inr g2)]at hR;rw[hR];refine acO ja ?_;simp (disch:=omega) only[j6,tkC,go_sem]
  repeat' first
   |(apply qb;exact rvk;simp only[go_sem];first|exact qk|apply qh)
   |with_reducible first|intro _|apply aiA
  all_goals try exact clz
 have k2:((31:Int)<t.flags)=False:=eqf g2;rw[ine om]at hR;obtain⟨f,hf⟩: ∃f:Nat,t.flags=(f:Int):=⟨t.flags.toNat,om⟩
 have hf2:f<32:=by omega
 have e2:=qBJ f hf2;have e8:=qBK f hf2;have eg:qus t.flags=f.testBit 1:=by unfold qus;rw[hf,itn]
 have ek:mkB t.flags=f.testBit 3:=by unfold mkB;rw[hf,itn]
 have cI:=fun h=>qEB t f h hf hf2
 have cP:=fun l=>qDC t.page (h++l) hz.pg
 have cM:=fun l=>qDC t.name (h++l) hz.na
 have hG:=fun l=>qEs t.text (h++l) hz.tx (hp.app l)
 have cK:=fun l=>qEG t.text (h++l) hz.tx
 have cW:=fun l=>t88 t.text (h++l) hz.tx
 have cN:=fun l=>qCF t.norm (h++l) hz.nm
 unfold txB at hR;rw[eg,ek]at hR cI;obtain⟨bp,hbp⟩: ∃b,b=qwx t.page:=⟨_,rfl⟩
 obtain⟨bm,hbm⟩: ∃b,b=qwx t.name:=⟨_,rfl⟩
 obtain⟨bg,hbg⟩: ∃b,b=qb6 t.text:=⟨_,rfl⟩
 obtain⟨bk,hbk⟩: ∃b,b=qBA t.text:=⟨_,rfl⟩
 obtain⟨bw,hbw⟩: ∃b,b=qae t.text:=⟨_,rfl⟩
 obtain⟨bn,hbn⟩: ∃b,b=qAo t.norm:=⟨_,rfl⟩
 rw[←hbp,←hbm,←hbg,←hbk,←hbw,←hbn]at hR;simp only[←hbp]at cP;simp only[←hbm]at cM;simp only[←hbg]at hG;simp only[←hbk]at cK;simp only[←hbw]at cW;simp only[←hbn]at cN;unfold tkC at cI;rw[hf]at cI k1 k2;cases ga:f.testBit 1<;>cases gb:f.testBit 3<;>rw[ga]at e2 hR cI<;>rw[gb]at e8 hR cI<;>simp only[Bool.false_eq_true,if_true,if_false,and_true,and_false,Bool.not_false,Bool.not_true,Bool.and_false,Bool.and_true]at e2 e8 hR cI
 ·cases bw with
  |false=>
   rw[Bool.false_and,ipo rfl]at hR;rw[hR];refine acO ja ?_;simp (disch:=omega) only[j6,tkC,hf,k1,k2,e2,e8,go_sem]
   repeat' first
    |(refine qw (cW _) ?_;simp (disch:=omega) only[go_sem])
    |(apply qb;exact rvk;simp only[go_sem];exact qk)
  |true=>
  rw[Bool.true_and]at hR;cases bn with
  |false=>
   rw[ipo rfl]at hR;rw[hR];refine acO ja ?_;simp (disch:=omega) only[j6,tkC,hf,k1,k2,e2,e8,go_sem]
   repeat' first
    |(refine qw (cW _) ?_;simp (disch:=omega) only[go_sem])
    |((first|refine cA (cI _) ?_ ?_|refine cG (fun e=>cN _) ?_ ?_);exact flk;simp (disch:=omega) only[go_sem])
    |(apply qb;exact rvk;simp only[go_sem];exact qk)
  |true=>
   rw[ine (by simp)]at hR
   by_cases g4:t.line<0
   ·have k4:(t.line<0)=True:=eqt g4;rw[ipo g4]at hR;rw[hR];refine acO ja ?_;simp (disch:=omega) only[j6,tkC,hf,k1,k2,e2,e8,go_sem]
    repeat' first
     |(refine qw (cW _) ?_;simp (disch:=omega) only[k4,go_sem])
     |((first|refine cA (cI _) ?_ ?_|refine cG (fun e=>cN _) ?_ ?_);exact flk;simp (disch:=omega) only[k4,go_sem])
     |(apply qb;exact rvk;simp only[go_sem];first|exact qk|apply qh)
     |with_reducible first|intro _|apply aiA
    all_goals try exact clz
   have k4:(t.line<0)=False:=eqf g4;rw[ine g4]at hR;cases bp with
   |false=>
    rw[ipo (.inl rfl)]at hR;rw[hR];refine acO ja ?_;simp (disch:=omega) only[j6,tkC,hf,k1,k2,e2,e8,go_sem]
    repeat' first
     |(refine qw (cW _) ?_;simp (disch:=omega) only[k4,go_sem])
     |(refine qm ( .bool false) ?_;simp (disch:=omega) only[go_sem])
     |((first|refine cA (cI _) ?_ ?_|refine cG (fun e=>cN _) ?_ ?_|refine cA (cP _) ?_ ?_);exact flk;simp (disch:=omega) only[k4,go_sem])
     |(apply qb;exact rvk;simp only[go_sem];first|exact qk|apply qh)
     |with_reducible first|intro _|apply aiA
    all_goals try exact clz
   |true=>
   cases bm with
   |false=>
    rw[ipo (.inr rfl)]at hR;rw[hR];refine acO ja ?_;simp (disch:=omega) only[j6,tkC,hf,k1,k2,e2,e8,go_sem]
    repeat' first
     |(refine qw (cW _) ?_;simp (disch:=omega) only[k4,go_sem])
     |((first|refine cA (cI _) ?_ ?_|refine cG (fun e=>cN _) ?_ ?_|refine cA (cP _) ?_ ?_|refine cG (fun e=>cM _) ?_ ?_);exact flk;simp (disch:=omega) only[k4,go_sem])
     |(apply qb;exact rvk;simp only[go_sem];first|exact qk|apply qh)
     |with_reducible first|intro _|apply aiA
    all_goals try exact clz
   |true=>
    rw[ine (by simp)]at hR;rw[hR];refine acO ja ?_;simp (disch:=omega) only[j6,tkC,hf,k1,k2,e2,e8,go_sem]
    repeat' first
     |(refine qw (cW _) ?_;simp (disch:=omega) only[k4,go_sem])
     |((first|refine cA (cI _) ?_ ?_|refine cG (fun e=>cN _) ?_ ?_|refine cA (cP _) ?_ ?_|refine cG (fun e=>cM _) ?_ ?_);exact flk;simp (disch:=omega) only[k4,go_sem])
     |(apply qb;exact rvk;simp only[go_sem];first|exact qk|apply qh)
     |with_reducible first|intro _|apply aiA
    all_goals try exact clz
 ·cases bk with
  |false=>
   rw[Bool.false_and,ipo rfl]at hR;rw[hR];refine acO ja ?_;simp (disch:=omega) only[j6,tkC,hf,k1,k2,e2,e8,go_sem]
   repeat' first
    |(refine qw (cK _) ?_;simp (disch:=omega) only[go_sem])
    |(apply qb;exact rvk;simp only[go_sem];first|exact qk|apply qh)
    |with_reducible first|intro _|apply aiA
   all_goals try exact clz
  |true=>
  rw[Bool.true_and]at hR
  by_cases g3:t.norm=t.text
  ·have k3:(t.norm=t.text)=True:=eqt g3;rw[dqt g3,ine (by simp)]at hR
   by_cases g4:t.line<0
   ·have k4:(t.line<0)=True:=eqt g4;rw[ipo g4]at hR;rw[hR];refine acO ja ?_;simp (disch:=omega) only[j6,tkC,hf,k1,k2,e2,e8,go_sem]
    repeat' first
     |(refine qw (cK _) ?_;simp (disch:=omega) only[k4,go_sem])
     |(refine qm ( .bool false) ?_;simp (disch:=omega) only[k4,go_sem])
     |(refine cA (cI _) flk ?_;simp (disch:=omega) only[k3,k4,go_sem])
     |(apply qb;exact rvk;simp only[go_sem];first|exact qk|apply qh)
     |with_reducible first|intro _|apply aiA
    all_goals try exact clz
   have k4:(t.line<0)=False:=eqf g4;rw[ine g4]at hR;cases bp with
   |false=>
    rw[ipo (.inl rfl)]at hR;rw[hR];refine acO ja ?_;simp (disch:=omega) only[j6,tkC,hf,k1,k2,e2,e8,go_sem]
    repeat' first
     |(refine qw (cK _) ?_;simp (disch:=omega) only[k4,go_sem])
     |(refine qm ( .bool false) ?_;simp (disch:=omega) only[k4,go_sem])
     |((first|refine cA (cI _) ?_ ?_|refine cA (cP _) ?_ ?_);exact flk;simp (disch:=omega) only[k3,k4,go_sem])
     |(apply qb;exact rvk;simp only[go_sem];first|exact qk|apply qh)
     |with_reducible first|intro _|apply aiA
    all_goals try exact clz
   |true=>
   cases bm with
   |false=>
    rw[ipo (.inr rfl)]at hR;rw[hR];refine acO ja ?_;simp (disch:=omega) only[j6,tkC,hf,k1,k2,e2,e8,go_sem]
    repeat' first
     |(refine qw (cK _) ?_;simp (disch:=omega) only[k4,go_sem])
     |(refine qm ( .bool false) ?_;simp (disch:=omega) only[k4,go_sem])
     |((first|refine cA (cI _) ?_ ?_|refine cA (cP _) ?_ ?_|refine cG (fun e=>cM _) ?_ ?_);exact flk;simp (disch:=omega) only[k3,k4,go_sem])
     |(apply qb;exact rvk;simp only[go_sem];first|exact qk|apply qh)
     |with_reducible first|intro _|apply aiA
    all_goals try exact clz
   |true=>
    rw[ine (by simp)]at hR;rw[hR];refine acO ja ?_;simp (disch:=omega) only[j6,tkC,hf,k1,k2,e2,e8,go_sem]
    repeat' first
     |(refine qw (cK _) ?_;simp (disch:=omega) only[k4,go_sem])
     |(refine qm ( .bool false) ?_;simp (disch:=omega) only[k4,go_sem])
     |((first|refine cA (cI _) ?_ ?_|refine cA (cP _) ?_ ?_|refine cG (fun e=>cM _) ?_ ?_);exact flk;simp (disch:=omega) only[k3,k4,go_sem])
     |(apply qb;exact rvk;simp only[go_sem];first|exact qk|apply qh)
     |with_reducible first|intro _|apply aiA
    all_goals try exact clz
  ·have k3:(t.norm=t.text)=False:=eqf g3;rw[dqf g3,ipo rfl]at hR;rw[hR];refine acO ja ?_;simp (disch:=omega) only[j6,tkC,hf,k1,k2,e2,e8,go_sem]
   repeat' first
    |(refine qw (cK _) ?_;simp (disch:=omega) only[go_sem])
    |(refine qm ( .bool false) ?_;simp (disch:=omega) only[go_sem])
    |(refine cA (cI _) flk ?_;simp (disch:=omega) only[k3,go_sem])
    |(apply qb;exact rvk;simp only[go_sem];first|exact qk|apply qh)
    |with_reducible first|intro _|apply aiA
   all_goals try exact clz
 ·cases bg with
  |false=>
   rw[Bool.false_and,ipo rfl]at hR;rw[hR];refine acO ja ?_;simp (disch:=omega) only[j6,tkC,hf,k1,k2,e2,e8,go_sem]
   repeat' first
    |(refine qw (hG _) ?_;simp (disch:=omega) only[go_sem])
    |(apply qb;exact rvk;simp only[go_sem];exact qk)
    |with_reducible first|intro _|apply aiA
   all_goals try exact clz
  |true=>
  rw[Bool.true_and]at hR
  by_cases g3:t.norm=t.text
  ·have k3:(t.norm=t.text)=True:=eqt g3;rw[dqt g3,ine (by simp)]at hR
   by_cases g4:t.line<0
   ·have k4:(t.line<0)=True:=eqt g4;rw[ipo g4]at hR;rw[hR];refine acO ja ?_;simp (disch:=omega) only[j6,tkC,hf,k1,k2,e2,e8,go_sem]
    repeat' first
     |(refine qw (hG _) ?_;simp (disch:=omega) only[k4,go_sem])
     |(refine qm ( .bool false) ?_;simp (disch:=omega) only[k4,go_sem])
     |(refine cA (cI _) flk ?_;simp (disch:=omega) only[k3,k4,go_sem])
     |(apply qb;exact rvk;simp only[go_sem];exact qk)
     |with_reducible first|intro _|apply aiA
    all_goals try exact clz
   have k4:(t.line<0)=False:=eqf g4;rw[ine g4]at hR;cases bp with
   |false=>
    rw[ipo (.inl rfl)]at hR;rw[hR];refine acO ja ?_;simp (disch:=omega) only[j6,tkC,hf,k1,k2,e2,e8,go_sem]
    repeat' first
     |(refine qw (hG _) ?_;simp (disch:=omega) only[k4,go_sem])
     |(refine qm ( .bool false) ?_;simp (disch:=omega) only[k4,go_sem])
     |((first|refine cA (cI _) ?_ ?_|refine cA (cP _) ?_ ?_);exact flk;simp (disch:=omega) only[k3,k4,go_sem])
     |(apply qb;exact rvk;simp only[go_sem];exact qk)
     |with_reducible first|intro _|apply aiA
    all_goals try exact clz
   |true=>
   cases bm with
   |false=>
    rw[ipo (.inr rfl)]at hR;rw[hR];refine acO ja ?_;simp (disch:=omega) only[j6,tkC,hf,k1,k2,e2,e8,go_sem]
    repeat' first
     |(refine qw (hG _) ?_;simp (disch:=omega) only[k4,go_sem])
     |(refine qm ( .bool false) ?_;simp (disch:=omega) only[k4,go_sem])
     |((first|refine cA (cI _) ?_ ?_|refine cA (cP _) ?_ ?_|refine cG (fun e=>cM _) ?_ ?_);exact flk;simp (disch:=omega) only[k3,k4,go_sem])
     |(apply qb;exact rvk;simp only[go_sem];exact qk)
     |with_reducible first|intro _|apply aiA
    all_goals try exact clz
   |true=>
    rw[ine (by simp)]at hR;rw[hR];refine acO ja ?_;simp (disch:=omega) only[j6,tkC,hf,k1,k2,e2,e8,go_sem]
    repeat' first
     |(refine qw (hG _) ?_;simp (disch:=omega) only[k4,go_sem])
     |(refine qm ( .bool false) ?_;simp (disch:=omega) only[k4,go_sem])
     |((first|refine cA (cI _) ?_ ?_|refine cA (cP _) ?_ ?_|refine cG (fun e=>cM _) ?_ ?_);exact flk;simp (disch:=omega) only[k3,k4,go_sem])
     |(apply qb;exact rvk;simp only[go_sem];exact qk)
     |with_reducible first|intro _|apply aiA
    all_goals try exact clz
  ·have k3:(t.norm=t.text)=False:=eqf g3;rw[dqf g3,ipo rfl]at hR;rw[hR];refine acO ja ?_;simp (disch:=omega) only[j6,tkC,hf,k1,k2,e2,e8,go_sem]
   repeat' first
    |(refine qw (hG _) ?_;simp (disch:=omega) only[go_sem])
    |(refine qm ( .bool false) ?_;simp (disch:=omega) only[go_sem])
    |(refine cA (cI _) flk ?_;simp (disch:=omega) only[k3,go_sem])
    |(apply qb;exact rvk;simp only[go_sem];exact qk)
    |with_reducible first|intro _|apply aiA
   all_goals try exact clz
 ·rw[hR];refine acO ja ?_;simp (disch:=omega) only[j6,tkC,hf,k1,k2,e2,e8,go_sem]
  repeat' first
   |(apply qb;exact rvk;simp only[go_sem];exact qk)
   |with_reducible first|intro _|apply aiA
  all_goals try exact clz
end RC
end
section
open Go Go.Proofs AF
def kq:List Nat:= []
theorem qCi:qB Tryz.prog 54 9 0 [RV.tmp 4] (cCT 128):=fi Tryz.f54 [] kq []
theorem qzS:qB Tryz.prog 92 9 0 [RV.tmp 4] (cCT 106):=fi Tryz.f92 [] kq []
theorem qrK:qB Tryz.prog 106 19 0 [RV.tmp 4] (cIF 7 (some 7)):=fi Tryz.f106 [] kq []
theorem qrS:qB Tryz.prog 127 19 0 [RV.tmp 4] (cIF 2 (some 2)):=fi Tryz.f127 [] kq []
theorem qrT:qB Tryz.prog 128 19 0 [RV.tmp 4] (cIF 3 (some 3)):=fi Tryz.f128 [] kq []
theorem qy6:qB Tryz.prog 205 9 0 [RV.tmp 4] (cCT 246):=fi Tryz.f205 [] kq []
theorem qzj:qB Tryz.prog 246 19 0 [RV.tmp 4] (cIF 6 (some 6)):=fi Tryz.f246 [] kq []
theorem qzm:qB Tryz.prog 253 9 0 [RV.tmp 4] (cCT 293):=fi Tryz.f253 [] kq []
def qtp:C:=
 ((C.ops [MC 6 (.bool false)]).seq (((C.ops [MV 10 0,O1 11 .len 10,MV 12 1,O1 13 .len 12,BI 14 .neq 11 13]).seq (C.cond (.t 14) ((C.ops [MC 6 (.bool false)]).seq C.ret)
 C.skip)).seq (((C.ops [MV 15 0,O1 16 .len 15,MC 17 (i6 0)]).seq (C.block 0 ((C.ops [BI 18 .lss 17 16]).seq ((C.cond (.t 18) C.skip (C.exit 0)).seq ((C.block 1 ((C.ops [MV 19 17,
 O2 20 (.idxA 2) 15 17,O1 21 (.load (some 2)) 20,⟨some 8,none,.alloc 0 89 [.nl,.nl],[]⟩,MV 7 19,ST 2 8 21]).seq ((C.ops [MV 22 1,MV 23 7,O2 24 (.idxA 2) 22 23,O1 25
 (.load (some 2)) 24,⟨some 9,none,.alloc 1 89 [.nl,.nl],[]⟩,ST 2 9 25]).seq ((C.ops [MV 26 2,O1 27 (.load (some 2)) 8,O1 28 (.load (some 2)) 9,ON 29 .callv [.t 26,.t 27,
 .t 28],O1 30 (.un UnOp.not) 29]).seq (C.cond (.t 30) ((C.ops [MC 6 (.bool false)]).seq C.ret) C.skip))))).seq (C.ops [BC 31 .add 17 (i6 1),MV 17 31])))).loop)).seq ((C.ops [MC 6
 (.bool true)]).seq
 C.ret))))
theorem qsa:qB Tryz.prog 272 32 2 [RV.tmp 6] qtp:=fi Tryz.f272 [8,9] kq []
theorem qzB:qB Tryz.prog 293 19 0 [RV.tmp 4] (cIF 1 none):=fi Tryz.f293 [] kq []
end
