import Derived.Test.YtgoandblgcjleaaGreatDoorK12
import Derived.Test.YtgoandblgcjleaaGreatDoorK3
import Derived.Test.YtgoandblgcjleaaGreatDoorK5
import Derived.Test.YtgoandblgcjleaaGreatDoorK8
import Derived.Test.YtgoandblgcjleaaGreatDoorProg
import Derived.Test.YtgoandblgcjleaaGreatDoorK10
set_option linter.all false
set_option linter.unusedSimpArgs false
set_option linter.unusedVariables false
set_option linter.unusedSectionVars false
set_option maxHeartbeats 64000000
set_option maxRecDepth 100000
section
open Go Go.Proofs AF HY LN
namespace RC
def j9(ms:List Nat):AV:= .sl ms.length fun i=> [.int .u64 ((ms.getD i 0:Nat):Int)]
theorem qio(L:List Nat):(j9 L).flag=true:=rfl
theorem qgD(L:List Nat):(j9 L).strip=j9 L:=rfl
theorem qgr(L:List Nat):(j9 L).solid=true:=rfl
theorem qfU(L:List Nat):(j9 L).cells= [j9 L]:=rfl
attribute [go_sem] qio qgD qgr qfU
def qgc(ms:List Nat)(c:Nat):Nat→Nat
 |0=>0
 |i+1=>if c.testBit i=true then qgc ms c i|||ms.getD i 0 else qgc ms c i
theorem qcP(ms:List Nat)(c i:Nat):qgc ms c (i+1)=if c.testBit i=true then qgc ms c i|||ms.getD i 0 else qgc ms c i:=rfl
def chN(ms:List Nat)(c:Nat):Nat:=qgc ms c ms.length
theorem qme{ms:List Nat}(hm: ∀i,ms.getD i 0<2^64)(c:Nat): ∀i,qgc ms c i<2^64:=by
 intro i
 induction i with
 |zero=>show (0:Nat)<2^64;decide
 |succ i ih=>
  unfold qgc;split
  ·exact Nat.or_lt_two_pow ih (hm i)
  ·exact ih
theorem qrF{ms:List Nat}(hm: ∀i,ms.getD i 0<2^64)(c:Nat):chN ms c<2^64:=qme hm c _
def qom(ms:List Nat):List (List AV):=(List.range (2^ms.length)).map fun c=> [.int .u64 ((c:Nat):Int),.int .u64 ((chN ms c:Nat):Int)]
theorem qdK(ms:List Nat):(qom ms).length=2^ms.length:=by simp[qom]
theorem qg0{ms:List Nat}{i:Nat}(hi:i<(qom ms).length):(qom ms)[i]= [.int .u64 ((i:Nat):Int),.int .u64 ((chN ms i:Nat):Int)]:=by
 simp[qom]
theorem qo4(ms:List Nat): ∀a∈qom ms,a.length=2:=by
 intro a ha;unfold qom at ha;obtain⟨_,_,rfl⟩:=List.mem_map.1 ha;rfl
theorem qD9(ms:List Nat)(h:List AObj):ACalls Tryz.prog 198 [j9 ms] h (.fn (.func 245) [] [.ip [j9 ms]]) h:=by
 refine acO qy0 ?_;simp (disch:=omega) only[qxj,go_sem]
 repeat' first
  |(apply qb;exact rvk;simp only[go_sem];exact qk)
set_option maxHeartbeats 16000000 in
theorem itC(ms:List Nat)(hl:ms.length≤16)(hm: ∀i,ms.getD i 0<2^64):qwq Tryz.prog 245 [.ip [j9 ms]] (qom ms):=by
 intro h ts LI S E hS hE body start hts;have zl: ∀g,valL g .len [j9 ms]= .int .i64 ms.length:=fun _=>rfl
 have zo: ∀g,okL g .len [j9 ms]=True:=fun _=>eqt trivial
 have hsh:=qgn (n:=ms.length) om;have hp:2^ms.length≤2^16:=Nat.pow_le_pow_right om hl;have hxl:=qdK ms;obtain⟨N,hN⟩: ∃N,N=2^ms.length:=⟨_,rfl⟩
 rw[←hN]at hsh hp hxl;refine acQ qzi ?_;simp (disch:=omega) only[qxz,zl,zo,hsh,go_sem]
 repeat' first
  |with_reducible apply aiA
 all_goals try exact clz
 refine qn (T:=fun i:Nat×List AObj=>qI 35 [(0,.yld h.length),(1,.ip [j9 ms]),(9,.int .u64 ((N:Nat):Int)),(10,.int .u64 ((i.1:Nat):Int))])
  (H:=fun i=>i.2++ [.lp .ready ts LI])
  (inv:=fun i=>i.1≤N∧S i.1 i.2) (m:=fun i=>N-i.1) (0,h) ⟨nzl _,start⟩ (Wk.temps ?_) ?_
 ·(simp only[go_sem,qj,qd,qa,qi];try (repeat' first|(with_reducible apply aiA)|(apply qh;omega)|(apply qg;rfl)|exact qk))
 rintro⟨i,hh⟩ ⟨i1,i2⟩ K hK;simp only at i1 i2 hK;obtain⟨hlen,hlow⟩:=hS _ _ i2;have hb:(h++ [AObj.lp LS.ready ts LI]).length=(hh++ [AObj.lp LS.ready ts LI]).length:=by simp[hlen]
 rw[hb]
 by_cases hi:i<N
 ·have q0:((i:Int)<N)=True:=eqt om;have hix:i<(qom ms).length:=by omega
  have hb':=body i hh [] hix i2;rw[qg0 hix]at hb';simp (disch:=omega) only[q0,zl,zo,go_sem]
  repeat' first
   |with_reducible apply aiA
  all_goals try exact clz
  have hclt:i<2^64:=by omega
  have hml:=qme hm i;refine qn (T:=fun j:Nat=>qI 35 [(0,.yld (hh++ [AObj.lp LS.ready ts LI]).length.pred),(1,.ip [j9 ms]),(3,.int .u64 ((i:Nat):Int)),(4,.int .u64 ((qgc ms i j:Nat):Int)),(9,.int .u64 ((N:Nat):Int)),(10,.int .u64 ((i:Nat):Int)),(13,j9 ms),(14,.int .i64 ms.length),(15,.int .i64 j)])
   (H:=fun _=>hh++ [.lp .ready ts LI]) (inv:=fun j=>j≤ms.length) (m:=fun j=>ms.length-j) 0 (nzl _) (Wk.temps ?_) ?_
  ·have e2:(hh++ [AObj.lp LS.ready ts LI]).length.pred=h.length:=by simp[hlen]
   rw[e2]
   (simp only[qgc,go_sem,qj,qd,qa,qi];try (repeat' first|(with_reducible apply aiA)|(apply qh;omega)|(apply qg;rfl)|exact qk))
  have e2:(hh++ [AObj.lp LS.ready ts LI]).length.pred=h.length:=by simp[hlen]
  rw[e2];rintro j j1 K2 hK2
  by_cases hj:j<ms.length
  ·have q1:((j:Int)<ms.length)=True:=eqt om;have e1:=qkw (a:=i) (n:=j) hclt om;have eo:=qhq (hml j) (hm j);have hs:=qcP ms i j;have q2:(0≤(j:Int))=True:=eqt om;cases g:i.testBit j with
   |true=>
    rw[g,ipo rfl]at e1;rw[g,ipo rfl]at hs;simp (disch:=omega) only[j9,q1,q2,e1,go_sem]
    repeat' first
     |with_reducible apply aiA
    all_goals try exact clz
    refine hK2 _ _ (j+1) hj om ?_;simp only[hs];refine Wk.temps ?_
    (simp only[j9,go_sem,qj,qd,qa,qi];try (repeat' first|(with_reducible apply aiA)|(apply qh;omega)|(apply qg;rfl)|exact qk))
   |false=>
    rw[g,ine (by simp)]at e1;rw[g,ine (by simp)]at hs;simp (disch:=omega) only[j9,q1,q2,e1,go_sem]
    repeat' first
     |with_reducible first|intro _|apply aiA
    all_goals try exact clz
    refine hK2 _ _ (j+1) hj om ?_;simp only[hs];refine Wk.temps ?_
    (simp only[j9,go_sem,qj,qd,qa,qi];try (repeat' first|(with_reducible apply aiA)|(apply qh;omega)|(apply qg;rfl)|exact qk))
  ·obtain rfl:j=ms.length:=by omega
   have q1:((ms.length:Int)<ms.length)=False:=eqf om;have hch:qgc ms i ms.length=chN ms i:=rfl;rw[hch];simp (disch:=omega) only[q1,go_sem]
   repeat' first
    |with_reducible apply aiA
   ·exact⟨.ready,ts,LI,kz hlen⟩
   ·refine ku.mono ?_ hb';rintro v h' ⟨hh',⟨rfl,hn,rfl⟩|⟨st,rfl,hs',rfl⟩⟩
    ·simp (disch:=omega) only[go_sem];refine hK _ _ (i+1,hh') ⟨hi,hn⟩ (by simp only;omega) (Wk.temps ?_)
     (simp only[go_sem,qj,qd,qa,qi];try (repeat' first|(with_reducible apply aiA)|(apply qh;omega)|(apply qg;rfl)|exact qk))
     rw[qbm om om];exact qh om
    ·simp (disch:=omega) only[go_sem];obtain⟨r1,r2⟩:=(hE _ _ hs').ret (L:=LI) st hts;exact ky trivial r1 r2 ⟨_,.inr ⟨st,hs',rfl⟩⟩ (qk)
 ·have e:i=N:=by omega
  subst e;have q0:((i:Int)<i)=False:=eqf om;simp (disch:=omega) only[q0,go_sem];obtain⟨r1,r2⟩:=(hS _ _ i2).ret (L:=LI) .ready hts;exact ky trivial r1 r2 ⟨hh,.inl ⟨by rw[hxl];exact i2,rfl⟩⟩ (qk)
def usM(gs:List Gr)(L:List Int):List Nat:=L.map fun i=>qaf (gs.getD i.toNat default).mem
theorem qgI(gs:List Gr)(L:List Int):(usM gs L).length=L.length:=by simp[usM]
theorem qgH{gs:List Gr}{L:List Int}{i:Nat}(hi:i<L.length):(usM gs L).getD i 0=qaf (gs.getD (L.getD i 0).toNat default).mem:=by
 unfold usM;rw[gdqA,List.getElem?_map,zp hi,gdqA (l:=L),zp hi];rfl
theorem qsE{gs:List Gr}(hm: ∀i,inB 64 (gs.getD i default).mem)(L:List Int)(i:Nat):(usM gs L).getD i 0<2^64:=by
 by_cases hi:i<L.length
 ·rw[qgH hi];exact qcR (hm _)
 ·rw[gdqA,List.getElem?_eq_none (by rw[qgI];omega)];show (0:Nat)<2^64;decide
def kr(gs:List Gr)(all:Nat)(L:List Int)(c:Nat):List Int:=
 (qT c.testBit 64).map (fun k=>L.getD k.toNat 0)++(qT (anN all (chN (usM gs L) c)).testBit 64).map (fun s=>(gs.length:Int)+s)
theorem qcp(gs:List Gr)(all:Nat)(L:List Int)(c:Nat):(kr gs all L c).length=qmR c+qmR (anN all (chN (usM gs L) c)):=by
 unfold kr qmR;rw[lap,List.length_map,List.length_map]
def qjM(a b:List Int):Bool:=decide (a.length<b.length)||decide (a.length=b.length)&&decide (qo8 a b<0)
def bst(gs:List Gr)(all:Nat)(L:List Int):Nat→List Int
 |0=>kr gs all L 0
 |c+1=>if qjM (kr gs all L (c+1)) (bst gs all L c)=true then kr gs all L (c+1) else bst gs all L c
theorem qkz(gs:List Gr)(all:Nat)(L:List Int): ∀c,∃k,k≤c∧bst gs all L c=kr gs all L k:=by
 intro c
 induction c with
 |zero=>exact⟨0,nlr _,rfl⟩
 |succ c ih=>
  obtain⟨k,h1,h2⟩:=ih;unfold bst;split
  ·exact⟨c+1,nlr _,rfl⟩
  ·exact⟨k,om,h2⟩
def qBw(gs:List Gr)(all:Nat):List Int:=bst gs all (qbL gs all) (2^(qbL gs all).length-1)
def qaj(names:List Str)(gs:List Gr)(p:Int):Str:=if p<gs.length then (gs.getD p.toNat default).name else names.getD (p-gs.length).toNat []
def shR(names:List Str)(gs:List Gr)(set:List Int):List Str:=if qbJ names gs set=0 then (qBw gs (qaf set)).map (qaj names gs) else []
theorem qea{c n k:Nat}(hc:c<2^n)(hk:c.testBit k=true):k<n:=by
 by_cases h:k<n
 ·exact h
 ·rw[Nat.testBit_lt_two_pow (Nat.lt_of_lt_of_le hc (Nat.pow_le_pow_right om om))]at hk;cases hk
theorem jk{p:Nat→Bool}{n:Nat}{x:Int}(h:x∈qT p n): ∃k:Nat,x=(k:Int)∧k<n∧p k=true:=by
 unfold qT at h;obtain⟨k,h1,rfl⟩:=List.mem_map.1 h;obtain⟨h2,h3⟩:=List.mem_filter.1 h1;exact⟨k,rfl,List.mem_range.1 h2,h3⟩
theorem qgd{set:List Int}{n:Nat}(hn:n≤64)(h:inB n set):qaf set<2^n:=by
 have h64:inB 64 set:=fun i hi=>by have:=h i hi;omega
 refine Nat.lt_pow_two_of_testBit _ fun i hi=> ?_
 rw[qaa h64];refine dqf fun hm=> ?_
 have:=jl h _ hm
 omega
theorem qrz{a b n:Nat}(h:a<2^n):anN a b<2^n:=Nat.lt_of_le_of_lt (qry a b) h
theorem qgP{gs:List Gr}{all:Nat}{x:Int}(h:x∈qbL gs all): ∃k:Nat,x=(k:Int)∧k<gs.length:=by
 obtain⟨k,h1,h2,_⟩:=jk h;exact⟨k,h1,h2⟩
theorem qsv{names:List Str}{gs:List Gr}{set:List Int}{all:Nat}(hs:inB names.length set)(hn:names.length≤64)(ha:all=qaf set){c:Nat}(hc:c<2^(qbL gs all).length){p:Int}(hp:p∈kr gs all (qbL gs all) c):0≤p∧p<gs.length+names.length:=by
 unfold kr at hp;rcases List.mem_append.1 hp with hp|hp
 ·obtain⟨k,h1,rfl⟩:=List.mem_map.1 hp;obtain⟨k',rfl,h2,h3⟩:=jk h1;have hk:=qea hc h3;have hm:(qbL gs all).getD k' 0∈qbL gs all:=by
   rw[gdqA,zp hk];exact List.getElem_mem hk
  obtain⟨g,e,hg⟩:=qgP hm;rw[itn,e];omega
 ·obtain⟨k,h1,rfl⟩:=List.mem_map.1 hp;obtain⟨k',rfl,h2,h3⟩:=jk h1
  have:=qea (qrz (b:=chN (usM gs (qbL gs all)) c) (by rw[ha];exact qgd hn hs)) h3
  omega
end RC
end
section
open Go Go.Proofs AF
def qAh:List Nat:= [132,109,174,220,68]
def qta:C:=
 ((C.ops [O1 4 (.box 0 44) 1,ON 6 (.nilo 1 1 9) [],MC 7 (i6 0)]).seq (((C.ops [MV 27 0,LD 28 4,MV 29 2,ON 30 (.call 196 true) [.t 27,.t 28,.t 29],MV 8 30]).seq ((C.ops [MV
 31 8,BC 32 .neq 31 (i6 0)]).seq (C.cond (.t 32) ((C.ops [MV 33 8,ON 6 (.nilo 1 1 9) [],MV 7 33]).seq C.ret) C.skip))).seq ((C.ops [MV 34 2,O1 35 (.call 125 true) 34,⟨some 9,
 none,.alloc 2 164 [.int .u64 0],[]⟩,ST 1 9 35]).seq ((C.ops [LD 36 4,LD 37 9,O2 38 (.call 197 true) 36 37,⟨some 10,none,.alloc 3 62 [.nl],[]⟩,ST 1 10 38]).seq ((C.ops [ON
 11 (.nilo 4 1 164) []]).seq (((C.ops [LD 39 10,O1 40 .len 39,MC 41 (i6 0)]).seq (C.block 0 ((C.ops [BI 42 .lss 41 40]).seq ((C.cond (.t 42) C.skip (C.exit 0)).seq ((C.block 1
 ((C.ops [O2 43 (.idxA 1) 39 41,LD 44 43,MV 13 44]).seq (C.ops [MV 45 11,LD 46 4,MV 47 13,O2 48 (.idxA 2) 46 47,O1 49 (.fldA 1) 48,LD 50 49,O1 51 (.call 125 true) 50,⟨some
 52,none,.bslc 5 1 1 164 [.int .u64 0] [(0,1)],[.t 51]⟩,O2 53 (.app 6 1 164 8) 45 52,MV 11 53]))).seq (C.ops [BC 54 .add 41 (i6 1),MV 41 54])))).loop)).seq ((C.ops [⟨some 14,
 none,.alloc 7 62 [.nl],[]⟩]).seq ((C.ops [⟨some 15,none,.alloc 8 4 [.bool false],[]⟩,⟨none,none,.store 1,[.t 15,.c (.bool false)]⟩]).seq (((C.wk.seq (C.ops [MV 55 11,O1
 56 (.call 198 true) 55])).seq (C.block 2 (C.range (.t 56) [57,58] ((C.ops [MV 16 57]).seq (C.ops [MV 17 58])) (C.block 3 ((C.wk.seq (C.ops [MV 59 16,O1 60 (.call 199 true) 59,LD
 61 9,MV 62 17,BI 63 .andNot 61 62,O1 64 (.call 199 true) 63,BI 65 .add 60 64,MV 18 65])).seq (((C.ops [LD 66 15,MV 67 66,MG 68 67 true 18,P1 69 67 true (.load none) 14,P1
 70 67 true .len 69,P2 71 67 true (.bin .gtr) 68 70,PF 72 67 71]).seq (C.cond (.t 72) (C.exit 3) C.skip)).seq ((C.ops [ON 19 (.nilo 9 1 3) []]).seq (((C.ops [MV 73 16,O1 74
 (.call 126 true) 73,O1 75 .len 74,MC 76 (i6 0)]).seq (C.block 4 ((C.ops [BI 77 .lss 76 75]).seq ((C.cond (.t 77) C.skip (C.exit 4)).seq ((C.block 5 ((C.ops [O2 78 (.idxA 1) 74
 76,LD 79 78,MV 21 79]).seq (C.ops [MV 80 19,LD 81 10,MV 82 21,O2 83 (.idxA 1) 81 82,LD 84 83,⟨some 85,none,.bslc 10 1 1 3 [i6 0] [(0,1)],[.t 84]⟩,O2 86 (.app 11 1 3 8)
 80 85,MV 19 86]))).seq (C.ops [BC 87 .add 76 (i6 1),MV 76 87])))).loop)).seq (((C.ops [LD 88 9,MV 89 17,BI 90 .andNot 88 89,O1 91 (.call 126 true) 90,O1 92 .len 91,MC 93 (i6
 0)]).seq (C.block 6 ((C.ops [BI 94 .lss 93 92]).seq ((C.cond (.t 94) C.skip (C.exit 6)).seq ((C.block 7 ((C.ops [O2 95 (.idxA 1) 91 93,LD 96 95,MV 23 96]).seq (C.ops [MV 97 19,
 LD 98 4,O1 99 .len 98,MV 100 23,BI 101 .add 99 100,⟨some 102,none,.bslc 12 1 1 3 [i6 0] [(0,1)],[.t 101]⟩,O2 103 (.app 13 1 3 8) 97 102,MV 19 103]))).seq (C.ops [BC 104
 .add 93 (i6 1),MV 93 104])))).loop)).seq ((C.ops [LD 105 15,O1 106 (.un UnOp.not) 105,MV 107 106,MG 108 107 false 19,P1 109 107 false .len 108,P1 110 107 false (.load none)
 14,P1 111 107 false .len 110,P2 112 107 false (.bin .lss) 109 111,PT 113 107 112,MV 114 113,MG 115 114 false 19,P1 116 114 false (.load none) 14,P2 117 114 false (.call 66
 true) 115 116,PC 118 114 false (.bin .lss) 117 (i6 0),PT 119 114 118]).seq (C.cond (.t 119) (C.ops [MV 120 19,ST 1 14 120,⟨none,none,.store 1,[.t 15,.c (.bool true)]⟩])
 C.skip))))))))))).seq ((C.ops [ON 24 (.nilo 14 1 9) []]).seq (((C.wk.seq (C.ops [LD 121 14,O1 122 .len 121,MC 123 (i6 0)])).seq (C.block 8 ((C.ops [BI 124 .lss 123 122]).seq
 ((C.cond (.t 124) C.skip (C.exit 8)).seq ((C.block 9 ((C.ops [O2 125 (.idxA 1) 121 123,LD 126 125,MV 26 126]).seq ((C.ops [MV 127 26,LD 128 4,O1 129 .len 128,BI 130 .lss 127
 129]).seq (C.cond (.t 130) (C.ops [MV 131 24,LD 132 4,MV 133 26,O2 134 (.idxA 2) 132 133,O1 135 (.fldA 0) 134,LD 136 135,⟨some 137,none,.bslc 15 1 1 9 [.str []] [(0,1)],
 [.t 136]⟩,O2 138 (.app 16 1 9 16) 131 137,MV 24 138]) (C.ops [MV 139 24,MV 140 0,MV 141 26,LD 142 4,O1 143 .len 142,BI 144 .sub 141 143,O2 145 (.idxA 1) 140 144,LD 146
 145,⟨some 147,none,.bslc 17 1 1 9 [.str []] [(0,1)],[.t 146]⟩,O2 148 (.app 18 1 9 16) 139 147,MV 24 148]))))).seq (C.ops [BC 149 .add 123 (i6 1),MV 123 149])))).loop)).seq
 ((C.ops [MV 150 24,MV 6 150,MC 7 (i6 0)]).seq
 C.ret))))))))))))
theorem qrV:qB Tryz.prog 142 151 19 [RV.tmp 6,RV.tmp 7] qta:=fi Tryz.f142 [4,6,9,10,11,52,53,14,15,19,85,86,102,103,24,137,138,147,148] qAh [14,17,33]
end
section
open Go Go.Proofs AF HY LN
namespace RC
def qey(ms:List Nat):List AV:=ms.map fun m=> .int .u64 ((m:Nat):Int)
theorem qhH(ms:List Nat):(qey ms).length=ms.length:=by simp[qey]
theorem qri(a b:List Nat):qey (a++b)=qey a++qey b:=by simp[qey]
theorem qji{L:List Nat}{i:Nat}(hi:i<L.length):L.take (i+1)=L.take i++ [L.getD i 0]:=by
 rw[List.take_succ_eq_append_getElem hi,gdqA,zp hi];rfl
theorem zS{L:List Int}{i:Nat}(hi:i<L.length):L.take (i+1)=L.take i++ [L.getD i 0]:=by
 rw[List.take_succ_eq_append_getElem hi,gdqA,zp hi];rfl
theorem qrj{L:List Nat}{n:Nat}(g:AV→AV)(hg: ∀n,g (.int .u64 n)= .int .u64 n)(hn:n=L.length):VLe (.sl n fun i=>(((qey L).drop i).take 1).map g) (j9 L):=by
 subst hn;refine VLe.sl_eq rfl (fun i hi=> ?_);unfold qey;rw[←List.map_drop,List.drop_eq_getElem_cons hi,List.map_cons,List.take_succ_cons,List.take_zero,List.map_cons,List.map_nil,hg,gdqA,zp hi];rfl
theorem qqT{v n:Nat}{L:List Nat}{g:AV→AV}(hg: ∀s,g (.int .u64 s)= .int .u64 s)(hn:n=L.length):VLe (qeh (some (zP v 164 (qey L))) v 1 0 n g) (j9 L):=by
 subst hn
 by_cases h:L= []
 ·subst h;show VLe (qeh (some (.emp v)) v 1 0 0 g) _;rw[slOf_emp,ipo rfl];exact jf
 ·have e0:zP v 164 (qey L)= .mem v 164 (qey L):=jJ (by simpa[qey] using h);rw[e0,slOf_mem,ipo ⟨rfl,by rw[qhH];omega⟩];simp only[Nat.zero_add,Nat.mul_one];exact qrj g hg rfl
def shH(h:List AObj)(gs:List Gr)(all:Nat)(L:List Int)(v4:Nat)(O5:AObj)(bc:AV)(fd:Bool)(O9 O10 O12:AObj)(tl:List AObj):List AObj:=
 h++(.mem 1 44 [qu gs]:: .emp 1:: .mem 1 164 [.int .u64 ((all:Nat):Int)]:: .mem 1 62 [ql L]:: .emp v4::O5:: .emp 0:: .mem 1 62 [bc]:: .mem 1 4 [.bool fd]::O9::O10:: .emp 0::O12:: .emp 0:: .emp 0:: .emp 0:: .emp 0:: .emp 0:: .emp 0::tl)
theorem qbD(h:List AObj)(gs:List Gr)(all:Nat)(L:List Int)(v4:Nat)(O5:AObj)(bc:AV)(fd:Bool)(O9 O10 O12:AObj)(tl:List AObj):shH h gs all L v4 O5 bc fd O9 O10 O12 []++tl=shH h gs all L v4 O5 bc fd O9 O10 O12 tl:=by simp[shH]
theorem jt(h:List AObj)(gs:List Gr)(all:Nat)(L:List Int)(v4:Nat)(O5:AObj)(bc:AV)(fd:Bool)(O9 O10 O12:AObj):(shH h gs all L v4 O5 bc fd O9 O10 O12 []).length=h.length+19:=by simp[shH]
def bsC(gs:List Gr)(all:Nat)(L:List Int):Nat→AV
 |0=> .nl
 |i+1=>ql (bst gs all L i)
def bsO(h:List AObj)(gs:List Gr)(all:Nat)(L:List Int)(i:Nat)(bc:AV)(O9:AObj):Prop:=
 (bc=bsC gs all L i∧qC [O9] 0=true)∨ ∃j v,i=j+1∧bc= .osl (h.length+9) v 1 0 (bst gs all L j).length∧O9=zP v 3 (qp (bst gs all L j))
theorem shW{h:List AObj}{gs:List Gr}{all:Nat}{L:List Int}{v4 i:Nat}{O5:AObj}{bc:AV}{fd:Bool}{O9 O10 O12:AObj}{tl:List AObj}(hb:bsO h gs all L i bc O9)(hl: ∀n,lowO n O9):
  ∃O9',qC [O9'] 0=true∧(∀n,lowO n O9')∧ ∀TT,Wk TT (shH h gs all L v4 O5 bc fd O9 O10 O12 tl) TT (shH h gs all L v4 O5 (bsC gs all L i) fd O9' O10 O12 tl):=by
 rcases hb with⟨rfl,h2⟩|⟨j,v,rfl,rfl,rfl⟩
 ·exact⟨O9,h2,hl,fun TT=>Wk.refl _ _⟩
 ·refine⟨.emp (v+1),rfl,fun _=>trivial,fun TT=> ?_⟩;have w:=Wk.fzCell (t:=TT) (h:=shH h gs all L v4 O5 (.osl (h.length+9) v 1 0 (bst gs all L j).length) fd (zP v 3 (qp (bst gs all L j))) O10 O12 tl) (j:=h.length+7) (k:=h.length+9) (i:=0) (v:=1) (ty:=62) (cs:= [.osl (h.length+9) v 1 0 (bst gs all L j).length]) (c:= .osl (h.length+9) v 1 0 (bst gs all L j).length) (c':=ql (bst gs all L j))
   (by unfold shH;simp only[go_sem]) rfl (by unfold shH;simp only[go_sem]) om (by
    rw[qch];unfold shH;rw[getO_app]
    exact qaE (fun _=>rfl) rfl)
  unfold shH at w ⊢;simp only[go_sem,List.set_cons_zero]at w;exact w
theorem qmb(n:Nat)(L:List Nat):lowV n (j9 L)=true:=rfl
theorem qbb(L:List Int)(n:Nat): ∀c∈qp L,lowV n c=true:=by
 intro c hc;unfold qp at hc;obtain⟨x,_,rfl⟩:=List.mem_map.1 hc;rfl
theorem qEd(a b:List Int)(k v:Nat)(h:List AObj)(n:Nat)(hn:n=a.length)(hk:qA k h=some (zP v 3 (qp a)))(hl:a.length=b.length)(ha:a.length≤1000000000):ACalls Tryz.prog 66 [.osl k v 1 0 n,ql b] h (.int .i64 (qo8 a b)) h:=by
 subst hn;refine ACalls.borrow ((qEe a b [] hl ha).le ?_ (qk)) rfl;simp only[List.map_cons,List.map_nil,rei_osl,if_true,hk];exact⟨qaE (fun _=>rfl) rfl,qk,trivial⟩
theorem qCO(names:List Str)(gs:List Gr)(set:List Int)(h:List AObj)(hz:Szs names gs)(hs:set.length≤1000000000)(h8:qbJ names gs set=0→names.length≤8∧gs.length≤8):
  ACalls Tryz.prog 142 [strs names,qu gs,ql set] h (.tup [strs (shR names gs set),.int .i64 (qbJ names gs set)]) h:=by
 have c95:=fun h=>qEW names gs set h hz hs
 unfold shR
 by_cases g:qbJ names gs set=0
 case neg=>
  have k0:(qbJ names gs set=0)=False:=eqf g;rw[ine g];refine acO qrV ?_;simp (disch:=omega) only[qta,go_sem]
  repeat' first
   |(refine cA (c95 _) flk ?_;simp (disch:=omega) only[k0,go_sem])
   |(apply qb;exact rvk;simp only[go_sem])
   |with_reducible apply aiA
  all_goals try exact clz
  exact qL ⟨jf,qk,trivial⟩
 rw[ipo g,g];simp only[g]at c95;obtain⟨n8,g8⟩:=h8 g;have hse:sgE names gs=0∧qai names.length set=0:=by
  unfold qbJ at g;split at g
  ·rename_i h;exact⟨h,g⟩
  ·cases g
 have hin:=(qac hse.2).1;have hin64:inB 64 set:=fun i hi=>by have:=hin i hi;omega
 have hmi:=qf5 hse.1;have hml:=hz.gm;have hgl:=hz.g;have c96:=fun h=>qBB set h hs hin64
 have hall:qaf set<2^8:=Nat.lt_of_lt_of_le (qgd om hin) (Nat.pow_le_pow_right om n8);obtain⟨all,hA⟩: ∃all,all=qaf set:=⟨_,rfl⟩
 have hpin:=fun {c} hc {p}=>qsv (names:=names) (gs:=gs) (set:=set) (all:=all) hin om hA (c:=c) hc (p:=p)
 rw[←hA]at hall;simp only[←hA]at c96;have c97:=fun h=>qFf gs all h om hmi hml om
 have hLin:=fun {x}=> @qgP gs all x
 have hLl:(qbL gs all).length≤8:=by have:=qN (qhO gs all) gs.length;unfold qbL;omega
 have hbA:qBw gs all=bst gs all (qbL gs all) (2^(qbL gs all).length-1):=rfl;rw[←hA,hbA];have hbs:=qkz gs all (qbL gs all);obtain⟨L,hL⟩: ∃L,L=qbL gs all:=⟨_,rfl⟩
 simp only[←hL]at c97 hLin hpin;rw[←hL]at hLl;rw[←hL]at hbs ⊢;have hmsl:=qgI gs L;have hmsg:=fun {i} hi=>qgH (gs:=gs) (L:=L) (i:=i) hi
 have hmlt:=qsE hmi L;obtain⟨ms,hms⟩: ∃ms,ms=usM gs L:=⟨_,rfl⟩
 rw[←hms]at hmsl;simp only[←hms]at hmsg hmlt;have z1: ∀g,valL g .len [ql L]= .int .i64 L.length:=fun _=>rfl
 have z2: ∀g,okL g .len [ql L]=True:=fun _=>eqt trivial
 refine acO qrV ?_;simp (disch:=omega) only[qta,go_sem]
 repeat' first
  |((first|refine cA (c95 _) ?_ ?_|refine cA (c96 _) ?_ ?_|refine cA (c97 _) ?_ ?_);exact flk;simp (disch:=omega) only[z1,z2,go_sem])
  |with_reducible apply aiA
 all_goals try exact clz
 refine qn (T:=fun s:Nat×Nat×AObj=>qI 151 [(0,strs names),(4,.op h.length 1 0),(9,.op (h.length+2) 1 0),(10,.op (h.length+3) 1 0),(11,.osl (h.length+4) s.2.1 1 0 s.1),(39,ql L),(40,.int .i64 L.length),(41,.int .i64 s.1)])
  (H:=fun s=>h++ [.mem 1 44 [qu gs],.emp 1,.mem 1 164 [.int .u64 ((all:Nat):Int)],.mem 1 62 [ql L],zP s.2.1 164 (qey (ms.take s.1)),s.2.2,.emp 0,.emp 0,.emp 0,.emp 0,.emp 0,.emp 0,.emp 0,.emp 0,.emp 0,.emp 0,.emp 0,.emp 0,.emp 0])
  (inv:=fun s=>s.1≤L.length∧qC [s.2.2] 0=true) (m:=fun s=>L.length-s.1) (0,1,.emp 0) ⟨nzl _,rfl⟩ (Wk.temps ?_) ?_
 ·(simp only[go_sem,qj,qd,qa,qi];try (repeat' first|(with_reducible apply aiA)|(apply qh;omega)|(apply qg;rfl)|exact qk))
 rintro⟨i,v,O5⟩ ⟨i1,i2⟩ K hK;simp only at i1 i2 hK;have i2': ∀m,qC (O5::m) 0=true:=fun _=>i2
 by_cases hi:i<L.length
 ·have k1:((i:Int)<L.length)=True:=eqt om;have hst:=qji (L:=ms) (i:=i) om;rw[hmsg hi]at hst;have hm:L.getD i 0∈L:=by rw[gdqA,zp hi];exact List.getElem_mem hi
  obtain⟨y,hy,hyl⟩:=hLin hm;rw[hy]at hst;simp only[itn]at hst;have k2:((y:Int)<gs.length)=True:=eqt om;have k3:(0≤(y:Int))=True:=eqt om;have c96:=fun h=>qBB (gs.getD y default).mem h (hml y) (hmi y)
  obtain⟨gr,hgr⟩: ∃gr,gr=gs.getD y default:=⟨_,rfl⟩
  have egr:=hgr.symm;simp only[egr]at c96;rw[egr]at hst;have eCl:(qey (ms.take i)).length=i:=by rw[qhH,List.length_take];omega
  have eTk:List.take i (qey (ms.take i))=qey (ms.take i):=ltl om;have zv:ql L= .sl L.length fun i=> [.int .i64 (L.getD i 0)]:=rfl
  simp (disch:=omega) only[qu,grC,zv,k1,k2,k3,hy,egr,itn,go_sem]
  repeat' first
   |(refine cA (c96 _) flk ?_;simp (disch:=omega) only[i2',eCl,eTk,Nat.mul_one,go_sem])
   |with_reducible apply aiA
  all_goals try exact clz
  have eA:qey (ms.take i)++ [AV.int .u64 ((qaf gr.mem:Nat):Int)]=qey (ms.take (i+1)):=by rw[hst,qri];rfl
  rw[eA];refine hK _ _ (i+1,v+1,.mem (qr (some O5)+1) 164 [.int .u64 ((qaf gr.mem:Nat):Int)]) ⟨hi,rfl⟩ (by simp only;omega) ?_;simp only[zv,qu,grC];refine Wk.temps ?_
  (simp only[go_sem,qj,qd,qa,qi];try (repeat' first|(with_reducible apply aiA)|(apply qh;omega)|(apply qg;rfl)|exact qk))
 obtain rfl:i=L.length:=by omega
 have k1:((L.length:Int)<L.length)=False:=eqf om;have emt:ms.take L.length=ms:=ltl om;rw[emt];simp (disch:=omega) only[k1,go_sem];have hbs0:bsO h gs all L 0 .nl (.emp 0):= .inl ⟨rfl,rfl⟩;refine⟨qI 151 [(0,strs names),(4,.op h.length 1 0),(9,.op (h.length+2) 1 0),(10,.op (h.length+3) 1 0),(11,j9 ms),(14,.op (h.length+7) 1 0),(15,.op (h.length+8) 1 0)],shH h gs all L (v+1) O5 .nl false (.emp 0) (.emp 0) (.emp 0) [],Wk.trans (Wk.freeze [h.length+4] (by simp only[ju,go_sem])) ?_,?_⟩
 ·unfold shH;simp only[qbs,List.map,go_sem];refine Wk.temps ?_
  (simp only[go_sem,qj,qd,qa,qi];try (repeat' first|(with_reducible apply aiA)|(apply qh;omega)|(apply qg;rfl)|exact qk))
  all_goals first
   |(rw[ine (by simp)];exact qk)
   |(rw[ipo (by simp),ipo (by simp)];exact qqT (fun _=>rfl) om)
 have c98:=fun h=>qD9 ms h
 simp (disch:=omega) only[go_sem]
 repeat' first
  |(refine cA (c98 _) flk ?_;simp (disch:=omega) only[go_sem])
 refine qaT (xs:=qom ms) (itC ms om hmlt) (qo4 ms)
  (S:=fun i hh=> ∃bc O9 O10 O12,bsO h gs all L i bc O9∧(∀n,lowO n O9)∧qC [O10] 0=true∧(∀n,lowO n O10)∧qC [O12] 0=true∧(∀n,lowO n O12)∧hh=shH h gs all L (v+1) O5 bc (decide (0<i)) O9 O10 O12 [])
  (E:=fun _ _=>False) ?_ (fun _ _ h=>h.elim) ?_ ?_ ?_ ?_ (fun _ _ h=>h.elim)
 ·rintro i hh ⟨bc,O9,O10,O12,b1,b2,b4,b5,b6,b7,rfl⟩;have hbc:lowV (h.length+19) bc=true∧lowV (h.length+19+1) bc=true:=by
   rcases b1 with⟨rfl,_⟩|⟨j,w,_,rfl,_⟩
   ·cases i<;>exact⟨rfl,rfl⟩
   ·constructor<;>simp[lowV]<;>omega
  unfold shH;refine LowI.app rfl (fun o ho=> ?_);have e19:([.mem 1 44 [qu gs],.emp 1,.mem 1 164 [.int .u64 ((all:Nat):Int)],.mem 1 62 [ql L],.emp (v+1),O5,.emp 0,.mem 1 62 [.nl],.mem 1 4 [.bool false],.emp 0,.emp 0,.emp 0,.emp 0,.emp 0,.emp 0,.emp 0,.emp 0,.emp 0,.emp 0]:List AObj).length=19:=rfl;simp only[List.mem_cons,List.not_mem_nil,or_false]at ho;rcases ho with rfl|rfl|rfl|rfl|rfl|rfl|rfl|rfl|rfl|rfl|rfl|rfl|rfl|rfl|rfl|rfl|rfl|rfl|rfl
  all_goals first
   |(left;simp;done)
   |(right;exact⟨b2 _,b2 _⟩)
   |(right;exact⟨b5 _,b5 _⟩)
   |(right;exact⟨b7 _,b7 _⟩)
   |(right;rw[e19];constructor<;>(intro c hc;simp only[List.mem_cons,List.not_mem_nil,or_false]at hc;subst hc;first|rfl|exact hbc.1|exact hbc.2))
 ·exact⟨.nl,.emp 0,.emp 0,.emp 0,hbs0,fun _=>trivial,rfl,fun _=>trivial,rfl,fun _=>trivial,rfl⟩
 ·rw[jt];simp[lowV,lowV.lowVs,qdZ,qmb]
  try omega
 ·rintro i hh tl LI TS hi ⟨bc,O9,O10,O12,b1,b2,b4,b5,b6,b7,rfl⟩ hq K K2 hK hN hR hX;rw[qg0 hi];rw[qdK,hmsl]at hi;simp only[qb8];simp (disch:=omega) only[go_sem];refine hK _ _ (shH h gs all L (v+1) O5 bc (decide (0<i)) O9 O10 O12 []) rfl (by rw[jt,jt]) ?_;rw[qbD];obtain⟨O9',p9,l9,w⟩:=shW (tl:= .lp .busy TS LI::tl) (v4:=v+1) (O5:=O5) (fd:=decide (0<i)) (O10:=O10) (O12:=O12) b1 b2;have p9': ∀m,qC (O9'::m) 0=true:=fun _=>p9
  have hi8:i<256:=Nat.lt_of_lt_of_le hi (Nat.pow_le_pow_right om hLl:2^L.length≤2^8);have hchl:=qrF hmlt i;obtain⟨m,hm⟩: ∃m,m=chN ms i:=⟨_,rfl⟩
  rw[←hm]at hchl;have hand:=qgT (a:=all) (b:=m) om hchl;have hanl:anN all m<256:=qrz (n:=8) hall;have c99a:=fun h=>qDE i h hi8
  have c99b:=fun h=>qDE (anN all m) h hanl
  have c100a:=fun h=>qCE i h om
  have c100b:=fun h=>qCE (anN all m) h om
  have hplc0:kr gs all L i=(qT i.testBit 64).map (fun k=>L.getD k.toNat 0)++(qT (anN all m).testBit 64).map (fun s=>(gs.length:Int)+s):=by unfold kr;rw[←hms,←hm]
  have hpl:=qcp gs all L i;rw[←hms,←hm]at hpl;have hpi:qmR i=(qT i.testBit 64).length:=rfl;have hpj:qmR (anN all m)=(qT (anN all m).testBit 64).length:=rfl;have hM1: ∀x∈qT i.testBit 64,∃y:Nat,x=(y:Int)∧y<L.length:=fun x hx=>by
   obtain⟨y,e1,e2,e3⟩:=jk hx;exact⟨y,e1,qea hi e3⟩
  have hM2: ∀x∈qT (anN all m).testBit 64,∃y:Nat,x=(y:Int)∧y<64:=fun x hx=>by
   obtain⟨y,e1,e2,e3⟩:=jk hx;exact⟨y,e1,e2⟩
  have hM1l:=qN i.testBit 64;have hM2l:=qN (anN all m).testBit 64;obtain⟨M,hM⟩: ∃M,M=qT i.testBit 64:=⟨_,rfl⟩
  obtain⟨M2,hM'⟩: ∃M2,M2=qT (anN all m).testBit 64:=⟨_,rfl⟩
  obtain⟨s1,hs1⟩: ∃s1,s1=qmR i:=⟨_,rfl⟩
  obtain⟨s2,hs2⟩: ∃s2,s2=qmR (anN all m):=⟨_,rfl⟩
  rw[←hM]at hplc0 hpi hM1 hM1l;rw[←hM']at hplc0 hpj hM2 hM2l;rw[←hs1]at hpi;rw[←hs2]at hpj;rw[←hs1,←hs2]at hpl;simp only[←hM]at c100a;simp only[←hM']at c100b;simp only[←hs1]at c99a;simp only[←hs2]at c99b;obtain⟨F,hF⟩: ∃F,F=M.map (fun k=>L.getD k.toNat 0):=⟨_,rfl⟩
  obtain⟨G,hG⟩: ∃G,G=M2.map (fun s=>(gs.length:Int)+s):=⟨_,rfl⟩
  have hplc:kr gs all L i=F++G:=by rw[hplc0,hF,hG]
  have hFl:F.length=M.length:=by rw[hF,List.length_map]
  have hGl:G.length=M2.length:=by rw[hG,List.length_map]
  have hMF: ∀j,j<M.length→ ∃y:Nat,M.getD j 0=(y:Int)∧y<L.length∧F.getD j 0=L.getD y 0:=fun j hj=>by
   have hm:M.getD j 0∈M:=by rw[gdqA,zp hj];exact List.getElem_mem hj
   obtain⟨y,e1,e2⟩:=hM1 _ hm;refine⟨y,e1,e2,?_⟩;rw[gdqA,zp hj]at e1;have e1:M[j]=(y:Int):=e1;rw[hF,gdqA,List.getElem?_map,zp hj,e1];rfl
  have hMG: ∀j,j<M2.length→ ∃y:Nat,M2.getD j 0=(y:Int)∧y<64∧G.getD j 0=(gs.length:Int)+y:=fun j hj=>by
   have hm:M2.getD j 0∈M2:=by rw[gdqA,zp hj];exact List.getElem_mem hj
   obtain⟨y,e1,e2⟩:=hM2 _ hm;refine⟨y,e1,e2,?_⟩;rw[gdqA,zp hj]at e1;have e1:M2[j]=(y:Int):=e1;rw[hG,gdqA,List.getElem?_map,zp hj,e1];rfl
  have zM1: ∀g,valL g .len [ql M]= .int .i64 M.length:=fun _=>rfl
  have zM2: ∀g,okL g .len [ql M]=True:=fun _=>eqt trivial
  simp only[←hm];simp (disch:=omega) only[go_sem];refine⟨_,_,w _,?_⟩;clear w;cases i with
  |zero=>
   have hfd:decide (0<0)=false:=rfl;simp (disch:=omega) only[shH,hfd,bsC,go_sem]
   repeat' first
    |((first|refine cA (c99a _) ?_ ?_|refine cA (c99b _) ?_ ?_|refine cA (c100a _) ?_ ?_);exact flk;simp (disch:=omega) only[p9',hand,zM1,zM2,go_sem])
    |with_reducible first|intro _|apply aiA
   all_goals try exact clz
   refine qn (T:=fun j:Nat×Nat×AObj=>qI 151 [(0,strs names),(4,.op h.length 1 0),(9,.op (h.length+2) 1 0),(10,.op (h.length+3) 1 0),(14,.op (h.length+7) 1 0),(15,.op (h.length+8) 1 0),(16,.int .u64 ((0:Nat):Int)),(17,.int .u64 ((m:Nat):Int)),(19,.osl (h.length+9) j.2.1 1 0 j.1),(74,ql M),(75,.int .i64 M.length),(76,.int .i64 j.1)])
    (H:=fun j=>shH h gs all L (v+1) O5 .nl false (zP j.2.1 3 (qp (F.take j.1))) j.2.2 O12 (.lp .busy TS LI::tl))
    (inv:=fun j=>j.1≤M.length∧qC [j.2.2] 0=true∧ ∀n,lowO n j.2.2) (m:=fun j=>M.length-j.1) (0,qr (some O9')+1,O10) ⟨nzl _,b4,b5⟩ (Wk.temps ?_) ?_
   ·(simp only[go_sem,qj,qd,qa,qi];try (repeat' first|(with_reducible apply aiA)|(apply qh;omega)|(apply qg;rfl)|exact qk))
   rintro⟨j,u,O10⟩ ⟨j1,j2,j3⟩ KA hKA;simp only at j1 j2 j3 hKA;have j2': ∀m,qC (O10::m) 0=true:=fun _=>j2
   by_cases hj:j<M.length
   ·have q1:((j:Int)<M.length)=True:=eqt om;obtain⟨y,hy,hyl,hyF⟩:=hMF j hj;have q2:((y:Int)<L.length)=True:=eqt om;have q3:(0≤(y:Int))=True:=eqt om;have hst:=zS (L:=F) (i:=j) om;rw[hyF]at hst;have eC:=qy (F.take j);rw[List.length_take,Nat.min_eq_left om]at eC;have eTk:List.take j (qp (F.take j))=qp (F.take j):=ltl om;have zv: ∀X:List Int,ql X= .sl X.length fun i=> [.int .i64 (X.getD i 0)]:=fun _=>rfl
    simp (disch:=omega) only[shH,q1,q2,q3,j2',zv,hy,Nat.mul_one,itn,go_sem]
    repeat' first
     |with_reducible apply aiA
    all_goals try exact clz
    have eA:qp (F.take j)++ [AV.int .i64 (L.getD y 0)]=qp (F.take (j+1)):=by rw[hst,qR];rfl
    try rw[eTk]
    rw[eA];refine hKA _ _ (j+1,u+1,.mem (qr (some O10)+1) 3 [.int .i64 (L.getD y 0)]) ⟨hj,rfl,fun n c hc=>by simp only[List.mem_cons,List.not_mem_nil,or_false]at hc;subst hc;rfl⟩ (by simp only;omega) ?_;simp only[shH,zv];refine Wk.temps ?_
    (simp only[go_sem,qj,qd,qa,qi];try (repeat' first|(with_reducible apply aiA)|(apply qh;omega)|(apply qg;rfl)|exact qk))
   obtain rfl:j=M.length:=by omega
   have q1:((M.length:Int)<M.length)=False:=eqf om;have eFt:F.take M.length=F:=ltl om;rw[eFt];have zm1: ∀g,valL g .len [ql M2]= .int .i64 M2.length:=fun _=>rfl
   have zm2: ∀g,okL g .len [ql M2]=True:=fun _=>eqt trivial
   simp (disch:=omega) only[shH,q1,hand,go_sem]
   repeat' first
    |(refine cA (c100b _) flk ?_;simp (disch:=omega) only[zm1,zm2,go_sem])
    |with_reducible apply aiA
   all_goals try exact clz
   refine qn (T:=fun j:Nat×Nat×AObj=>qI 151 [(0,strs names),(4,.op h.length 1 0),(9,.op (h.length+2) 1 0),(10,.op (h.length+3) 1 0),(14,.op (h.length+7) 1 0),(15,.op (h.length+8) 1 0),(19,.osl (h.length+9) j.2.1 1 0 (F.length+j.1)),(91,ql M2),(92,.int .i64 M2.length),(93,.int .i64 j.1)])
    (H:=fun j=>shH h gs all L (v+1) O5 .nl false (zP j.2.1 3 (qp (F++G.take j.1))) O10 j.2.2 (.lp .busy TS LI::tl))
    (inv:=fun j=>j.1≤M2.length∧qC [j.2.2] 0=true∧ ∀n,lowO n j.2.2) (m:=fun j=>M2.length-j.1) (0,u,O12) ⟨nzl _,b6,b7⟩ ?_ ?_
   ·have e0:F++G.take 0=F:=by simp
    simp only[e0,Nat.add_zero,hFl];unfold shH;refine Wk.temps ?_
    (simp only[go_sem,qj,qd,qa,qi];try (repeat' first|(with_reducible apply aiA)|(apply qh;omega)|(apply qg;rfl)|exact qk))
   rintro⟨j,u2,O12⟩ ⟨k1,k2,k3⟩ KB hKB;simp only at k1 k2 k3 hKB;have k2': ∀m,qC (O12::m) 0=true:=fun _=>k2
   by_cases hj2:j<M2.length
   ·have q5:((j:Int)<M2.length)=True:=eqt om;obtain⟨y,hy,hyl,hyG⟩:=hMG j hj2;have hst:F++G.take (j+1)=(F++G.take j)++ [(gs.length:Int)+y]:=by rw[zS (L:=G) (i:=j) om,hyG,List.append_assoc]
    have eC:=qy (F++G.take j);rw[lap,List.length_take,Nat.min_eq_left om]at eC;have eTk:List.take (F.length+j) (qp (F++G.take j))=qp (F++G.take j):=ltl om;have zg1: ∀g,valL g .len [qu gs]= .int .i64 gs.length:=fun _=>rfl
    have zg2: ∀g,okL g .len [qu gs]=True:=fun _=>eqt trivial
    have zv: ∀X:List Int,ql X= .sl X.length fun i=> [.int .i64 (X.getD i 0)]:=fun _=>rfl
    simp (disch:=omega) only[shH,q5,k2',zv,hy,zg1,zg2,Nat.mul_one,itn,go_sem]
    repeat' first
     |with_reducible apply aiA
    all_goals try exact clz
    have eA:qp (F++G.take j)++ [AV.int .i64 ((gs.length:Int)+y)]=qp (F++G.take (j+1)):=by rw[hst,qR (F++G.take j)];rfl
    try rw[eTk]
    rw[eA];refine hKB _ _ (j+1,u2+1,.mem (qr (some O12)+1) 3 [.int .i64 ((gs.length:Int)+y)]) ⟨hj2,rfl,fun n c hc=>by simp only[List.mem_cons,List.not_mem_nil,or_false]at hc;subst hc;rfl⟩ (by simp only;omega) ?_;simp only[shH,zv];refine Wk.temps ?_
    (simp only[go_sem,qj,qd,qa,qi];try (repeat' first|(with_reducible apply aiA)|(apply qh;omega)|(apply qg;rfl)|exact qk))
   obtain rfl:j=M2.length:=by omega
   have q5:((M2.length:Int)<M2.length)=False:=eqf om;have eGt:F++G.take M2.length=kr gs all L 0:=by rw[ltl om,hplc]
   have eln:F.length+M2.length=(kr gs all L 0).length:=by rw[hplc,lap];omega
   rw[eGt,eln];simp (disch:=omega) only[shH,q5,go_sem]
   repeat' first
    |(refine qm (.int .i64 0) ?_;simp (disch:=omega) only[go_sem])
    |with_reducible apply aiA
   all_goals try exact clz
   refine hN _ _ (shH h gs all L (v+1) O5 (.osl (h.length+9) u2 1 0 (kr gs all L 0).length) true (zP u2 3 (qp (kr gs all L 0))) O10 O12 []) ?_ (by rw[jt,jt]) ⟨_,_,_,_,.inr ⟨0,u2,rfl,rfl,rfl⟩,fun n=>qaD (qbb _ _),j2,j3,k2,k3,rfl⟩;rw[qbD];rfl
  |succ i'=>
   have hfd:decide (0<i'+1)=true:=dqt om;have hfd2:decide (0<i'+1+1)=true:=dqt om;have hbs':bst gs all L (i'+1)=if qjM (kr gs all L (i'+1)) (bst gs all L i')=true then kr gs all L (i'+1) else bst gs all L i':=rfl
   have hbc:bsC gs all L (i'+1)=ql (bst gs all L i'):=rfl;obtain⟨b,hb⟩: ∃b,b=bst gs all L i':=⟨_,rfl⟩
   rw[←hb]at hbs' hbc;have zb1: ∀g,valL g .len [ql b]= .int .i64 b.length:=fun _=>rfl
   have zb2: ∀g,okL g .len [ql b]=True:=fun _=>eqt trivial
   by_cases hsk:b.length<s1+s2
   ·have r0:((b.length:Int)<(s1:Int)+s2)=True:=eqt om;simp (disch:=omega) only[shH,hfd,hbc,go_sem]
    repeat' first
     |((first|refine cA (c99a _) ?_ ?_|refine cA (c99b _) ?_ ?_);exact flk;simp (disch:=omega) only[p9',hand,zb1,zb2,r0,go_sem])
     |with_reducible apply aiA
    all_goals try exact clz
    have hbt:bst gs all L (i'+1)=b:=by rw[hbs',ine (by unfold qjM;rw[hpl];simp;omega)]
    refine hN _ _ (shH h gs all L (v+1) O5 (ql b) true O9' O10 O12 []) ?_ (by rw[jt,jt]) ⟨_,_,_,_,.inl ⟨by show ql b=ql (bst gs all L (i'+1));rw[hbt],p9⟩,l9,b4,b5,b6,b7,by rw[hfd2]⟩;rw[qbD];rfl
   have r0:((b.length:Int)<(s1:Int)+s2)=False:=eqf om;simp (disch:=omega) only[shH,hfd,hbc,go_sem]
   repeat' first
    |((first|refine cA (c99a _) ?_ ?_|refine cA (c99b _) ?_ ?_|refine cA (c100a _) ?_ ?_);exact flk;simp (disch:=omega) only[p9',hand,zM1,zM2,zb1,zb2,r0,go_sem])
    |with_reducible apply aiA
   all_goals try exact clz
   refine qn (T:=fun j:Nat×Nat×AObj=>qI 151 [(0,strs names),(4,.op h.length 1 0),(9,.op (h.length+2) 1 0),(10,.op (h.length+3) 1 0),(14,.op (h.length+7) 1 0),(15,.op (h.length+8) 1 0),(16,.int .u64 (((i'+1):Nat):Int)),(17,.int .u64 ((m:Nat):Int)),(19,.osl (h.length+9) j.2.1 1 0 j.1),(74,ql M),(75,.int .i64 M.length),(76,.int .i64 j.1)])
    (H:=fun j=>shH h gs all L (v+1) O5 (ql b) true (zP j.2.1 3 (qp (F.take j.1))) j.2.2 O12 (.lp .busy TS LI::tl))
    (inv:=fun j=>j.1≤M.length∧qC [j.2.2] 0=true∧ ∀n,lowO n j.2.2) (m:=fun j=>M.length-j.1) (0,qr (some O9')+1,O10) ⟨nzl _,b4,b5⟩ (Wk.temps ?_) ?_
   ·(simp only[go_sem,qj,qd,qa,qi];try (repeat' first|(with_reducible apply aiA)|(apply qh;omega)|(apply qg;rfl)|exact qk))
   rintro⟨j,u,O10⟩ ⟨j1,j2,j3⟩ KA hKA;simp only at j1 j2 j3 hKA;have j2': ∀m,qC (O10::m) 0=true:=fun _=>j2
   by_cases hj:j<M.length
   ·have q1:((j:Int)<M.length)=True:=eqt om;obtain⟨y,hy,hyl,hyF⟩:=hMF j hj;have q2:((y:Int)<L.length)=True:=eqt om;have q3:(0≤(y:Int))=True:=eqt om;have hst:=zS (L:=F) (i:=j) om;rw[hyF]at hst;have eC:=qy (F.take j);rw[List.length_take,Nat.min_eq_left om]at eC;have eTk:List.take j (qp (F.take j))=qp (F.take j):=ltl om;have zv: ∀X:List Int,ql X= .sl X.length fun i=> [.int .i64 (X.getD i 0)]:=fun _=>rfl
    simp (disch:=omega) only[shH,q1,q2,q3,j2',zv,hy,Nat.mul_one,itn,go_sem]
    repeat' first
     |with_reducible apply aiA
    all_goals try exact clz
    have eA:qp (F.take j)++ [AV.int .i64 (L.getD y 0)]=qp (F.take (j+1)):=by rw[hst,qR];rfl
    try rw[eTk]
    rw[eA];refine hKA _ _ (j+1,u+1,.mem (qr (some O10)+1) 3 [.int .i64 (L.getD y 0)]) ⟨hj,rfl,fun n c hc=>by simp only[List.mem_cons,List.not_mem_nil,or_false]at hc;subst hc;rfl⟩ (by simp only;omega) ?_;simp only[shH,zv];refine Wk.temps ?_
    (simp only[go_sem,qj,qd,qa,qi];try (repeat' first|(with_reducible apply aiA)|(apply qh;omega)|(apply qg;rfl)|exact qk))
   obtain rfl:j=M.length:=by omega
   have q1:((M.length:Int)<M.length)=False:=eqf om;have eFt:F.take M.length=F:=ltl om;rw[eFt];have zm1: ∀g,valL g .len [ql M2]= .int .i64 M2.length:=fun _=>rfl
   have zm2: ∀g,okL g .len [ql M2]=True:=fun _=>eqt trivial
   simp (disch:=omega) only[shH,q1,hand,go_sem]
   repeat' first
    |(refine cA (c100b _) flk ?_;simp (disch:=omega) only[zm1,zm2,go_sem])
    |with_reducible apply aiA
   all_goals try exact clz
   refine qn (T:=fun j:Nat×Nat×AObj=>qI 151 [(0,strs names),(4,.op h.length 1 0),(9,.op (h.length+2) 1 0),(10,.op (h.length+3) 1 0),(14,.op (h.length+7) 1 0),(15,.op (h.length+8) 1 0),(19,.osl (h.length+9) j.2.1 1 0 (F.length+j.1)),(91,ql M2),(92,.int .i64 M2.length),(93,.int .i64 j.1)])
    (H:=fun j=>shH h gs all L (v+1) O5 (ql b) true (zP j.2.1 3 (qp (F++G.take j.1))) O10 j.2.2 (.lp .busy TS LI::tl))
    (inv:=fun j=>j.1≤M2.length∧qC [j.2.2] 0=true∧ ∀n,lowO n j.2.2) (m:=fun j=>M2.length-j.1) (0,u,O12) ⟨nzl _,b6,b7⟩ ?_ ?_
   ·have e0:F++G.take 0=F:=by simp
    simp only[e0,Nat.add_zero,hFl];unfold shH;refine Wk.temps ?_
    (simp only[go_sem,qj,qd,qa,qi];try (repeat' first|(with_reducible apply aiA)|(apply qh;omega)|(apply qg;rfl)|exact qk))
   rintro⟨j,u2,O12⟩ ⟨k1,k2,k3⟩ KB hKB;simp only at k1 k2 k3 hKB;have k2': ∀m,qC (O12::m) 0=true:=fun _=>k2
   by_cases hj2:j<M2.length
   ·have q5:((j:Int)<M2.length)=True:=eqt om;obtain⟨y,hy,hyl,hyG⟩:=hMG j hj2;have hst:F++G.take (j+1)=(F++G.take j)++ [(gs.length:Int)+y]:=by rw[zS (L:=G) (i:=j) om,hyG,List.append_assoc]
    have eC:=qy (F++G.take j);rw[lap,List.length_take,Nat.min_eq_left om]at eC;have eTk:List.take (F.length+j) (qp (F++G.take j))=qp (F++G.take j):=ltl om;have zg1: ∀g,valL g .len [qu gs]= .int .i64 gs.length:=fun _=>rfl
    have zg2: ∀g,okL g .len [qu gs]=True:=fun _=>eqt trivial
    have zv: ∀X:List Int,ql X= .sl X.length fun i=> [.int .i64 (X.getD i 0)]:=fun _=>rfl
    simp (disch:=omega) only[shH,q5,k2',zv,hy,zg1,zg2,Nat.mul_one,itn,go_sem]
    repeat' first
     |with_reducible apply aiA
    all_goals try exact clz
    have eA:qp (F++G.take j)++ [AV.int .i64 ((gs.length:Int)+y)]=qp (F++G.take (j+1)):=by rw[hst,qR (F++G.take j)];rfl
    try rw[eTk]
    rw[eA];refine hKB _ _ (j+1,u2+1,.mem (qr (some O12)+1) 3 [.int .i64 ((gs.length:Int)+y)]) ⟨hj2,rfl,fun n c hc=>by simp only[List.mem_cons,List.not_mem_nil,or_false]at hc;subst hc;rfl⟩ (by simp only;omega) ?_;simp only[shH,zv];refine Wk.temps ?_
    (simp only[go_sem,qj,qd,qa,qi];try (repeat' first|(with_reducible apply aiA)|(apply qh;omega)|(apply qg;rfl)|exact qk))
   obtain rfl:j=M2.length:=by omega
   have q5:((M2.length:Int)<M2.length)=False:=eqf om;have eGt:F++G.take M2.length=kr gs all L (i'+1):=by rw[ltl om,hplc]
   have eln:F.length+M2.length=(kr gs all L (i'+1)).length:=by rw[hplc,lap];omega
   rw[eGt,eln]
   by_cases h1:(kr gs all L (i'+1)).length<b.length
   ·have r1:(((kr gs all L (i'+1)).length:Int)<b.length)=True:=eqt om;simp (disch:=omega) only[shH,q5,zb1,zb2,r1,go_sem]
    repeat' first
     |(refine qm (.int .i64 0) ?_;simp (disch:=omega) only[go_sem])
     |with_reducible apply aiA
    all_goals try exact clz
    have hbt:bst gs all L (i'+1)=kr gs all L (i'+1):=by rw[hbs',ipo (by unfold qjM;simp[h1])]
    refine hN _ _ (shH h gs all L (v+1) O5 (.osl (h.length+9) u2 1 0 (kr gs all L (i'+1)).length) true (zP u2 3 (qp (kr gs all L (i'+1)))) O10 O12 []) ?_ (by rw[jt,jt]) ⟨_,_,_,_,.inr ⟨i'+1,u2,rfl,by rw[hbt],by rw[hbt]⟩,fun n=>qaD (qbb _ _),j2,j3,k2,k3,by rw[hfd2]⟩;rw[qbD];rfl
   have r1:(((kr gs all L (i'+1)).length:Int)<b.length)=False:=eqf om;have heq:(kr gs all L (i'+1)).length=b.length:=by omega
   simp (disch:=omega) only[shH,q5,zb1,zb2,r1,go_sem]
   repeat' first
    |with_reducible apply aiA
   all_goals try exact clz
   refine cG (fun _=>qEd (kr gs all L (i'+1)) b (h.length+9) u2 _ _ rfl (by simp only[go_sem]) heq om) (fun _=>by exact flk) ?_
   by_cases h2:qo8 (kr gs all L (i'+1)) b<0
   ·have r2:(qo8 (kr gs all L (i'+1)) b<0)=True:=eqt h2;simp (disch:=omega) only[r2,go_sem];have hbt:bst gs all L (i'+1)=kr gs all L (i'+1):=by rw[hbs',ipo (by unfold qjM;simp[heq,h2])]
    refine hN _ _ (shH h gs all L (v+1) O5 (.osl (h.length+9) u2 1 0 (kr gs all L (i'+1)).length) true (zP u2 3 (qp (kr gs all L (i'+1)))) O10 O12 []) ?_ (by rw[jt,jt]) ⟨_,_,_,_,.inr ⟨i'+1,u2,rfl,by rw[hbt],by rw[hbt]⟩,fun n=>qaD (qbb _ _),j2,j3,k2,k3,by rw[hfd2]⟩;rw[qbD];rfl
   ·have r2:(qo8 (kr gs all L (i'+1)) b<0)=False:=eqf h2;simp (disch:=omega) only[r2,go_sem];have hbt:bst gs all L (i'+1)=b:=by rw[hbs',ine (by unfold qjM;simp[heq,h2])]
    refine hN _ _ (shH h gs all L (v+1) O5 (ql b) true (zP u2 3 (qp (kr gs all L (i'+1)))) O10 O12 []) ?_ (by rw[jt,jt]) ⟨_,_,_,_,.inl ⟨by show ql b=ql (bst gs all L (i'+1));rw[hbt],site_own0⟩,fun n=>qaD (qbb _ _),j2,j3,k2,k3,by rw[hfd2]⟩;rw[qbD];rfl
 ·rintro hh ⟨bc,O9,O10,O12,b1,b2,b4,b5,b6,b7,rfl⟩;rw[qdK,hmsl]at b1 ⊢;have hN1:1≤2^L.length:=Nat.one_le_two_pow;obtain⟨N,hN⟩: ∃N,2^L.length=N+1:=⟨2^L.length-1,om⟩
  obtain⟨kb,kb1,kb2⟩:=hbs N;have hBin: ∀p∈bst gs all L N,0≤p∧p<gs.length+names.length:=fun p hp=>by
   rw[kb2]at hp;exact hpin om hp
  have hBl:(bst gs all L N).length≤200:=by
   rw[kb2,qcp];have h1:=qN kb.testBit 64;have h2:=qN (anN all (chN (usM gs L) kb)).testBit 64;unfold qmR;omega
  rw[hN]at b1;rw[show 2^L.length-1=N by omega];obtain⟨fd,hfd⟩: ∃fd,fd=decide (0<2^L.length):=⟨_,rfl⟩
  rw[←hfd];obtain⟨O9',hw⟩: ∃O9',∀TT,Wk TT (h++ [.mem 1 44 [qu gs],.emp 1,.mem 1 164 [.int .u64 ((all:Nat):Int)],.mem 1 62 [ql L],.emp (v+1),O5,.emp 0,.mem 1 62 [bc],.mem 1 4 [.bool fd],O9,O10,.emp 0,O12,.emp 0,.emp 1,.emp 0,.emp 0,.emp 0,.emp 0])
    TT (h++ [.mem 1 44 [qu gs],.emp 1,.mem 1 164 [.int .u64 ((all:Nat):Int)],.mem 1 62 [ql L],.emp (v+1),O5,.emp 0,.mem 1 62 [ql (bst gs all L N)],.mem 1 4 [.bool fd],O9',O10,.emp 0,O12,.emp 0,.emp 1,.emp 0,.emp 0,.emp 0,.emp 0]):=by
   rcases b1 with⟨rfl,p9⟩|⟨j,u,e,rfl,rfl⟩
   ·exact⟨O9,fun TT=>Wk.refl _ _⟩
   ·obtain rfl:N=j:=by omega
    refine⟨.emp (u+1),fun TT=> ?_⟩;have w:=Wk.fzCell (t:=TT) (h:=h++ [.mem 1 44 [qu gs],.emp 1,.mem 1 164 [.int .u64 ((all:Nat):Int)],.mem 1 62 [ql L],.emp (v+1),O5,.emp 0,.mem 1 62 [.osl (h.length+9) u 1 0 (bst gs all L N).length],.mem 1 4 [.bool fd],zP u 3 (qp (bst gs all L N)),O10,.emp 0,O12,.emp 0,.emp 1,.emp 0,.emp 0,.emp 0,.emp 0])
     (j:=h.length+7) (k:=h.length+9) (i:=0) (v:=1) (ty:=62) (cs:= [.osl (h.length+9) u 1 0 (bst gs all L N).length]) (c:= .osl (h.length+9) u 1 0 (bst gs all L N).length) (c':=ql (bst gs all L N))
     (by simp only[go_sem]) rfl (by simp only[go_sem]) om (by rw[qch,getO_app];exact qaE (fun _=>rfl) rfl)
    simp only[go_sem,List.set_cons_zero]at w;exact w
  simp (disch:=omega) only[shH,go_sem];refine⟨_,_,hw _,?_⟩;obtain⟨B,hB⟩: ∃B,B=bst gs all L N:=⟨_,rfl⟩
  rw[←hB]at hBin hBl ⊢;have zb1: ∀g,valL g .len [ql B]= .int .i64 B.length:=fun _=>rfl
  have zb2: ∀g,okL g .len [ql B]=True:=fun _=>eqt trivial
  simp (disch:=omega) only[zb1,zb2,go_sem]
  repeat' first
   |with_reducible apply aiA
  all_goals try exact clz
  refine qn (T:=fun s:Nat×Nat×AObj×AObj=>qI 151 [(0,strs names),(4,.op h.length 1 0),(24,.osl (h.length+14) s.2.1 1 0 s.1),(121,ql B),(122,.int .i64 B.length),(123,.int .i64 s.1)])
   (H:=fun s=>h++ [.mem 1 44 [qu gs],.emp 1,.mem 1 164 [.int .u64 ((all:Nat):Int)],.mem 1 62 [ql L],.emp (v+1),O5,.emp 0,.mem 1 62 [ql B],.mem 1 4 [.bool fd],O9',O10,.emp 0,O12,.emp 0,zP s.2.1 9 (zY ((B.map (qaj names gs)).take s.1)),s.2.2.1,.emp 0,s.2.2.2,.emp 0])
   (inv:=fun s=>s.1≤B.length∧qC [s.2.2.1] 0=true∧qC [s.2.2.2] 0=true) (m:=fun s=>B.length-s.1) (0,1,.emp 0,.emp 0) ⟨nzl _,rfl,rfl⟩ (Wk.temps ?_) ?_
  ·(simp only[go_sem,qj,qd,qa,qi];try (repeat' first|(with_reducible apply aiA)|(apply qh;omega)|(apply qg;rfl)|exact qk))
  rintro⟨i,u,O15,O17⟩ ⟨i1,i2,i3⟩ K hK;simp only at i1 i2 i3 hK;have i2': ∀m,qC (O15::m) 0=true:=fun _=>i2
  have i3': ∀m,qC (O17::m) 0=true:=fun _=>i3
  have eCl:i≤B.length→(zY ((B.map (qaj names gs)).take i)).length=i:=fun hi=>by rw[jb,List.length_take,List.length_map];omega
  have zv: ∀X:List Int,ql X= .sl X.length fun i=> [.int .i64 (X.getD i 0)]:=fun _=>rfl
  by_cases hi:i<B.length
  ·have q1:((i:Int)<B.length)=True:=eqt om;have hm:B.getD i 0∈B:=by rw[gdqA,zp hi];exact List.getElem_mem hi
   obtain⟨p0,p1⟩:=hBin _ hm;have hst:(B.map (qaj names gs)).take (i+1)=(B.map (qaj names gs)).take i++ [qaj names gs (B.getD i 0)]:=by
    rw[←List.map_take,←List.map_take,zS hi,List.map_append];rfl
   have eTk:List.take i (zY ((B.map (qaj names gs)).take i))=zY ((B.map (qaj names gs)).take i):=ltl (by rw[eCl om];exact nlr _);have eC:=eCl om;have zg1: ∀g,valL g .len [qu gs]= .int .i64 gs.length:=fun _=>rfl
   have zg2: ∀g,okL g .len [qu gs]=True:=fun _=>eqt trivial
   obtain⟨y,hy⟩: ∃y:Nat,B.getD i 0=(y:Int):=⟨(B.getD i 0).toNat,om⟩
   rw[hy]at hst p1
   by_cases hg:y<gs.length
   ·have q2:((y:Int)<gs.length)=True:=eqt om;have q3:(0≤(y:Int))=True:=eqt om;have hsg:qaj names gs (y:Int)=(gs.getD y default).name:=by unfold qaj;rw[ipo om,itn]
    rw[hsg]at hst;simp (disch:=omega) only[zv,qu,grC,q1,q2,q3,hy,i2',Nat.mul_one,itn,go_sem]
    repeat' first
     |with_reducible apply aiA
    all_goals try exact clz
    have eA:zY ((B.map (qaj names gs)).take i)++ [AV.str (gs.getD y default).name]=zY ((B.map (qaj names gs)).take (i+1)):=by rw[hst,qaF];rfl
    try rw[eTk]
    rw[eA];refine hK _ _ (i+1,u+1,.mem (qr (some O15)+1) 9 [.str (gs.getD y default).name],O17) ⟨hi,rfl,i3⟩ (by simp only;omega) ?_;simp only[zv,qu,grC];refine Wk.temps ?_
    (simp only[go_sem,qj,qd,qa,qi];try (repeat' first|(with_reducible apply aiA)|(apply qh;omega)|(apply qg;rfl)|exact qk))
   ·have q2:((y:Int)<gs.length)=False:=eqf om;obtain⟨z,hz⟩: ∃z:Nat,(y:Int)-gs.length=(z:Int):=⟨y-gs.length,om⟩
    have q3:((z:Int)<names.length)=True:=eqt om;have q4:(0≤(z:Int))=True:=eqt om;have hsg:qaj names gs (y:Int)=names.getD z []:=by unfold qaj;rw[ine om,hz,itn]
    rw[hsg]at hst;simp (disch:=omega) only[zv,strs,zg1,zg2,q1,q2,q3,q4,hy,hz,i3',Nat.mul_one,itn,go_sem]
    repeat' first
     |with_reducible apply aiA
    all_goals try exact clz
    have eA:zY ((B.map (qaj names gs)).take i)++ [AV.str (names.getD z [])]=zY ((B.map (qaj names gs)).take (i+1)):=by rw[hst,qaF];rfl
    try rw[eTk]
    rw[eA];refine hK _ _ (i+1,u+1,O15,.mem (qr (some O17)+1) 9 [.str (names.getD z [])]) ⟨hi,i2,rfl⟩ (by simp only;omega) ?_;simp only[zv,strs];refine Wk.temps ?_
    (simp only[go_sem,qj,qd,qa,qi];try (repeat' first|(with_reducible apply aiA)|(apply qh;omega)|(apply qg;rfl)|exact qk))
  ·obtain rfl:i=B.length:=by omega
   have q1:((B.length:Int)<B.length)=False:=eqf om;have eAll:(B.map (qaj names gs)).take B.length=B.map (qaj names gs):=ltl (by simp);rw[eAll];simp (disch:=omega) only[q1,go_sem]
   repeat' first
    |(apply qb;exact rvk;simp only[go_sem])
   exact qL ⟨qei (fun _=>rfl) (by simp),qk,trivial⟩
theorem qd0(p:Nat→Bool)(n:Nat):(qT p n).Pairwise (· < ·):=by
 unfold qT;rw[List.pairwise_map];exact ((List.pairwise_lt_range (n:=n)).filter _).imp fun h=>by simpa using h
theorem qAV{l:List Int}(h: ∀i,0<i→i<l.length→l.getD (i-1) 0<l.getD i 0):l.Pairwise (· < ·):=by
 rw[List.pairwise_iff_getElem];have key: ∀j i,(hj:j<l.length)→i<j→l.getD i 0<l.getD j 0:=by
  intro j
  induction j with
  |zero=>intro i _ h;omega
  |succ j ih=>
   intro i hj hi;have h1:=h (j+1) om hj;rw[Nat.add_sub_cancel]at h1
   by_cases e:i=j
   ·subst e;exact h1
   ·have:=ih i om om
    omega
 intro i j hi hj hij
 have:=key j i hj hij
 rw[gdqA,zp hi,gdqA,zp hj]at this;exact this
theorem qhl{l:List Int}(h:l.Pairwise (· < ·)):l.Nodup:=h.imp fun h e=>by omega
theorem qAm{l m:List Int}(hl:l.Pairwise (· < ·))(hm:m.Pairwise (· < ·))(h: ∀x,x∈l↔x∈m):l=m:=
 List.Perm.eq_of_pairwise (le:=(· < ·)) (fun a b _ _ h1 h2=>by omega) hl hm ((List.perm_ext_iff_of_nodup (qhl hl) (qhl hm)).2 h)
theorem qqP{l:List Int}{n:Nat}(hn:n≤64)(h:qai n l=0):l=qT (qaf l).testBit 64:=by
 obtain⟨h1,h2⟩:=qac h;have h64:inB 64 l:=fun i hi=>by have:=h1 i hi;omega
 refine qAm (qAV h2) (qd0 _ _) fun x=> ?_
 rw[qbe];constructor
 ·intro hx;have hb:=jl h64 x hx;exact⟨x.toNat,om,by rw[qaa h64];exact dqt (by rw[show ((x.toNat:Nat):Int)=x by omega];exact hx),om⟩
 ·rintro⟨k,_,hk,rfl⟩;rw[qaa h64]at hk;exact of_decide_eq_true hk
theorem qga(p q:Nat→Bool)(n:Nat):(qT p n).filter (fun x=>q x.toNat)=qT (fun k=>p k&&q k) n:=by
 unfold qT;rw[List.filter_map,List.filter_filter];congr 1;refine List.filter_congr fun k _=> ?_
 show (q (Int.ofNat k).toNat&&p k)=(p k&&q k);rw[show (Int.ofNat k).toNat=k from rfl,Bool.and_comm]
theorem qow{a b:Nat}(ha:a<2^64)(hb:b<2^64):anN a b=0↔ ∀k,a.testBit k=true→b.testBit k=true:=by
 constructor
 ·intro h k hk
  have:=qfJ ha hb k
  rw[h,Nat.zero_testBit,hk,Bool.true_and]at this;cases e:b.testBit k with
  |true=>rfl
  |false=>rw[e]at this;cases this
 ·intro h;refine Nat.eq_of_testBit_eq fun k=> ?_
  rw[qfJ ha hb,Nat.zero_testBit];cases e:a.testBit k with
  |false=>rfl
  |true=>rw[h k e];rfl
theorem qwm{gs:List Gr}{l:List Int}{i:Nat}(hm:inB 64 (gs.getD i default).mem)(hl:inB 64 l):qhO gs (qaf l) i=decide (∀x∈(gs.getD i default).mem,x∈l):=by
 unfold qhO;refine decide_eq_decide.2 ?_;rw[qow (qcR hm) (qcR hl)];constructor
 ·intro h x hx;have hb:=jl hm x hx
  have:=h x.toNat (by rw[qaa hm];exact dqt (by rw[show ((x.toNat:Nat):Int)=x by omega];exact hx))
  rw[qaa hl]at this
  have:=of_decide_eq_true this
  rw[show ((x.toNat:Nat):Int)=x by omega]at this;exact this
 ·intro h k hk;rw[qaa hm]at hk;rw[qaa hl];exact dqt (h _ (of_decide_eq_true hk))
theorem qtJ{a b:Int}:qfV a b<0↔a<b:=by
 unfold qfV;split
 ·simp;omega
 ·split
  ·simp;omega
  ·simp;omega
theorem qrG{a b:Int}:qfV a b=0↔a=b:=by
 unfold qfV;split
 ·constructor
  ·intro h;cases h
  ·intro h;omega
 ·split
  ·constructor
   ·intro h;cases h
   ·intro h;omega
  ·constructor
   ·intro h;omega
   ·intro h;rfl
theorem qDX(a b:List Int)(h:List AObj)(ha:a.length≤1000000000)(hb:b.length≤1000000000):ACalls Tryz.prog 171 [ql a,ql b] h (.bool (qjM a b)) h:=by
 have z1: ∀g,valL g .len [ql a]= .int .i64 a.length:=fun _=>rfl
 have z2: ∀g,okL g .len [ql a]=True:=fun _=>eqt trivial
 have z3: ∀g,valL g .len [ql b]= .int .i64 b.length:=fun _=>rfl
 have z4: ∀g,okL g .len [ql b]=True:=fun _=>eqt trivial
 obtain⟨R,hR⟩: ∃R,R=qjM a b:=⟨_,rfl⟩
 rw[←hR];unfold qjM at hR
 by_cases hl:a.length=b.length
 case neg=>
  have k0:((a.length:Int)=b.length)=False:=eqf om;rw[dqf hl,Bool.false_and,Bool.or_false]at hR;have e:decide ((a.length:Int)<b.length)=R:=by rw[hR];exact decide_eq_decide.2 om
  refine acO qr1 ?_;simp (disch:=omega) only[qtg,z1,z2,z3,z4,k0,go_sem]
  repeat' first
   |(apply qe;exact rvk;simp only[go_sem];apply qg)
  all_goals try exact clz
 have k0:((a.length:Int)=b.length)=True:=eqt om;rw[dqf om,Bool.false_or,dqt hl,Bool.true_and]at hR;unfold qo8 at hR;refine acO qr1 ?_;simp (disch:=omega) only[qtg,z1,z2,z3,z4,k0,go_sem];refine qn (T:=fun i:Nat=>qI 40 [(0,ql a),(1,ql b),(5,.int .i64 i)]) (H:=fun _=>h) (inv:=fun i=>i≤a.length∧ ∀j,j<i→(fun i=>qfV (a.getD i 0) (b.getD i 0)) j=0) (m:=fun i=>a.length-i) 0 ⟨nzl _,fun j hj=>by omega⟩ (Wk.temps ?_) ?_
 ·(simp only[go_sem,qj,qd,qa,qi];try (repeat' first|(with_reducible apply aiA)|(apply qh;omega)|(apply qg;rfl)|exact qk))
 rintro i ⟨i1,i2⟩ K hK;have zv: ∀X:List Int,ql X= .sl X.length fun i=> [.int .i64 (X.getD i 0)]:=fun _=>rfl
 by_cases hi:i<a.length
 ·have k1:((i:Int)<a.length)=True:=eqt om;have k2:((i:Int)<b.length)=True:=eqt om;have hE:=qO (f:=fun i=>qfV (a.getD i 0) (b.getD i 0)) hi i2
  by_cases g:a.getD i 0=b.getD i 0
  ·have k3:(a.getD i 0=b.getD i 0)=True:=eqt g;simp (disch:=omega) only[zv,k1,k2,k3,go_sem]
   repeat' first
    |with_reducible apply aiA
   all_goals try exact clz
   refine hK _ _ (i+1) ⟨hi,fun j hj=> ?_⟩ om (Wk.temps ?_)
   ·by_cases e:j=i
    ·subst e;exact qrG.2 g
    ·exact i2 j om
   ·(simp only[zv,go_sem,qj,qd,qa,qi];try (repeat' first|(with_reducible apply aiA)|(apply qh;omega)|(apply qg;rfl)|exact qk))
  ·have k3:(a.getD i 0=b.getD i 0)=False:=eqf g;rw[hE (fun hc=>g (qrG.1 hc))]at hR;have e:decide (a.getD i 0<b.getD i 0)=R:=by rw[hR];exact decide_eq_decide.2 qtJ.symm
   simp (disch:=omega) only[zv,k1,k2,k3,go_sem]
   repeat' first
    |(apply qe;exact rvk;simp only[go_sem];apply qg)
    |with_reducible apply aiA
   all_goals try exact clz
 ·have k1:((i:Int)<a.length)=False:=eqf om;have hz:=qz (f:=fun i=>qfV (a.getD i 0) (b.getD i 0)) (n:=a.length) (fun j hj=>i2 j om);rw[hz]at hR;have e:R=false:=by rw[hR];rfl
  rw[e];simp (disch:=omega) only[z1,z2,k1,go_sem]
  repeat' first
   |(apply qe;exact rvk;simp only[go_sem];exact qk)
theorem qEa(names:List Str)(gs:List Gr)(set:List Int)(h:List AObj)(hz:Szs names gs)(hs:set.length≤1000000000):ACalls Tryz.prog 218 [strs names,qu gs,ql set] h (.int .i64 (qbJ names gs set)) h:=by
 have c49:=fun h=>sgR names gs h hz
 have c83:=fun h=>qDH set names.length h hs
 have zl: ∀g,valL g .len [strs names]= .int .i64 names.length:=fun _=>rfl
 have zo: ∀g,okL g .len [strs names]=True:=fun _=>eqt trivial
 unfold qbJ
 by_cases g:sgE names gs=0
 ·rw[ipo g];simp only[g]at c49;refine acO qr5 ?_;simp (disch:=omega) only[qtk,go_sem]
  repeat' first
   |((first|refine cA (c49 _) ?_ ?_|refine cA (c83 _) ?_ ?_);exact flk;simp (disch:=omega) only[zl,zo,go_sem])
   |(apply qe;exact rvk;simp only[go_sem];exact qk)
 ·rw[ine g];have k:(sgE names gs=0)=False:=eqf g;refine acO qr5 ?_;simp (disch:=omega) only[qtk,go_sem]
  repeat' first
   |(refine cA (c49 _) flk ?_;simp (disch:=omega) only[zl,zo,k,go_sem])
   |(apply qe;exact rvk;simp only[go_sem];exact qk)
theorem qFg(a b:List Int)(h:List AObj)(ha:a.length≤1000000000)(hb:b.length≤1000000000):ACalls Tryz.prog 219 [ql a,ql b] h (.bool (decide (∀x∈a,x∈b))) h:=by
 have z1: ∀g,valL g .len [ql a]= .int .i64 a.length:=fun _=>rfl
 have z2: ∀g,okL g .len [ql a]=True:=fun _=>eqt trivial
 obtain⟨R,hR⟩: ∃R,R=decide (∀x∈a,x∈b):=⟨_,rfl⟩
 rw[←hR];refine acO qzc ?_;simp (disch:=omega) only[qxu,go_sem];refine qn (T:=fun i:Nat=>qI 19 [(0,ql a),(1,ql b),(5,.int .i64 i)]) (H:=fun _=>h) (inv:=fun i=>i≤a.length∧ ∀j,j<i→a.getD j 0∈b) (m:=fun i=>a.length-i) 0 ⟨nzl _,fun j hj=>by omega⟩ (Wk.temps ?_) ?_
 ·(simp only[go_sem,qj,qd,qa,qi];try (repeat' first|(with_reducible apply aiA)|(apply qh;omega)|(apply qg;rfl)|exact qk))
 rintro i ⟨i1,i2⟩ K hK;have zv:ql a= .sl a.length fun i=> [.int .i64 (a.getD i 0)]:=rfl
 by_cases hi:i<a.length
 ·have k1:((i:Int)<a.length)=True:=eqt om;have c56:=fun h=>quu b (a.getD i 0) h hb
  by_cases g:a.getD i 0∈b
  ·simp only[dqt g]at c56;simp (disch:=omega) only[zv,k1,go_sem]
   repeat' first
    |(refine cA (c56 _) flk ?_;simp (disch:=omega) only[go_sem])
    |with_reducible apply aiA
   all_goals try exact clz
   refine hK _ _ (i+1) ⟨hi,fun j hj=> ?_⟩ om (Wk.temps ?_)
   ·by_cases e:j=i
    ·subst e;exact g
    ·exact i2 j om
   ·(simp only[zv,go_sem,qj,qd,qa,qi];try (repeat' first|(with_reducible apply aiA)|(apply qh;omega)|(apply qg;rfl)|exact qk))
  ·simp only[dqf g]at c56;have e:R=false:=by
    rw[hR];refine dqf fun hc=>g (hc _ ?_)
    rw[gdqA,zp hi];exact List.getElem_mem hi
   rw[e];simp (disch:=omega) only[zv,k1,go_sem]
   repeat' first
    |(refine cA (c56 _) flk ?_;simp (disch:=omega) only[go_sem])
    |(apply qe;exact rvk;simp only[go_sem];exact qk)
    |with_reducible apply aiA
   all_goals try exact clz
 ·have k1:((i:Int)<a.length)=False:=eqf om;have e:R=true:=by
   rw[hR];refine dqt fun x hx=> ?_
   obtain⟨j,hj,rfl⟩:=List.getElem_of_mem hx
   have:=i2 j om
   rw[gdqA,zp hj]at this;exact this
  rw[e];simp (disch:=omega) only[z1,z2,k1,go_sem]
  repeat' first
   |(apply qe;exact rvk;simp only[go_sem];exact qk)
theorem qew{n:Int}(h0:0≤n)(h1:n<9223372036854775808):IntKind.i64.wrap n=n:=qq om om
theorem qs0{a n:Nat}(ha:a<2^62)(hn:n<62):qok .i64 (qvr .i64 (a:Int) (n:Int)) 1=if a.testBit n=true then 1 else 0:=by
 have e1:qvr .i64 (a:Int) (n:Int)=((a>>>n:Nat):Int):=by
  unfold qvr;rw[show IntKind.bits IntKind.i64=64 from rfl,itn,Nat.min_eq_left om,Nat.shiftRight_eq_div_pow,show ((2:Int)^n)=((2^n:Nat):Int) by simp,Int.fdiv_eq_ediv_of_nonneg _ (Int.natCast_nonneg _)];rfl
 have hlt:a>>>n<2^62:=Nat.lt_of_le_of_lt (by rw[Nat.shiftRight_eq_div_pow];exact Nat.div_le_self _ _) ha;have e2: ∀b:Nat,b<2^62→qok .i64 (b:Int) 1=((b&&&1:Nat):Int):=fun b hb=>by
  unfold qok;rw[show IntKind.bits IntKind.i64=64 from rfl,show (1:Int)=((1:Nat):Int)from rfl,jB,jB,BitVec.toNat_and,BitVec.toNat_ofNat,BitVec.toNat_ofNat,Nat.mod_eq_of_lt om,Nat.mod_eq_of_lt (by decide)]
  have:b&&&1≤1:=Nat.and_le_right
  exact qew om om
 rw[e1,e2 _ hlt]
 have:(a>>>n)&&&1=(a.testBit n).toNat:=by rw[Nat.testBit];simp[Nat.and_comm 1];rcases Nat.mod_two_eq_zero_or_one (a>>>n)with h|h<;>simp[h]
 rw[this];cases a.testBit n<;>rfl
theorem qvq{n:Nat}(hn:n<62):qwD .i64 1 (n:Int)=((2^n:Nat):Int):=by
 unfold qwD;rw[show IntKind.bits IntKind.i64=64 from rfl,itn,Nat.min_eq_left om];have h2:(2:Nat)^n<2^62:=Nat.pow_lt_pow_right om hn;rw[Int.one_mul,show ((2:Int)^n)=((2^n:Nat):Int) by simp];exact qew (Int.natCast_nonneg _) om
theorem qEv(names:List Str)(gs:List Gr)(set:List Int)(h:List AObj)(hz:Szs names gs)(hs:set.length≤1000000000)(h8:qbJ names gs set=0→names.length≤64):
  ACalls Tryz.prog 169 [strs names,qu gs,ql set] h (.tup [ql (if qbJ names gs set=0 then qbL gs (qaf set) else []),.int .i64 (qbJ names gs set)]) h:=by
 have c141:=fun h=>qEa names gs set h hz hs
 by_cases g:qbJ names gs set=0
 case neg=>
  have k0:(qbJ names gs set=0)=False:=eqf g;rw[ine g];refine acO qr0 ?_;simp (disch:=omega) only[qtf,go_sem]
  repeat' first
   |(refine cA (c141 _) flk ?_;simp (disch:=omega) only[k0,go_sem])
   |(apply qb;exact rvk;simp only[go_sem])
  exact zu
 rw[ipo g,g];simp only[g]at c141;have n64:=h8 g;have hse:sgE names gs=0∧qai names.length set=0:=by
  unfold qbJ at g;split at g
  ·rename_i h;exact⟨h,g⟩
  ·cases g
 have hin:=(qac hse.2).1;have hin64:inB 64 set:=fun i hi=>by have:=hin i hi;omega
 have hmi:=qf5 hse.1;have hml:=hz.gm;have hgl:=hz.g;have zl: ∀g,valL g .len [qu gs]= .int .i64 gs.length:=fun _=>rfl
 have zo: ∀g,okL g .len [qu gs]=True:=fun _=>eqt trivial
 have hW:qbL gs (qaf set)=qT (qhO gs (qaf set)) gs.length:=rfl;rw[hW];obtain⟨pB,hpB⟩: ∃pB,pB=qhO gs (qaf set):=⟨_,rfl⟩
 have hpi: ∀i,pB i=decide (∀x∈(gs.getD i default).mem,x∈set):=fun i=>by rw[hpB];exact qwm (hmi i) hin64
 rw[←hpB];refine acO qr0 ?_;simp (disch:=omega) only[qtf,go_sem]
 repeat' first
  |(refine cA (c141 _) flk ?_;simp (disch:=omega) only[go_sem])
 have e0:qS [AV.int .i64 0] 0=qp (qT pB 0):=rfl;rw[e0];refine qn (T:=fun i:Nat×Nat×AObj=>qI 37 [(1,qu gs),(2,ql set),(9,.osl (h.length+1) i.2.1 1 0 (qT pB i.1).length),(10,.int .i64 i.1)])
  (H:=fun i=>h++ [.emp 1,.mem i.2.1 3 (qp (qT pB i.1)),i.2.2,.emp 0])
  (inv:=fun i=>i.1≤gs.length∧qC [i.2.2] 0=true) (m:=fun i=>gs.length-i.1) (0,1,.emp 0) ⟨nzl _,rfl⟩ (Wk.temps ?_) ?_
 ·(simp only[qT,List.range_zero,List.filter_nil,lnl,List.map_nil,go_sem,qj,qd,qa,qi];try (repeat' first|(with_reducible apply aiA)|(apply qh;omega)|(apply qg;rfl)|exact qk))
 rintro⟨i,v,O⟩ ⟨i1,i2⟩ K hK;simp only at i1 i2 hK;have i2': ∀m,qC (O::m) 0=true:=fun _=>i2
 have hst:=zH pB i;have hln:=qN pB i;have hp:=hpi i;obtain⟨L,hL⟩: ∃L,L=qT pB i:=⟨_,rfl⟩
 rw[←hL]at hst hln;have eL:=hL.symm;have eC:=qy L
 by_cases hi:i<gs.length
 ·have k1:((i:Int)<gs.length)=True:=eqt om;have c142:=fun h=>qFg (gs.getD i default).mem set h (hml i) hs
  simp only[←hp]at c142;obtain⟨gr,hgr⟩: ∃gr,gr=gs.getD i default:=⟨_,rfl⟩
  have egr:=hgr.symm;simp only[egr]at c142;have eTk:List.take L.length (qp L)=qp L:=ltl om;cases hb:pB i with
  |true=>
   rw[hb,ipo rfl]at hst;rw[hb]at c142;simp (disch:=omega) only[qu,grC,k1,eL,egr,go_sem]
   repeat' first
    |(refine cA (c142 _) flk ?_;simp (disch:=omega) only[i2',eC,eTk,Nat.mul_one,go_sem])
    |with_reducible apply aiA
   all_goals try exact clz
   have eA:qp L++ [AV.int .i64 (i:Int)]=qp (qT pB (i+1)):=by rw[hst,qR];rfl
   try rw[eTk]
   rw[eA];refine hK _ _ (i+1,v+1,.mem (qr (some O)+1) 3 [.int .i64 (i:Int)]) ⟨hi,rfl⟩ (by simp only;omega) ?_;simp only[hst,lap,lco,lnl,qu,grC];refine Wk.temps ?_
   (simp only[go_sem,qj,qd,qa,qi];try (repeat' first|(with_reducible apply aiA)|(apply qh;omega)|(apply qg;rfl)|exact qk))
  |false=>
   rw[hb,ine (by simp),lan]at hst;rw[hb]at c142;simp (disch:=omega) only[qu,grC,k1,eL,egr,go_sem]
   repeat' first
    |(refine cA (c142 _) flk ?_;simp (disch:=omega) only[i2',go_sem])
    |with_reducible apply aiA
   all_goals try exact clz
   refine hK _ _ (i+1,v,O) ⟨hi,i2⟩ (by simp only;omega) ?_;simp only[hst,qu,grC];refine Wk.temps ?_
   (simp only[go_sem,qj,qd,qa,qi];try (repeat' first|(with_reducible apply aiA)|(apply qh;omega)|(apply qg;rfl)|exact qk))
 ·obtain rfl:i=gs.length:=by omega
  have k1:((gs.length:Int)<gs.length)=False:=eqf om;rw[eL];simp (disch:=omega) only[zl,zo,k1,go_sem]
  repeat' first
   |(apply qb;exact rvk;simp only[go_sem])
  refine qL ⟨?_,qk,trivial⟩;rw[ipo om];exact zO _ (fun _=>rfl) rfl
def qfF(gs:List Gr)(sm:List Int)(bits all i:Nat):List Int:=qT (fun k=>all.testBit k&& !(qgc (usM gs sm) bits i).testBit k) 64
def qd8(sm:List Int)(bits i:Nat):List Int:=(qT bits.testBit i).map fun k=>sm.getD k.toNat 0
theorem qm9(gs:List Gr)(sm:List Int)(bits all:Nat):qfF gs sm bits all 0=qT all.testBit 64:=by
 unfold qfF;refine kM fun k _=> ?_
 show (all.testBit k&& !(0:Nat).testBit k)=_;rw[Nat.zero_testBit];simp
theorem qm7{gs:List Gr}{sm:List Int}{bits all i:Nat}(hb:bits.testBit i=false):qfF gs sm bits all (i+1)=qfF gs sm bits all i:=by
 unfold qfF;rw[qcP,hb,ine (by simp)]
theorem qm8{gs:List Gr}{sm:List Int}{bits all i:Nat}(hb:bits.testBit i=true)(hi:i<sm.length)(hm: ∀i,inB 64 (gs.getD i default).mem):
  qfF gs sm bits all (i+1)=(qfF gs sm bits all i).filter fun x=> !decide (x∈(gs.getD (sm.getD i 0).toNat default).mem):=by
 unfold qfF;rw[qcP,hb,ipo rfl,qgH hi];have e: ∀l:List Int,(∀x∈l,0≤x)→l.filter (fun x=> !decide (x∈(gs.getD (sm.getD i 0).toNat default).mem))=l.filter fun x=>(fun k=> !(qaf (gs.getD (sm.getD i 0).toNat default).mem).testBit k) x.toNat:=fun l hl=>by
  refine List.filter_congr fun x hx=> ?_
  simp only;rw[qaa (hm _),show ((x.toNat:Nat):Int)=x by have:=hl x hx;omega]
 refine Eq.symm ((e _ (fun x hx=>by obtain⟨k,rfl,_,_⟩:=jk hx;omega)).trans ((qga _ (fun k=> !(qaf (gs.getD (sm.getD i 0).toNat default).mem).testBit k) _).trans ?_));refine kM fun k _=> ?_
 rw[Nat.testBit_or];cases all.testBit k<;>cases (qgc (usM gs sm) bits i).testBit k<;>cases (qaf (gs.getD (sm.getD i 0).toNat default).mem).testBit k<;>rfl
theorem qmA{sm:List Int}{bits i:Nat}(hb:bits.testBit i=false):qd8 sm bits (i+1)=qd8 sm bits i:=by
 unfold qd8;rw[zH,hb,ine (by simp),lan]
theorem qmB{sm:List Int}{bits i:Nat}(hb:bits.testBit i=true):qd8 sm bits (i+1)=qd8 sm bits i++ [sm.getD i 0]:=by
 unfold qd8;rw[zH,hb,ipo rfl,List.map_append];rfl
theorem qqp(sm:List Int)(bits i:Nat):(qd8 sm bits i).length≤i:=by
 unfold qd8;rw[List.length_map];exact qN _ _
theorem qqK(gs:List Gr)(sm:List Int)(bits all i:Nat):(qfF gs sm bits all i).length≤64:=qN _ _
theorem qu2{gs:List Gr}{sm:List Int}{bits all:Nat}(hm: ∀i,inB 64 (gs.getD i default).mem)(hb:bits<2^sm.length)(hs:sm.length≤64)(ha:all<2^64):
  kr gs all sm bits=qd8 sm bits sm.length++(qfF gs sm bits all sm.length).map fun s=>(gs.length:Int)+s:=by
 unfold kr qd8 qfF;have e1:qT bits.testBit 64=qT bits.testBit sm.length:=qhn 64 hs fun k h1 h2=>by
  cases e:bits.testBit k with
  |false=>rfl
  |true=>have:=qea hb e;omega
 have e2:qT (anN all (chN (usM gs sm) bits)).testBit 64=qT (fun k=>all.testBit k&& !(qgc (usM gs sm) bits sm.length).testBit k) 64:=by
  refine kM fun k _=> ?_
  have hc:chN (usM gs sm) bits=qgc (usM gs sm) bits sm.length:=by unfold chN;rw[qgI]
  rw[←hc];exact qfJ ha (qrF (qsE hm sm) bits) k
 rw[e1,e2]
theorem qlo{L:List Int}{p:Int→Bool}{j:Nat}(hj:j<L.length):(L.take (j+1)).filter p=(L.take j).filter p++if p (L.getD j 0)=true then [L.getD j 0] else []:=by
 rw[zS hj,List.filter_append,List.filter_cons];split<;>rfl
theorem qEK(gs:List Gr)(sm:List Int)(bits all:Nat)(h:List AObj)(hg:gs.length≤1000000)(hS: ∀x∈sm,∃k:Nat,x=(k:Int)∧k<gs.length)(hsl:sm.length≤16)(hb:bits<2^sm.length)
  (hm: ∀i,inB 64 (gs.getD i default).mem) (hml: ∀i,(gs.getD i default).mem.length≤1000000000) (ha:all<2^64):
  ACalls Tryz.prog 170 [qu gs,ql sm,.int .i64 ((bits:Nat):Int),ql (qT all.testBit 64)] h (ql (kr gs all sm bits)) h:=by
 have hp16:2^sm.length≤2^16:=Nat.pow_le_pow_right om hsl;rw[qu2 hm hb om ha,←qm9 gs sm bits all];have z1: ∀g,valL g .len [ql sm]= .int .i64 sm.length:=fun _=>rfl
 have z2: ∀g,okL g .len [ql sm]=True:=fun _=>eqt trivial
 have zg1: ∀g,valL g .len [qu gs]= .int .i64 gs.length:=fun _=>rfl
 have zg2: ∀g,okL g .len [qu gs]=True:=fun _=>eqt trivial
 have zv: ∀X:List Int,ql X= .sl X.length fun i=> [.int .i64 (X.getD i 0)]:=fun _=>rfl
 refine acO qyR ?_;simp (disch:=omega) only[qxc,go_sem];have e0:qS [AV.int .i64 0] 0=qp (qd8 sm bits 0):=rfl;rw[e0];refine qn (T:=fun s:Nat×Nat×AObj×AObj×AObj=>qI 81 [(0,qu gs),(1,ql sm),(2,.int .i64 ((bits:Nat):Int)),(9,.osl (h.length+1) s.2.1 1 0 (qd8 sm bits s.1).length),(10,ql (qfF gs sm bits all s.1)),(11,.int .i64 s.1)])
  (H:=fun s=>h++ [.emp 1,.mem s.2.1 3 (qp (qd8 sm bits s.1)),s.2.2.1,.emp 0,s.2.2.2.1,s.2.2.2.2,.emp 0,.emp 0,.emp 0])
  (inv:=fun s=>s.1≤sm.length∧qC [s.2.2.1] 0=true∧qC [s.2.2.2.1] 0=true∧qC [s.2.2.2.2] 0=true) (m:=fun s=>sm.length-s.1) (0,1,.emp 0,.emp 0,.emp 0) ⟨nzl _,rfl,rfl,rfl⟩ (Wk.temps ?_) ?_
 ·(simp only[qd8,qT,List.range_zero,List.filter_nil,lnl,List.map_nil,go_sem,qj,qd,qa,qi];try (repeat' first|(with_reducible apply aiA)|(apply qh;omega)|(apply qg;rfl)|exact qk))
 rintro⟨i,v,O2,O4,O5⟩ ⟨i1,i2,i4,i5⟩ K hK;simp only at i1 i2 i4 i5 hK;have i2': ∀m,qC (O2::m) 0=true:=fun _=>i2
 have i4': ∀m,qC (O4::m) 0=true:=fun _=>i4
 have i5': ∀m,qC (O5::m) 0=true:=fun _=>i5
 have hol:=qqp sm bits i;have hrl:=qqK gs sm bits all i
 by_cases hi:i<sm.length
 ·have k1:((i:Int)<sm.length)=True:=eqt om;have k2:(0≤(i:Int))=True:=eqt om;have e1:=qs0 (a:=bits) (n:=i) om om;cases hbit:bits.testBit i with
  |false=>
   rw[hbit,ine (by simp)]at e1;simp (disch:=omega) only[z1,z2,k1,k2,e1,go_sem];refine hK _ _ (i+1,v,O2,O4,O5) ⟨hi,i2,i4,i5⟩ (by simp only;omega) ?_;simp only[qm7 hbit,qmA hbit];refine Wk.temps ?_
   (simp only[go_sem,qj,qd,qa,qi];try (repeat' first|(with_reducible apply aiA)|(apply qh;omega)|(apply qg;rfl)|exact qk))
  |true=>
   rw[hbit,ipo rfl]at e1;have hmS:sm.getD i 0∈sm:=by rw[gdqA,zp hi];exact List.getElem_mem hi
   obtain⟨y,hy,hyl⟩:=hS _ hmS;have ho:=qmB (sm:=sm) hbit;have hr:=qm8 (gs:=gs) (all:=all) hbit hi hm;rw[hy]at ho hr;rw[itn]at hr;have q2:((y:Int)<gs.length)=True:=eqt om;have q3:(0≤(y:Int))=True:=eqt om;have c56:=fun x h=>quu (gs.getD y default).mem x h (hml y)
   obtain⟨L,hL⟩: ∃L,L=qd8 sm bits i:=⟨_,rfl⟩
   obtain⟨r,hrr⟩: ∃r,r=qfF gs sm bits all i:=⟨_,rfl⟩
   rw[←hL]at ho hol;rw[←hrr]at hr hrl;have eL:=hL.symm;have er:=hrr.symm;have eC:=qy L;have eTk:List.take L.length (qp L)=qp L:=ltl om;obtain⟨gr,hgr⟩: ∃gr,gr=gs.getD y default:=⟨_,rfl⟩
   have egr:=hgr.symm;simp only[egr]at c56;rw[egr]at hr;simp (disch:=omega) only[zv,k1,k2,e1,hy,i2',i4',eL,er,Nat.mul_one,go_sem]
   repeat' first
    |with_reducible first|intro _|apply aiA
   all_goals try exact clz
   have eA:qp L++ [AV.int .i64 ((y:Nat):Int)]=qp (qd8 sm bits (i+1)):=by rw[ho,qR];rfl
   try rw[eTk]
   rw[eA];obtain⟨pr,hpr⟩: ∃pr:Int→Bool,pr=fun x=> !decide (x∈gr.mem):=⟨_,rfl⟩
   rw[←hpr]at hr;have e00:qS [AV.int .i64 0] 0=qp ((r.take 0).filter pr):=rfl;rw[e00];have hLo:(qd8 sm bits (i+1)).length=L.length+1:=by rw[ho,lap];rfl
   refine qn (T:=fun s:Nat×Nat×AObj=>qI 81 [(0,qu gs),(1,ql sm),(2,.int .i64 ((bits:Nat):Int)),(9,.osl (h.length+1) (v+1) 1 0 (L.length+1)),(10,ql r),(11,.int .i64 i),(12,.osl (h.length+4) s.2.1 1 0 ((r.take s.1).filter pr).length),(13,.int .i64 s.1)])
    (H:=fun s=>h++ [.emp 1,.mem (v+1) 3 (qp (qd8 sm bits (i+1))),.mem (qr (some O2)+1) 3 [.int .i64 ((y:Nat):Int)],.emp 0,.mem s.2.1 3 (qp ((r.take s.1).filter pr)),s.2.2,.emp 0,.emp 0,.emp 0])
    (inv:=fun s=>s.1≤r.length∧qC [s.2.2] 0=true) (m:=fun s=>r.length-s.1) (0,qr (some O4)+1,O5) ⟨nzl _,i5⟩ (Wk.temps ?_) ?_
   ·(simp only[zv,List.take_zero,List.filter_nil,lnl,go_sem,qj,qd,qa,qi];try (repeat' first|(with_reducible apply aiA)|(apply qh;omega)|(apply qg;rfl)|exact qk))
   rintro⟨j,u,O5⟩ ⟨j1,j2⟩ KA hKA;simp only at j1 j2 hKA;have j2': ∀m,qC (O5::m) 0=true:=fun _=>j2
   have hfl:((r.take j).filter pr).length≤j:=Nat.le_trans (List.length_filter_le _ _) (by rw[List.length_take];omega)
   by_cases hj:j<r.length
   ·have q5:((j:Int)<r.length)=True:=eqt om;have hst:=qlo (p:=pr) hj;obtain⟨w,hw⟩: ∃w,w=r.getD j 0:=⟨_,rfl⟩
    have ew:=hw.symm;rw[ew]at hst;obtain⟨FL,hFL⟩: ∃FL,FL=(r.take j).filter pr:=⟨_,rfl⟩
    rw[←hFL]at hst hfl;have eFL:=hFL.symm;have eC2:=qy FL;have eTk2:List.take FL.length (qp FL)=qp FL:=ltl om;have hpw:pr w= !decide (w∈gr.mem):=by rw[hpr]
    by_cases hwm:w∈gr.mem
    ·have hpw:pr w=false:=by rw[hpw,dqt hwm];rfl
     rw[hpw,ine (by simp),lan]at hst;have c56w:=fun h=>c56 w h
     simp only[dqt hwm]at c56w;simp (disch:=omega) only[zv,qu,grC,q2,q3,q5,k1,k2,hy,ew,egr,itn,go_sem]
     repeat' first
      |(refine cA (c56w _) flk ?_;simp (disch:=omega) only[q5,ew,itn,go_sem])
      |with_reducible apply aiA
     all_goals try exact clz
     refine hKA _ _ (j+1,u,O5) ⟨hj,j2⟩ (by simp only;omega) ?_;simp only[hst,zv,qu,grC,eFL];refine Wk.temps ?_
     (simp only[go_sem,qj,qd,qa,qi];try (repeat' first|(with_reducible apply aiA)|(apply qh;omega)|(apply qg;rfl)|exact qk))
    ·have hpw:pr w=true:=by rw[hpw,dqf hwm];rfl
     rw[hpw,ipo rfl]at hst;have c56w:=fun h=>c56 w h
     simp only[dqf hwm]at c56w;simp (disch:=omega) only[zv,qu,grC,q2,q3,q5,k1,k2,hy,ew,egr,eFL,itn,go_sem]
     repeat' first
      |(refine cA (c56w _) flk ?_;simp (disch:=omega) only[q5,ew,j2',eC2,eTk2,Nat.mul_one,itn,go_sem])
      |with_reducible apply aiA
     all_goals try exact clz
     have eA2:qp FL++ [AV.int .i64 w]=qp ((r.take (j+1)).filter pr):=by rw[hst,qR];rfl
     try rw[eTk2]
     rw[eA2];refine hKA _ _ (j+1,u+1,.mem (qr (some O5)+1) 3 [.int .i64 w]) ⟨hj,rfl⟩ (by simp only;omega) ?_;simp only[hst,lap,lco,lnl,zv,qu,grC];refine Wk.temps ?_
     (simp only[go_sem,qj,qd,qa,qi];try (repeat' first|(with_reducible apply aiA)|(apply qh;omega)|(apply qg;rfl)|exact qk))
   ·obtain rfl:j=r.length:=by omega
    have q5:((r.length:Int)<r.length)=False:=eqf om;have eall:(r.take r.length).filter pr=qfF gs sm bits all (i+1):=by rw[List.take_length];exact hr.symm
    rw[eall];have zr1: ∀g,valL g .len [ql r]= .int .i64 r.length:=fun _=>rfl
    have zr2: ∀g,okL g .len [ql r]=True:=fun _=>eqt trivial
    simp (disch:=omega) only[q5,zr1,zr2,go_sem];refine hK _ _ (i+1,v+1,.mem (qr (some O2)+1) 3 [.int .i64 ((y:Nat):Int)],.emp (u+1),O5) ⟨hi,rfl,rfl,j2⟩ (by simp only;omega) (Wk.trans (Wk.freeze [h.length+4] (by simp only[ju,go_sem])) ?_);simp only[qbs,List.map,go_sem,hLo];refine Wk.temps ?_
    (simp only[go_sem,qj,qd,qa,qi];try (repeat' first|(with_reducible apply aiA)|(apply qh;omega)|(apply qg;rfl)|exact qk))
    ·rw[ine (by simp)];exact qk
    ·rw[ipo (by simp),ipo (by simp),ipo (by rw[qy];exact nlr _)];exact zO _ (fun _=>rfl) rfl
 ·obtain rfl:i=sm.length:=by omega
  have k1:((sm.length:Int)<sm.length)=False:=eqf om;obtain⟨L,hL⟩: ∃L,L=qd8 sm bits sm.length:=⟨_,rfl⟩
  have hrb: ∀x∈qfF gs sm bits all sm.length,0≤x∧x<64:=fun x hx=>by
   obtain⟨k,rfl,h1,_⟩:=jk hx;omega
  obtain⟨r,hrr⟩: ∃r,r=qfF gs sm bits all sm.length:=⟨_,rfl⟩
  rw[←hL]at hol;rw[←hrr]at hrl hrb;have eL:=hL.symm;have er:=hrr.symm;rw[eL,er];have zr1: ∀g,valL g .len [ql r]= .int .i64 r.length:=fun _=>rfl
  have zr2: ∀g,okL g .len [ql r]=True:=fun _=>eqt trivial
  obtain⟨G,hG⟩: ∃G:Nat→List Int,G=fun k=>L++(r.take k).map fun s=>(gs.length:Int)+s:=⟨_,rfl⟩
  have g0:G 0=L:=by rw[hG];exact lan _
  have gn:G r.length=L++r.map fun s=>(gs.length:Int)+s:=by rw[hG];simp only;rw[List.take_length]
  have gl: ∀k,k≤r.length→(G k).length=L.length+k:=fun k hk=>by
   rw[hG];simp only;rw[lap,List.length_map,List.length_take,Nat.min_eq_left hk]
  have gs1: ∀k,k<r.length→G (k+1)=G k++ [(gs.length:Int)+r.getD k 0]:=fun k hk=>by
   rw[hG];simp only;rw[zS hk,List.map_append,List.append_assoc];rfl
  rw[←gn];simp (disch:=omega) only[z1,z2,k1,go_sem];rw[←g0];refine qn (T:=fun s:Nat×Nat×AObj=>qI 81 [(0,qu gs),(9,.osl (h.length+1) s.2.1 1 0 (G s.1).length),(10,ql r),(14,.int .i64 s.1)])
   (H:=fun s=>h++ [.emp 1,.mem s.2.1 3 (qp (G s.1)),O2,.emp 0,O4,O5,.emp 0,s.2.2,.emp 0])
   (inv:=fun s=>s.1≤r.length∧qC [s.2.2] 0=true) (m:=fun s=>r.length-s.1) (0,v,.emp 0) ⟨nzl _,rfl⟩ (Wk.temps ?_) ?_
  ·(simp only[go_sem,qj,qd,qa,qi];try (repeat' first|(with_reducible apply aiA)|(apply qh;omega)|(apply qg;rfl)|exact qk))
  rintro⟨k,u,O7⟩ ⟨j1,j2⟩ KA hKA;simp only at j1 j2 hKA;have j2': ∀m,qC (O7::m) 0=true:=fun _=>j2
  have hgl:=gl k j1
  by_cases hk:k<r.length
  ·have q5:((k:Int)<r.length)=True:=eqt om;have hst:=gs1 k hk;have hmr:r.getD k 0∈r:=by rw[gdqA,zp hk];exact List.getElem_mem hk
   obtain⟨w0,w1⟩:=hrb _ hmr;obtain⟨w,hw⟩: ∃w,w=r.getD k 0:=⟨_,rfl⟩
   have ew:=hw.symm;rw[ew]at hst w0 w1;have q6:IntKind.i64.wrap ((gs.length:Int)+w)=(gs.length:Int)+w:=qew om om;obtain⟨FL,hFL⟩: ∃FL,FL=G k:=⟨_,rfl⟩
   rw[←hFL]at hst hgl;have eFL:=hFL.symm;have eC2:=qy FL;have eTk2:List.take FL.length (qp FL)=qp FL:=ltl om;rw[eFL];simp (disch:=omega) only[zv,zg1,zg2,q5,ew,q6,j2',Nat.mul_one,go_sem]
   repeat' first
    |with_reducible apply aiA
   all_goals try exact clz
   have eA2:qp FL++ [AV.int .i64 ((gs.length:Int)+w)]=qp (G (k+1)):=by rw[hst,qR];rfl
   try rw[eTk2]
   rw[eA2];refine hKA _ _ (k+1,u+1,.mem (qr (some O7)+1) 3 [.int .i64 ((gs.length:Int)+w)]) ⟨hk,rfl⟩ (by simp only;omega) ?_;simp only[hst,lap,lco,lnl,zv];refine Wk.temps ?_
   (simp only[go_sem,qj,qd,qa,qi];try (repeat' first|(with_reducible apply aiA)|(apply qh;omega)|(apply qg;rfl)|exact qk))
  ·obtain rfl:k=r.length:=by omega
   have q5:((r.length:Int)<r.length)=False:=eqf om;have eC2:=qy (G r.length);simp (disch:=omega) only[q5,zr1,zr2,go_sem]
   repeat' first
    |(apply qb;exact rvk;simp only[go_sem])
   rw[ipo om];exact zO _ (fun _=>rfl) rfl
theorem qES(names:List Str)(gs:List Gr)(set:List Int)(h:List AObj)(hz:Szs names gs)(hs:set.length≤1000000000)(h8:qbJ names gs set=0→names.length≤8∧gs.length≤8):
  ACalls Tryz.prog 102 [strs names,qu gs,ql set] h (.tup [strs (shR names gs set),.int .i64 (qbJ names gs set)]) h:=by
 have c107:=fun h=>qEv names gs set h hz hs (fun e=>by have:=h8 e;omega)
 unfold shR
 by_cases g:qbJ names gs set=0
 case neg=>
  have k0:(qbJ names gs set=0)=False:=eqf g;rw[ine g];rw[ine g]at c107;refine acO qrI ?_;simp (disch:=omega) only[qs2,go_sem]
  repeat' first
   |(refine cA (c107 _) flk ?_;simp (disch:=omega) only[k0,go_sem])
   |(apply qb;exact rvk;simp only[go_sem])
   |with_reducible apply aiA
  all_goals try exact clz
  exact qL ⟨jf,qk,trivial⟩
 rw[ipo g,g];simp only[ipo g]at c107;simp only[g]at c107;obtain⟨n8,g8⟩:=h8 g;have hse:sgE names gs=0∧qai names.length set=0:=by
  unfold qbJ at g;split at g
  ·rename_i h;exact⟨h,g⟩
  ·cases g
 have hin:=(qac hse.2).1;have hmi:=qf5 hse.1;have hml:=hz.gm;have hgl:=hz.g;have hall:qaf set<2^8:=Nat.lt_of_lt_of_le (qgd om hin) (Nat.pow_le_pow_right om n8);have hset:=qqP om hse.2;obtain⟨all,hA⟩: ∃all,all=qaf set:=⟨_,rfl⟩
 have hpin:=fun {c} hc {p}=>qsv (names:=names) (gs:=gs) (set:=set) (all:=all) hin om hA (c:=c) hc (p:=p)
 rw[←hA]at hall hset;simp only[←hA]at c107;have hLin:=fun {x}=> @qgP gs all x
 have hLl:(qbL gs all).length≤8:=by have:=qN (qhO gs all) gs.length;unfold qbL;omega
 have hbA:qBw gs all=bst gs all (qbL gs all) (2^(qbL gs all).length-1):=rfl;rw[←hA,hbA];have hbs:=qkz gs all (qbL gs all);obtain⟨L,hL⟩: ∃L,L=qbL gs all:=⟨_,rfl⟩
 simp only[←hL]at c107 hLin hpin;rw[←hL]at hLl;rw[←hL]at hbs ⊢;have hpw8:2^L.length≤2^8:=Nat.pow_le_pow_right om hLl;have es:qwD .i64 1 (L.length:Int)=((2^L.length:Nat):Int):=qvq om;have c108:=fun bits (hb:bits<2^L.length) h=>qEK gs L bits all h om (fun x hx=>hLin hx) om hb hmi hml om
 rw[←hset]at c108;have hN1:1≤2^L.length:=Nat.one_le_two_pow;obtain⟨M,hM⟩: ∃M,M=2^L.length:=⟨_,rfl⟩
 rw[←hM]at hpw8 es hN1 ⊢;simp only[←hM]at c108 hpin;have hpl: ∀c,(kr gs all L c).length≤200:=fun c=>by
  rw[qcp];have h1:=qN c.testBit 64;have h2:=qN (anN all (chN (usM gs L) c)).testBit 64;unfold qmR;omega
 have hbl: ∀c,(bst gs all L c).length≤200:=fun c=>by
  obtain⟨k,_,e⟩:=hbs c;rw[e];exact hpl k
 have z1: ∀g,valL g .len [ql L]= .int .i64 L.length:=fun _=>rfl
 have z2: ∀g,okL g .len [ql L]=True:=fun _=>eqt trivial
 have c108z:=fun h=>c108 0 om h
 simp only[show (((0:Nat):Int))=0 from rfl]at c108z;refine acO qrI ?_;simp (disch:=omega) only[qs2,go_sem]
 repeat' first
  |((first|refine cA (c107 _) ?_ ?_|refine cA (c108z _) ?_ ?_);exact flk;simp (disch:=omega) only[go_sem])
  |with_reducible apply aiA
 all_goals try exact clz
 refine qn (T:=fun b:Nat=>qI 84 [(0,strs names),(1,qu gs),(2,ql set),(8,ql L),(10,ql (bst gs all L (b-1))),(11,.int .i64 b)])
  (H:=fun _=>h++ [.emp 1,.emp 0,.emp 0,.emp 0,.emp 0,.emp 0])
  (inv:=fun b=>1≤b∧b≤M) (m:=fun b=>M-b) 1 ⟨nlr _,hN1⟩ (Wk.temps ?_) ?_
 ·(simp only[bst,go_sem,qj,qd,qa,qi];try (repeat' first|(with_reducible apply aiA)|(apply qh;omega)|(apply qg;rfl)|exact qk))
 rintro b ⟨i1,i2⟩ K hK;obtain⟨c,rfl⟩: ∃c,b=c+1:=⟨b-1,om⟩
 rw[Nat.add_sub_cancel]
 by_cases hi:c+1<M
 ·have k1:(((c+1:Nat):Int)<M)=True:=eqt om;have hst:bst gs all L (c+1)=if qjM (kr gs all L (c+1)) (bst gs all L c)=true then kr gs all L (c+1) else bst gs all L c:=rfl
  have c108c:=fun h=>c108 (c+1) hi h
  have c109:=fun h=>qDX (kr gs all L (c+1)) (bst gs all L c) h (Nat.le_trans (hpl _) om) (Nat.le_trans (hbl _) om)
  obtain⟨b,hb⟩: ∃b,b=c+1:=⟨_,rfl⟩
  simp only[←hb]at c108c c109 hst k1;rw[←hb];cases hbt:qjM (kr gs all L b) (bst gs all L c)with
  |true=>
   rw[hbt,ipo rfl]at hst;rw[hbt]at c109;simp (disch:=omega) only[z1,z2,es,k1,go_sem]
   repeat' first
    |((first|refine cA (c108c _) ?_ ?_|refine cA (c109 _) ?_ ?_);exact flk;simp (disch:=omega) only[go_sem])
    |with_reducible apply aiA
   all_goals try exact clz
   refine hK _ _ (b+1) ⟨om,om⟩ om ?_;rw[Nat.add_sub_cancel,hst];refine Wk.temps ?_
   (simp only[go_sem,qj,qd,qa,qi];try (repeat' first|(with_reducible apply aiA)|(apply qh;omega)|(apply qg;rfl)|exact qk))
  |false=>
   rw[hbt,ine (by simp)]at hst;rw[hbt]at c109;simp (disch:=omega) only[z1,z2,es,k1,go_sem]
   repeat' first
    |((first|refine cA (c108c _) ?_ ?_|refine cA (c109 _) ?_ ?_);exact flk;simp (disch:=omega) only[go_sem])
    |with_reducible apply aiA
   all_goals try exact clz
   refine hK _ _ (b+1) ⟨om,om⟩ om ?_;rw[Nat.add_sub_cancel,hst];refine Wk.temps ?_
   (simp only[go_sem,qj,qd,qa,qi];try (repeat' first|(with_reducible apply aiA)|(apply qh;omega)|(apply qg;rfl)|exact qk))
 ·obtain rfl:M=c+1:=by omega
  have k1:(((c+1:Nat):Int)<((c+1:Nat):Int))=False:=eqf om;rw[Nat.add_sub_cancel];obtain⟨kb,kb1,kb2⟩:=hbs c;have hBin: ∀p∈bst gs all L c,0≤p∧p<gs.length+names.length:=fun p hp=>by
   rw[kb2]at hp;exact hpin om hp
  have hBl:=hbl c;obtain⟨B,hB⟩: ∃B,B=bst gs all L c:=⟨_,rfl⟩
  rw[←hB]at hBin hBl ⊢;have zb1: ∀g,valL g .len [ql B]= .int .i64 B.length:=fun _=>rfl
  have zb2: ∀g,okL g .len [ql B]=True:=fun _=>eqt trivial
  simp (disch:=omega) only[z1,z2,es,k1,go_sem]
  repeat' first
   |with_reducible apply aiA
  all_goals try exact clz
  have e0:qS [AV.str []] 0=zY ((B.map (qaj names gs)).take 0):=rfl;rw[e0];refine qn (T:=fun s:Nat×Nat×AObj×AObj=>qI 84 [(0,strs names),(1,qu gs),(10,ql B),(13,.osl (h.length+1) s.2.1 1 0 s.1),(14,.int .i64 s.1)])
   (H:=fun s=>h++ [.emp 1,.mem s.2.1 9 (zY ((B.map (qaj names gs)).take s.1)),s.2.2.1,.emp 0,s.2.2.2,.emp 0])
   (inv:=fun s=>s.1≤B.length∧qC [s.2.2.1] 0=true∧qC [s.2.2.2] 0=true) (m:=fun s=>B.length-s.1) (0,1,.emp 0,.emp 0) ⟨nzl _,rfl,rfl⟩ (Wk.temps ?_) ?_
  ·(simp only[go_sem,qj,qd,qa,qi];try (repeat' first|(with_reducible apply aiA)|(apply qh;omega)|(apply qg;rfl)|exact qk))
  rintro⟨i,u,O15,O17⟩ ⟨i1,i2,i3⟩ K hK;simp only at i1 i2 i3 hK;have i2': ∀m,qC (O15::m) 0=true:=fun _=>i2
  have i3': ∀m,qC (O17::m) 0=true:=fun _=>i3
  have eCl:i≤B.length→(zY ((B.map (qaj names gs)).take i)).length=i:=fun hi=>by rw[jb,List.length_take,List.length_map];omega
  have zv: ∀X:List Int,ql X= .sl X.length fun i=> [.int .i64 (X.getD i 0)]:=fun _=>rfl
  by_cases hi:i<B.length
  ·have q1:((i:Int)<B.length)=True:=eqt om;have hm:B.getD i 0∈B:=by rw[gdqA,zp hi];exact List.getElem_mem hi
   obtain⟨p0,p1⟩:=hBin _ hm;have hst:(B.map (qaj names gs)).take (i+1)=(B.map (qaj names gs)).take i++ [qaj names gs (B.getD i 0)]:=by
    rw[←List.map_take,←List.map_take,zS hi,List.map_append];rfl
   have eTk:List.take i (zY ((B.map (qaj names gs)).take i))=zY ((B.map (qaj names gs)).take i):=ltl (by rw[eCl om];exact nlr _);have eC:=eCl om;have zg1: ∀g,valL g .len [qu gs]= .int .i64 gs.length:=fun _=>rfl
   have zg2: ∀g,okL g .len [qu gs]=True:=fun _=>eqt trivial
   obtain⟨y,hy⟩: ∃y:Nat,B.getD i 0=(y:Int):=⟨(B.getD i 0).toNat,om⟩
   rw[hy]at hst p1
   by_cases hg:y<gs.length
   ·have q2:((y:Int)<gs.length)=True:=eqt om;have q3:(0≤(y:Int))=True:=eqt om;have hsg:qaj names gs (y:Int)=(gs.getD y default).name:=by unfold qaj;rw[ipo om,itn]
    rw[hsg]at hst;simp (disch:=omega) only[zv,qu,grC,q1,q2,q3,hy,i2',Nat.mul_one,itn,go_sem]
    repeat' first
     |with_reducible apply aiA
    all_goals try exact clz
    have eA:zY ((B.map (qaj names gs)).take i)++ [AV.str (gs.getD y default).name]=zY ((B.map (qaj names gs)).take (i+1)):=by rw[hst,qaF];rfl
    try rw[eTk]
    rw[eA];refine hK _ _ (i+1,u+1,.mem (qr (some O15)+1) 9 [.str (gs.getD y default).name],O17) ⟨hi,rfl,i3⟩ (by simp only;omega) ?_;simp only[zv,qu,grC];refine Wk.temps ?_
    (simp only[go_sem,qj,qd,qa,qi];try (repeat' first|(with_reducible apply aiA)|(apply qh;omega)|(apply qg;rfl)|exact qk))
   ·have q2:((y:Int)<gs.length)=False:=eqf om;obtain⟨z,hz⟩: ∃z:Nat,(y:Int)-gs.length=(z:Int):=⟨y-gs.length,om⟩
    have q3:((z:Int)<names.length)=True:=eqt om;have q4:(0≤(z:Int))=True:=eqt om;have hsg:qaj names gs (y:Int)=names.getD z []:=by unfold qaj;rw[ine om,hz,itn]
    rw[hsg]at hst;simp (disch:=omega) only[zv,strs,zg1,zg2,q1,q2,q3,q4,hy,hz,i3',Nat.mul_one,itn,go_sem]
    repeat' first
     |with_reducible apply aiA
    all_goals try exact clz
    have eA:zY ((B.map (qaj names gs)).take i)++ [AV.str (names.getD z [])]=zY ((B.map (qaj names gs)).take (i+1)):=by rw[hst,qaF];rfl
    try rw[eTk]
    rw[eA];refine hK _ _ (i+1,u+1,O15,.mem (qr (some O17)+1) 9 [.str (names.getD z [])]) ⟨hi,i2,rfl⟩ (by simp only;omega) ?_;simp only[zv,strs];refine Wk.temps ?_
    (simp only[go_sem,qj,qd,qa,qi];try (repeat' first|(with_reducible apply aiA)|(apply qh;omega)|(apply qg;rfl)|exact qk))
  ·obtain rfl:i=B.length:=by omega
   have q1:((B.length:Int)<B.length)=False:=eqf om;have eAll:(B.map (qaj names gs)).take B.length=B.map (qaj names gs):=ltl (by simp);rw[eAll];have eC2:(zY (B.map (qaj names gs))).length=B.length:=by rw[jb,List.length_map]
   simp (disch:=omega) only[q1,zb1,zb2,go_sem]
   repeat' first
    |(apply qb;exact rvk;simp only[go_sem])
   refine qL ⟨?_,qk,trivial⟩;rw[ipo om];exact qel _ (fun _=>rfl) (by simp)
structure qjD (L:List Rd) (s:Nat):Prop where
 src: ∀r∈L,r.src.Pairwise (· < ·)∧ ∀x∈r.src,0≤x∧x<s
 ne: ∀i j,i<j→j<L.length→(L.getD i default).words≠(L.getD j default).words
theorem qbv(L:List Rd)(w:List Str):(∃i,i<L.length∧(L.getD i default).words=w∧qjB L w=i)∨((∀i,i<L.length→(L.getD i default).words≠w)∧qjB L w<0):=by
 unfold qjB;rcases zy (fun j=>decide (w=(L.getD j default).words)) L.length with⟨i,h1,h2,_,h4⟩|⟨h1,h2⟩
 ·exact .inl ⟨i,h1,(of_decide_eq_true h2).symm,h4⟩
 ·exact .inr ⟨fun i hi e=>of_decide_eq_false (h1 i hi) e.symm,om⟩
theorem jT{L:List Rd}{i j:Nat}{r:Rd}(hi:i<L.length):(L.set i r).getD j default=if j=i then r else L.getD j default:=by
 rw[gdqA,List.getElem?_set]
 by_cases e:i=j
 ·subst e;rw[ipo rfl,ipo hi,ipo rfl];rfl
 ·rw[ine e,ine (fun h=>e h.symm),gdqA]
theorem qot{L:List Rd}{w:List Str}{s:Nat}(h:qjD L s):qjD (qfC L w s) (s+1):=by
 have g: ∀i (hi:i<L.length),L.getD i default=L[i]:=fun i hi=>by rw[gdqA,zp hi];rfl
 rcases qbv L w with⟨i,h1,h2,h3⟩|⟨h1,h2⟩
 ·have e:qfC L w s=L.set i ⟨w,(L.getD i default).src++ [(s:Int)]⟩:=by
   unfold qfC;rw[h3,ine om,itn]
  rw[e];have hm:=h.src (L.getD i default) (by rw[g i h1];exact List.getElem_mem h1);refine⟨fun r hr=> ?_,fun a b hab hb=> ?_⟩
  ·rcases List.mem_or_eq_of_mem_set hr with hr|rfl
   ·obtain⟨a,b⟩:=h.src r hr;exact⟨a,fun x hx=>by have:=b x hx;omega⟩
   ·refine⟨List.pairwise_append.2 ⟨hm.1,List.pairwise_singleton _ _,fun a ha b hb=> ?_⟩,fun x hx=> ?_⟩
    ·rw[List.mem_singleton]at hb
     have:=hm.2 a ha
     omega
    ·rcases List.mem_append.1 hx with hx|hx
     ·have:=hm.2 x hx;omega
     ·rw[List.mem_singleton]at hx;omega
  ·rw[List.length_set]at hb;rw[jT h1,jT h1];have key: ∀j,j<L.length→j≠i→(L.getD j default).words≠w:=fun j hj hne e=>by
    rw[←h2]at e;rcases Nat.lt_or_gt_of_ne hne with hlt|hlt
    ·exact h.ne j i hlt h1 e
    ·exact h.ne i j hlt hj e.symm
   by_cases ea:a=i
   ·rw[ipo ea,ine om];exact fun e=>key b hb om e.symm
   ·rw[ine ea]
    by_cases eb:b=i
    ·rw[ipo eb];exact key a om ea
    ·rw[ine eb];exact h.ne a b hab hb
 ·have e:qfC L w s=L++ [⟨w,[(s:Int)]⟩]:=by
   unfold qfC;rw[ipo h2]
  rw[e];refine⟨fun r hr=> ?_,fun a b hab hb=> ?_⟩
  ·rcases List.mem_append.1 hr with hr|hr
   ·obtain⟨a,b⟩:=h.src r hr;exact⟨a,fun x hx=>by have:=b x hx;omega⟩
   ·rw[List.mem_singleton]at hr;subst hr;exact⟨List.pairwise_singleton _ _,fun x hx=>by rw[List.mem_singleton]at hx;omega⟩
  ·rw[lap,List.length_singleton]at hb;have ga: ∀j,j<L.length→(L++ [(⟨w,[(s:Int)]⟩:Rd)]).getD j default=L.getD j default:=fun j hj=>by
    rw[gdqA,List.getElem?_append_left hj,gdqA]
   rw[ga a om]
   by_cases eb:b<L.length
   ·rw[ga b eb];exact h.ne a b hab eb
   ·have:b=L.length:=by omega
    subst this;have gb:(L++ [(⟨w,[(s:Int)]⟩:Rd)]).getD L.length default=⟨w,[(s:Int)]⟩:=by
     rw[gdqA,List.getElem?_append_right (nlr _),Nat.sub_self];rfl
    rw[gb];exact h1 a om
theorem qee(x:Co)(f d:Nat): ∀s,qjD (qbW x f d s) s:=by
 intro s
 induction s with
 |zero=>exact⟨fun r hr=>absurd hr List.not_mem_nil,fun i j _ h=>absurd h (nnz j)⟩
 |succ s ih=>exact qot ih
theorem qqA(x:Co)(f t:Nat):qjD (qiJ x f t) x.sig.length:=qee x f (t-f) x.sig.length
theorem qAn{n:Nat}{S:List Int}(h1:S.Pairwise (· < ·))(h2: ∀x∈S,0≤x∧x<n):qai n S=0:=by
 have g: ∀i (hi:i<S.length),S.getD i 0=S[i]:=fun i hi=>by rw[gdqA,zp hi];rfl
 unfold qai;refine qz fun i hi=> ?_
 have hm:=h2 (S.getD i 0) (by rw[g i hi];exact List.getElem_mem hi);unfold qbC;rw[ine om,ine];rintro⟨h0,h3⟩
 have:=List.pairwise_iff_getElem.1 h1 (i-1) i om hi om
 rw[g i hi,g (i-1) om]at h3;omega
def qqs(cur:Str):Str→List Str
 | []=>if cur= [] then [] else [cur]
 |c::r=>if c=32 then (if cur= [] then [] else [cur])++qqs [] r else qqs (cur++ [c]) r
def qdV(cls s:Str):Bool:=decide (cls∈qqs [] s)
def lyE(lay:List Str):Int:=if lay.length=0 then 5 else if 16<lay.length then 4 else 0
def lyN(lay:List Str)(cls:Str):Int:=if j8 (fun i=>qdV cls (lay.getD i [])) lay.length 0<0 then (lay.length:Int)-1 else j8 (fun i=>qdV cls (lay.getD i [])) lay.length 0
def lyR(lay:List Str)(cls:Str):Int:=if lyE lay=0 then lyN lay cls else 0
theorem qAy: ∀(s cur:Str),[]∉qqs cur s:=by
 intro s
 induction s with
 |nil=>
  intro cur;unfold qqs;split
  ·exact List.not_mem_nil
  ·rename_i h;rw[List.mem_singleton];exact fun e=>h e.symm
 |cons c r ih=>
  intro cur;unfold qqs;split
  ·rw[List.mem_append,not_or];refine⟨?_,ih []⟩;split
   ·exact List.not_mem_nil
   ·rename_i h;rw[List.mem_singleton];exact fun e=>h e.symm
  ·exact ih _
structure Ap where
 x:Co
 l:List Un
 cls:List (List Str)
 b:List Wd
 gs:List Gr
 lay:List Str
 pos:List Bool
def enE(a:Ap):Int:=
 if pvE a.x a.l a.b≠0 then pvE a.x a.l a.b else if sgE a.x.sig a.gs≠0 then 1 else if lyE a.lay≠0 then lyE a.lay else if a.pos.length≠a.lay.length∨a.cls.length≠a.l.length then 9 else
  if zd (fun k=> !decide ((a.cls.getD k []).length=(a.l.getD k default).rds.length)) a.l.length=true then 9 else 0
def owG(b:List Wd)(k:Int):Nat→List Str
 |0=> []
 |i+1=>owG b k i++if (b.getD i default).unit=k then [(b.getD i default).text] else []
def qwA(a:Ap)(k:Nat):List Str:=owG a.b k a.b.length
def vrG(a:Ap)(k y:Nat):Nat→List Va
 |0=> []
 |r+1=>vrG a k y r++if lyN a.lay ((a.cls.getD k []).getD r [])=y∧((a.l.getD k default).rds.getD r default).words≠qwA a k then
   [⟨((a.l.getD k default).rds.getD r default).words,shR a.x.sig a.gs ((a.l.getD k default).rds.getD r default).src⟩] else []
def vrK(a:Ap)(k y:Nat):List Va:=vrG a k y (a.l.getD k default).rds.length
def baK(a:Ap)(k:Nat):Int:=j8 (fun r=>decide (((a.l.getD k default).rds.getD r default).words=qwA a k)) (a.l.getD k default).rds.length 0
def suK(a:Ap)(k y:Nat):List Str:=if a.pos.getD y false=true∧0≤baK a k then shR a.x.sig a.gs ((a.l.getD k default).rds.getD (baK a k).toNat default).src else []
def frK(a:Ap)(k:Nat):Nat:=cP (bfU a.b (a.l.getD k default).frm) a.b.length
def toK(a:Ap)(k:Nat):Nat:=frK a k+cP (inU a.b k) a.b.length
def enK(a:Ap)(k y:Nat):En:=⟨y,frK a k,toK a k,a.pos.getD y false,suK a k y,vrK a k y⟩
def enY(a:Ap)(k:Nat):Nat→List En
 |0=> []
 |y+1=>enY a k y++if vrK a k y= [] then [] else [enK a k y]
def enU(a:Ap):Nat→List En
 |0=> []
 |k+1=>enU a k++enY a k a.lay.length
def enR(a:Ap):List En:=if enE a=0 then enU a a.l.length else []
structure qsI (L:List Rd) (s:Nat) (W:Nat→List Str):Prop where
 has: ∀i,i<s→ ∃j,j<L.length∧(i:Int)∈(L.getD j default).src
 wd: ∀j,j<L.length→ ∀x∈(L.getD j default).src,(L.getD j default).words=W x.toNat
 nn: ∀j,j<L.length→(L.getD j default).src≠ []
theorem qa9{L:List Rd}{r:Rd}{j:Nat}:(L++ [r]).getD j default=if j<L.length then L.getD j default else if j=L.length then r else default:=by
 rw[gdqA];split
 ·rename_i h;rw[List.getElem?_append_left h,gdqA]
 ·rename_i h;rw[List.getElem?_append_right om];split
  ·rename_i e;subst e;rw[Nat.sub_self];rfl
  ·rw[List.getElem?_eq_none (by rw[List.length_singleton];omega)];rfl
theorem qos{L:List Rd}{s:Nat}{W:Nat→List Str}(h:qsI L s W):qsI (qfC L (W s) s) (s+1) W:=by
 rcases qbv L (W s)with⟨k,h1,h2,h3⟩|⟨h1,h2⟩
 ·have e:qfC L (W s) s=L.set k ⟨W s,(L.getD k default).src++ [(s:Int)]⟩:=by
   unfold qfC;rw[h3,ine om,itn]
  rw[e];refine⟨fun i hi=> ?_,fun j hj x hx=> ?_,fun j hj=> ?_⟩
  ·by_cases ei:i=s
   ·subst ei;exact⟨k,by rw[List.length_set];exact h1,by rw[jT h1,ipo rfl];exact List.mem_append_right _ (List.mem_singleton.2 rfl)⟩
   ·obtain⟨j,hj,hx⟩:=h.has i om;refine⟨j,by rw[List.length_set];exact hj,?_⟩;rw[jT h1];split
    ·rename_i e';subst e';exact List.mem_append_left _ hx
    ·exact hx
  ·rw[List.length_set]at hj;rw[jT h1]at hx ⊢;split at hx
   ·rename_i e';rw[ipo e'];rcases List.mem_append.1 hx with hx|hx
    ·rw[←h2];exact h.wd k h1 x hx
    ·rw[List.mem_singleton]at hx;subst hx;rfl
   ·rename_i e';rw[ine e'];exact h.wd j hj x hx
  ·rw[List.length_set]at hj;rw[jT h1];split
   ·exact fun e=>absurd (List.append_eq_nil_iff.1 e).2 (by simp)
   ·exact h.nn j hj
 ·have e:qfC L (W s) s=L++ [⟨W s,[(s:Int)]⟩]:=by
   unfold qfC;rw[ipo h2]
  rw[e];refine⟨fun i hi=> ?_,fun j hj x hx=> ?_,fun j hj=> ?_⟩
  ·by_cases ei:i=s
   ·subst ei;exact⟨L.length,by rw[lap,List.length_singleton];omega,by rw[qa9,ine om,ipo rfl];exact List.mem_singleton.2 rfl⟩
   ·obtain⟨j,hj,hx⟩:=h.has i om;exact⟨j,by rw[lap,List.length_singleton];omega,by rw[qa9,ipo hj];exact hx⟩
  ·rw[lap,List.length_singleton]at hj;rw[qa9]at hx ⊢;split at hx
   ·rename_i hl;rw[ipo hl];exact h.wd j hl x hx
   ·rename_i hl;rw[ine hl,ipo om];rw[ipo om]at hx;rw[List.mem_singleton]at hx;subst hx;rfl
  ·rw[lap,List.length_singleton]at hj;rw[qa9];split
   ·rename_i hl;exact h.nn j hl
   ·rw[ipo om];simp
theorem qhv(x:Co)(f d:Nat): ∀s,qsI (qbW x f d s) s fun i=>rdG x i f d:=by
 intro s
 induction s with
 |zero=>exact⟨fun i h=>absurd h (nnz i),fun j h=>absurd h (nnz j),fun j h=>absurd h (nnz j)⟩
 |succ s ih=>exact qos ih
theorem qlr{a:Ap}(h:qwH a.x a.l a.b){k:Nat}(hk:k<a.l.length):frK a k≤toK a k∧toK a k≤a.b.length∧(∀i,i<a.b.length→(bfU a.b (a.l.getD k default).frm i=true↔i<frK a k))∧(∀i,i<a.b.length→(inU a.b k i=true↔frK a k≤i∧i<toK a k)):=by
 obtain⟨F,G,h1,h2,h3,h4,h5,h6⟩:=qhF h hk;have e1:frK a k=F:=h5;have e2:toK a k=G:=by unfold toK;rw[e1,h6];omega
 rw[e1,e2];exact⟨h1,h2,h3,h4⟩
theorem quX(b:List Wd)(k:Int): ∀n,(owG b k n).length=cP (inU b k) n:=by
 intro n
 induction n with
 |zero=>rfl
 |succ n ih=>
  unfold owG cP inU;rw[lap,ih]
  by_cases e:(b.getD n default).unit=k
  ·rw[ipo e,ipo (by rw[dqt e])];rfl
  ·rw[ine e,ine (by rw[dqf e];simp)];rfl
def qgG(b:List Wd):List Str:=b.map (·.text)
theorem quY{a:Ap}(h:qwH a.x a.l a.b){k:Nat}(hk:k<a.l.length):qwA a k=qaQ (qgG a.b) (frK a k) (toK a k):=by
 obtain⟨h1,h2,_,h4⟩:=qlr h hk;have key: ∀n,n≤a.b.length→owG a.b k n=qaQ (qgG a.b) (min (frK a k) n) (min (toK a k) n):=by
  intro n
  induction n with
  |zero=>intro _;simp[owG,qaQ]
  |succ n ih=>
   intro hn;unfold owG;rw[ih om];have hq:=h4 n om;unfold inU at hq;rw[decide_eq_true_iff]at hq
   by_cases e:(a.b.getD n default).unit=(k:Int)
   ·have hf:=hq.1 e;rw[ipo e,Nat.min_eq_left (show frK a k≤n by omega),Nat.min_eq_left (show frK a k≤n+1 by omega),Nat.min_eq_right (show n≤toK a k by omega),Nat.min_eq_right (show n+1≤toK a k by omega)];unfold qaQ qgG;rw[show n+1-frK a k=n-frK a k+1 by omega,List.take_add_one,List.getElem?_drop,show frK a k+(n-frK a k)=n by omega,List.getElem?_map,zp (show n<a.b.length by omega),gdqA,zp (show n<a.b.length by omega)];rfl
   ·rw[ine e,lan];have hf: ¬(frK a k≤n∧n<toK a k):=fun hc=>e (hq.2 hc)
    by_cases h5:toK a k≤n
    ·rw[Nat.min_eq_left (show frK a k≤n by omega),Nat.min_eq_left (show frK a k≤n+1 by omega),Nat.min_eq_left h5,Nat.min_eq_left (show toK a k≤n+1 by omega)]
    ·rw[Nat.min_eq_right (show n≤frK a k by omega),Nat.min_eq_right (show n≤toK a k by omega),Nat.min_eq_right (show n+1≤frK a k by omega),Nat.min_eq_right (show n+1≤toK a k by omega)];simp[qaQ]
 have:=key a.b.length (nlr _)
 rw[Nat.min_eq_left h2,Nat.min_eq_left (Nat.le_trans h1 h2)]at this;exact this
theorem qcf(names:List Str)(gs:List Gr):jC names gs []= []:=by
 unfold jC;split
 ·unfold qT
  have: ∀n,(qez names gs [] ([]:List Str).length).testBit n=false:=fun n=>by
   show (0:Nat).testBit n=false;exact Nat.zero_testBit n
  rw[show (qez names gs [] ([]:List Str).length).testBit=fun _=>false from funext this];simp
 ·rfl
end RC
end
