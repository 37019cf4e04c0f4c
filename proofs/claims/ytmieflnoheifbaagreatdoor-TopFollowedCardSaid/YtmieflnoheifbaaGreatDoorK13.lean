import Derived.Test.YtmieflnoheifbaaGreatDoorK12
import Derived.Test.YtmieflnoheifbaaGreatDoorK10
import Derived.Test.YtmieflnoheifbaaGreatDoorK3
import Derived.Test.YtmieflnoheifbaaGreatDoorK5
import Derived.Test.YtmieflnoheifbaaGreatDoorK8
import Derived.Test.YtmieflnoheifbaaGreatDoorProg
import Derived.Test.YtmieflnoheifbaaGreatDoorK11
import Derived.Test.YtmieflnoheifbaaGreatDoorK9
set_option linter.all false
set_option maxHeartbeats 256000000
set_option maxRecDepth 100000
section
open Go Go.Proofs AF HY LN
namespace RC
theorem il2{f g:Nat->JT}(h0:f 0=g 0)(h1:f 1=g 1):ILe (.sl 2 f) (.sl 2 g):=ILe.sl_eq λi hi=>by
 match i,hi with
 |0,_=>exact h0
 |1,_=>exact h1
 |n+2,hi=>exact absurd hi oma
theorem vl2{f g:Nat->JT}(h0:ay (f 0) (g 0))(h1:ay (f 1) (g 1)):VLe (.sl 2 f) (.sl 2 g):=VLe.sl λi hi=>by
 match i,hi with
 |0,_=>exact h0
 |1,_=>exact h1
 |n+2,hi=>exact absurd hi oma
theorem ie{a b:AV}(h:a=b):ILe a b:=by rw[h];exact ILe.refl _
section
variable {q : En -> Bool} {L : List En} {J : Nat}
end
section
variable {k v w : Nat} {h l : JN} {ty : TypeId} {cs : JT}
end
theorem M1(b:List Wd)(h:JN)(hn:b.length<=1000000):ACalls Tryz.prog 19 [jl b] h (strs (oG b)) h:=by
 refine acO Oj ?_;simp (disch:=omega) only[Ri,jl,go_sem];refine qr (T:=λs:Nat×Nat×AObj×AObj=>qY 19 [(6,jl b),(7,.int .i64 b.length),(8,.int .i64 s.1),(3,.osl (h.length+1) s.2.1 1 0 s.1)])
  (H:=λs=>h++ [.emp 1,ze s.2.1 9 (jO (oG (b.take s.1))),s.2.2.1,s.2.2.2,.emp 0])
  (inv:=λs=>s.1<=b.length∧qG [s.2.2.1] 0=true∧qG [s.2.2.2] 0=true) (m:=λs=>b.length-s.1) (0,1,.emp 0,.emp 0) ⟨nzl _,rfl,rfl⟩ (Wk.temps ?_) ?_
 ·(simp only[jl,go_sem,qg,qc,qb,qf];try exact tT)
 rintro⟨i,v,O1,O2⟩ ⟨i1,i2,i3⟩ K hK;simp only at i1 i2 i3 hK;have i2': ∀m,qG (O1::m) 0=true:=λ_=>i2
 have i3': ∀m,qG (O2::m) 0=true:=λ_=>i3
 have eL:(oG (b.take i)).length=i:=by unfold oG;rw[List.length_map,List.length_take];omega
 by_cases hi:i<b.length
 ·have k1:((i:Int)<b.length)=True:=eqt oma;have hS:oG (b.take (i+1))=oG (b.take i)++ [(b.getD i default).text]:=by
   unfold oG;rw[List.take_add_one,zg hi,gdqA,zg hi,List.map_append];rfl
  obtain⟨L,hL⟩:=Qt (oG (b.take i))
  rw[<-hL]at hS eL ⊢;obtain⟨w,hw⟩:=Qt (b.getD i default)
  have ew:=hw.symm;rw[ew]at hS;have eC:=kW L;have eTk:List.take i (jO L)=jO L:=ltl oma;simp (disch:=omega) only[jl,wdC,k1,ew,i2',i3',eC,eL,eTk,Nat.mul_one,go_sem]
  repeat' first|with_reducible apply aiA|exact clz|fail
  have eA:jO L++ [AV.str w.text]=jO (L++ [w.text]):=by simp[jO]
  have eD:(AV.str w.text::List.drop 1 (zQ [AV.str []] 1))= [AV.str w.text]:=rfl;rw[eA,eD];refine hK _ _ (i+1,v+1,.mem (qo (some O1)+1) 133 (wdC w),.mem (qo (some O2)+1) 9 [.str w.text]) ⟨hi,rfl,rfl⟩ (by simp only;omega) ?_;simp only[hS,wdC];refine Wk.temps ?_
  (simp only[jl,wdC,go_sem,qg,qc,qb,qf];try exact tT)
 have k1:((i:Int)<b.length)=False:=eqf oma;obtain rfl:i=b.length:=by omega
 rw[List.take_length]at eL ⊢;simp (disch:=omega) only[k1,go_sem]
 repeat' first|(apply qa;exact rvk;simp only[go_sem])
 exact xn (λ_=>rfl) eL.symm
def jv(L:List Wd):JT:=L.flatMap wdC
theorem iL(e:Wd):(wdC e).length=7:=rfl
theorem my(L:List Wd):(jv L).length=L.length*7:=by
 unfold jv
 induction L with
 |nil=>rfl
 |cons a L ih=>rw[List.flatMap_cons,lap,ih,lco,iL];omega
theorem WG(A B:List Wd):jv (A++B)=jv A++jv B:=by simp[jv]
theorem WH(a:Wd):jv [a]=wdC a:=by simp[jv]
theorem ZB(L:List Wd): ∀i,(jv L).drop (i*7)=jv (L.drop i):=by
 induction L with
 |nil=>intro i;simp[jv]
 |cons a L ih=>
  intro i;cases i with
  |zero=>simp
  |succ i=>
   have e:jv (a::L)=wdC a++jv L:=rfl;rw[List.drop_succ_cons,e,List.drop_append,iL,show (i+1)*7-7=i*7 by omega,ih];rw[List.drop_eq_nil_of_le (by rw[iL];omega)];rfl
theorem mw{L:List Wd}{i:Nat}(hi:i<L.length):((jv L).drop (i*7)).take 7=wdC (L.getD i default):=by
 rw[ZB,List.drop_eq_getElem_cons hi,gdqA,zg hi];rfl
theorem yM(L:List Wd)(n:Nat): ∀c∈jv L,qR n c=true:=by
 intro c hc;unfold jv at hc;obtain⟨x,_,hx⟩:=List.mem_flatMap.1 hc;simp only[wdC,List.mem_cons,List.not_mem_nil,or_false]at hx;rcases hx with rfl|rfl|rfl|rfl|rfl|rfl|rfl<;>rfl
section
variable {q : Wd -> Bool} {L : List Wd} {J : Nat}
end
end RC
end
section
open Go Go.Proofs AF
def y7:List Nat:= []
def EE:C:=
 (pk [O1 2 (.box 0 45) 0,O1 3 (.box 1 3) 1,MC 4 .nilfn] (p9 [O2 5 (.mkfn (Fn.func 293) 0) 2 3,MV 4 5]))
theorem GV:qK Tryz.prog 227 6 2 [RV.tmp 4] EE:=fi Tryz.f227 [2,3] y7 []
def EY:C:=
 (pk [LD 6 1,O1 7 .len 6,oF 8 0] (C.block 0 (pk [BI 9 .lss 8 7] ((p8 9 0).seq ((C.block 1 (pk [MV 10 8,O2 11 (.idxA 7) 6 8,O1 12 (.load (some 7)) 11,⟨some 5,none,.alloc 0 133
 [.str [],i6 0,i6 0,i6 0,.bool false,.bool false,.str []],[]⟩,MV 4 10,ST 7 5 12] (pk [oE 13 2 5,LD 14 13,LD 15 2,BI 16 .eql 14 15,MV 17 16,MG 18 17 true 0,MG 19 17 true 4,P1 20
 17 true (.load (some 7)) 5,PN 21 17 true .callv [.t 18,.t 19,.t 20],P1 22 17 true (.un UnOp.not) 21,PF 23 17 22] (p7 23 C.ret)))).seq (rv [oT 24 .add 8 1,MV 8 24])))).loop))
theorem Hl:qK Tryz.prog 293 25 1 [] EY:=fi Tryz.f293 [5] y7 []
def EF:C:=
 (pk [O1 2 (.box 0 152) 0,MC 3 (.bool false)] (p9 [oE 4 0 2,LD 5 4,LD 6 1,O2 7 (.call 18 true) 5 6,MV 3 7]))
theorem GX:qK Tryz.prog 228 8 1 [RV.tmp 3] EF:=fi Tryz.f228 [2] y7 []
def Ew:C:=
 (pk [O1 4 (.box 0 26) 0,ON 8 (.nilo 1 1 3) [],oF 9 0] ((pk [O1 11 (.load (some 4)) 4,MV 12 1,MV 13 2,ON 14 (.call 20 true) [.t 11,.t 12,.t 13],MV 10 14] (pk [MV 15 10,oT 16 .neq
 15 0] (p7 16 (p9 [MV 17 10,ON 8 (.nilo 1 1 3) [],MV 9 17])))).seq ((pk [MV 18 3,oT 19 .lss 18 0,MV 20 19,pc 21 20 3,pc 22 20 2,oX 23 20 .len 22,pb 24 20 (.bin .geq) 21 23,PT 25
 20 24] (p7 25 (p9 [ON 8 (.nilo 1 1 3) [],oF 9 2]))).seq (p9 [O1 26 (.load (some 4)) 4,MV 27 1,MV 28 2,MV 29 3,ON 30 (.call 79 true) [.t 26,.t 27,.t 28,.t 29],MV 8 30,oF 9 0]))))
theorem JZ:qK Tryz.prog 21 31 2 [RV.tmp 8,RV.tmp 9] Ew:=fi Tryz.f21 [4,8] y7 []
def EH:C:=
 (pk [O1 4 (.box 0 26) 0,oF 8 0,oF 9 0,oF 10 0] ((pk [O1 18 (.load (some 4)) 4,MV 19 1,MV 20 2,ON 21 (.call 20 true) [.t 18,.t 19,.t 20],MV 11 21] (pk [MV 22 11,oT 23 .neq 22 0]
 (p7 23 (p9 [MV 24 11,oF 8 0,oF 9 0,MV 10 24])))).seq ((pk [MV 25 3,oT 26 .lss 25 0,MV 27 26,pc 28 27 3,tv 29 27 1 4,tE 30 27 29,oX 31 27 .len 30,pb 32 27 (.bin .geq) 28 31,PT
 33 27 32] (p7 33 (p9 [oF 8 0,oF 9 0,oF 10 2]))).seq (pk [oF 12 0] ((pk [MV 34 1,O1 35 .len 34,oF 36 0] (C.block 0 (pk [BI 37 .lss 36 35] ((p8 37 0).seq ((C.block 1 (pk [MV 38
 36,MV 13 38] (pk [MV 40 1,MV 41 13,O2 42 (.idxA 3) 40 41,O1 43 (.load (some 3)) 42,MV 44 3,O2 45 (.call 81 true) 43 44,MV 39 45,O1 46 (.ext 0) 39,O1 47 (.ext 1) 39,MV 14 46,MV
 15 47] (pk [O1 49 (.load (some 4)) 4,MV 50 1,MV 51 2,MV 52 13,ON 53 (.call 39 true) [.t 49,.t 50,.t 51,.t 52],MV 48 53,O1 54 (.ext 0) 48,O1 55 (.ext 1) 48,MV 16 54,MV 17 55]
 (pk [MV 56 1,MV 57 13,O2 58 (.idxA 3) 56 57,oE 59 2 58,LD 60 59,MV 61 14,O2 62 (.idxA 2) 60 61,oE 63 0 62,LD 64 63,MV 65 16,O2 66 (.call 18 true) 64 65] (p7 66 (sm 67
 12))))))).seq (rv [oT 69 .add 36 1,MV 36 69])))).loop)).seq (p9 [MV 70 12,MV 71 1,O1 72 .len 71,MV 8 70,MV 9 72,oF 10 0]))))))
theorem J0:qK Tryz.prog 23 73 1 [RV.tmp 8,RV.tmp 9,RV.tmp 10] EH:=fi Tryz.f23 [4] y7 []
end
section
open Go Go.Proofs AF HY LN
namespace RC
theorem XC(b:List Wd)(k:Int): ∀n,(owG b k n).length<=n:=by
 intro n
 induction n with
 |zero=>exact nlr _
 |succ n ih=>
  unfold owG;rw[lap];split
  ·simp only[lco,lnl];omega
  ·simp only[lnl];omega
end RC
end
section
open Go Go.Proofs AF
def Aq:List Nat:= []
def Eg:C:=
 (pk [oF 6 0] (pk [⟨some 7,none,.alloc 0 22 [.nl],[]⟩] (((C.wk.seq (rv [MV 10 1,MV 11 2,O2 12 (.call 227 true) 10 11])).seq (C.block 0 (C.range (.t 12) [13,14] (rv [⟨some
 9,none,.alloc 1 133 [.str [],i6 0,i6 0,i6 0,.bool false,.bool false,.str []],[]⟩,ST 7 9 14]) (C.block 1 (rv [LD 15 7,oE 16 0 9,LD 17 16,⟨some 18,none,.bslc 2 1 1 9 [.str []]
 [(0,1)],[.t 17]⟩,O2 19 (.app 3 1 9 16) 15 18,ST 1 7 19]))))).seq ((C.wk.seq (rv [MV 20 0,MV 21 2,O2 22 (.idxA 3) 20 21,oE 23 2 22,LD 24 23,O1 25 (.mkfn (Fn.func 228) 0) 7,O2 26
 (.call 91 true) 24 25,MV 6 26])).seq C.ret))))
theorem Gv:qK Tryz.prog 155 27 4 [RV.tmp 6] Eg:=fi Tryz.f155 [7,9,18,19] Aq [2,5]
end
section
open Go Go.Proofs AF
def Ar:List Nat:= [156]
def FB:C:=
 (pk [O1 4 (.box 0 26) 0,ON 8 (.nilo 1 1 3) []] (pk [MV 13 2,MV 14 3,O2 15 (.idxA 7) 13 14,oE 16 2 15,LD 17 16,MV 9 17] ((pk [MV 18 9,oT 19 .lss 18 0] (p7 19 (pk [ON 10 (.nilo 2
 1 3) []] ((pk [oE 20 1 4,LD 21 20,O1 22 .len 21,oF 23 0] (C.block 0 (pk [BI 24 .lss 23 22] ((p8 24 0).seq ((C.block 1 (pk [MV 25 23,MV 11 25] (rv [MV 26 10,MV 27 11,⟨some
 28,none,.bslc 3 1 1 3 [i6 0] [(0,1)],[.t 27]⟩,O2 29 (.app 4 1 3 8) 26 28,MV 10 29]))).seq (rv [oT 30 .add 23 1,MV 23 30])))).loop)).seq (p9 [MV 31 10,MV 8 31]))))).seq ((pk [MV
 32 1,MV 33 2,MV 34 9,ON 35 (.call 155 true) [.t 32,.t 33,.t 34],MV 12 35] (pk [MV 36 12,oT 37 .geq 36 0] (p7 37 (p9 [MV 38 1,MV 39 9,O2 40 (.idxA 3) 38 39,oE 41 2 40,LD 42
 41,MV 43 12,O2 44 (.idxA 2) 42 43,oE 45 1 44,LD 46 45,O1 47 (.call 156 false) 46,MV 8 47])))).seq (p9 [ON 8 (.nilo 1 1 3) []])))))
theorem J4:qK Tryz.prog 79 48 5 [RV.tmp 8] FB:=fi Tryz.f79 [4,8,10,28,29] Ar []
end
section
open Go Go.Proofs AF HY LN
namespace RC
def wdX(b:List Wd)(k:Int)(n:Nat):List JT:=flG (inU b k) (λi=> [.int .i64 (i:Int),.agg (wdC (b.getD i default))]) n
theorem Uo(b:List Wd)(k:Int)(h:JN):ACalls Tryz.prog 227 [jl b,.int .i64 k] h (.fn (.func 293) [] [.ip [jl b],.ip [.int .i64 k]]) h:=by
 refine acO GV ?_;simp (disch:=omega) only[EE,jl,go_sem]
 repeat' first|exact tF|fail
theorem itW(b:List Wd)(k:Int)(hn:b.length<=1000000000):pd Tryz.prog 293 [.ip [jl b],.ip [.int .i64 k]] (wdX b k b.length):=by
 intro h ts LI S E hS hE body start hts;refine acQ Hl ?_;simp (disch:=omega) only[EY,jl,go_sem]
 repeat' first|with_reducible apply aiA|exact clz|fail
 obtain⟨p,hp⟩:=Qt (inU b k)
 obtain⟨g,hg⟩: ∃g:Nat->JT,g=λi=> [.int .i64 (i:Int),.agg (wdC (b.getD i default))]:=⟨_,rfl⟩
 have hX:wdX b k b.length=flG p g b.length:=by rw[hp,hg];rfl
 refine qr (T:=λi:Nat×JN×AObj=>qY 25 [(0,.yld h.length),(2,.ip [.int .i64 k]),(6,jl b),(7,.int .i64 b.length),(8,.int .i64 i.1)])
  (H:=λi=>i.2.1++ [.lp .ready ts LI]++ [i.2.2])
  (inv:=λi=>i.1<=b.length∧S (flG p g i.1).length i.2.1∧qG [i.2.2] 0=true) (m:=λi=>b.length-i.1) (0,h,.emp 0) ⟨nzl _,start,rfl⟩ (Wk.temps ?_) ?_
 ·(simp only[jl,go_sem,qg,qc,qb,qf];try exact tT)
 rintro⟨i,hh,O⟩ ⟨i1,i2,i3⟩ K hK;simp only at i1 i2 i3 hK;obtain⟨hlen,hlow⟩:=hS _ _ i2;have hb:(h++ [AObj.lp LS.ready ts LI]).length=(hh++ [AObj.lp LS.ready ts LI]).length:=by simp[hlen]
 rw[hb];have i3': ∀m,qG (O::m) 0=true:=λ_=>i3
 by_cases hi:i<b.length
 ·have q0:((i:Int)<b.length)=True:=eqt oma;have hst:flG p g (i+1)=flG p g i++if p i=true then [g i] else []:=rfl
  have hpi:p i=decide ((b.getD i default).unit=k):=by rw[hp];rfl
  have hgi:g i= [.int .i64 (i:Int),.agg (wdC (b.getD i default))]:=by rw[hg]
  have hat:=λhpp=>F3 (p:=p) (g:=g) (i:=i) hpp hi
  obtain⟨w,hw⟩:=Qt (b.getD i default)
  have ew:=hw.symm;rw[ew]at hpi hgi
  by_cases gz:w.unit=k
  ·have q1:(w.unit=k)=True:=eqt gz;rw[dqt gz]at hpi;rw[hpi,ipo rfl]at hst;obtain⟨hdl,hxx⟩:=hat hpi;rw[hgi]at hxx;have hdl':(flG p g i).length<(wdX b k b.length).length:=by rw[hX];exact hdl
   have hxx':(wdX b k b.length)[(flG p g i).length]= [.int .i64 (i:Int),.agg (wdC w)]:=by simp only[hX];exact hxx
   have hb':=λO'=>body (flG p g i).length hh [O'] hdl' i2
   rw[hxx']at hb';have hlst:(flG p g (i+1)).length=(flG p g i).length+1:=by rw[hst];simp
   simp (disch:=omega) only[jl,i3',q0,ew,wdC,q1,go_sem]
   repeat' first|with_reducible apply aiA|exact clz|fail
   ·exact⟨.ready,ts,LI,by rw[List.append_assoc];exact ko hlen⟩
   ·rw[List.append_assoc];refine jQ.mono ?_ (hb' _);rintro v h' ⟨hh',⟨rfl,hn,rfl⟩|⟨st,rfl,hs',rfl⟩⟩
    ·simp (disch:=omega) only[go_sem];refine hK _ _ (i+1,hh',.mem (qo (some O)+1) 133 (wdC w)) ⟨hi,by simp only;rw[hlst];exact hn,rfl⟩ (by simp only;omega) ?_;simp only[List.append_assoc];refine Wk.temps ?_
     (simp only[jl,wdC,go_sem,qg,qc,qb,qf];try exact tT)
    ·simp (disch:=omega) only[go_sem];obtain⟨r1,r2⟩:=(hE _ _ hs').ret (L:=LI) st hts;have eO: ∀O',hh'++AObj.lp st ts LI:: [O']=(hh'++ [AObj.lp st ts LI])++ [O']:=λ_=>by simp
     rw[eO];exact kX trivial r1 r2 ⟨_,.inr ⟨st,hs',rfl⟩⟩ (qi)
  ·have q1:(w.unit=k)=False:=eqf gz;rw[dqf gz]at hpi;rw[hpi,ine (by simp),lan]at hst;simp (disch:=omega) only[jl,i3',q0,ew,wdC,q1,go_sem]
   repeat' first|with_reducible apply aiA|exact clz|fail
   refine hK _ _ (i+1,hh,.mem (qo (some O)+1) 133 (wdC w)) ⟨hi,by simp only;rw[hst];exact i2,rfl⟩ (by simp only;omega) ?_;simp only;refine Wk.temps ?_
   (simp only[jl,wdC,go_sem,qg,qc,qb,qf];try exact tT)
 ·have e:i=b.length:=by omega
  subst e;have q0:((b.length:Int)<b.length)=False:=eqf oma;simp (disch:=omega) only[jl,i3',q0,go_sem];obtain⟨r1,r2⟩:=(hS _ _ i2).ret (L:=LI) .ready hts;exact zH trivial r1 r2 ⟨hh,.inl ⟨by rw[hX];exact i2,rfl⟩⟩ (qi)
theorem CZ(b:List Wd)(k:Int): ∀n,n<=b.length->(wdX b k n).length=(owG b k n).length∧ ∀i (hi:i<(wdX b k n).length),∃(j:Nat) (w:Wd),(wdX b k n)[i]= [.int .i64 (j:Int),.agg (wdC w)]∧(owG b k n)[i]? =some w.text∧j<n∧w=b.getD j default:=by
 intro n hn;have hs:owG b k n=flG (inU b k) (λi=>(b.getD i default).text) n:=by
  clear hn
  induction n with
  |zero=>rfl
  |succ n ih=>
   unfold owG flG;rw[ih];congr 1;unfold inU
   by_cases g:(b.getD n default).unit=k
   ·rw[ipo g,ipo (dqt g)]
   ·rw[ine g,ine (by simpa using g)]
 rw[hs];refine⟨sN _ _ _ _,λi hi=> ?_⟩;obtain⟨r,r1,r2,r3,r4⟩:=F4 (p:=inU b k) (g:=λi=>([.int .i64 (i:Int),.agg (wdC (b.getD i default))]:JT)) (k:=λi=>(b.getD i default).text) (n:=n) (i:=i) hi;exact⟨r,b.getD r default,r3,r4,r1,rfl⟩
def brK(l:List Un)(b:List Wd)(k:Nat):Int:=w8 (λr=>decide (((l.getD k default).rds.getD r default).words=owG b (k:Int) b.length)) (l.getD k default).rds.length 0
theorem TC(r:Rd)(own:List Str)(h:JN)(h1:r.words.length<=1000000000)(h2:own.length<=1000000000):ACalls Tryz.prog 228 [.agg (rdC r),.ip [strs own]] h (.bool (decide (r.words=own))) h:=by
 have c1:=λh=>Nb r.words own h h1 h2
 unfold strs at c1;refine acO GX ?_;simp (disch:=omega) only[EF,rdC,strs,go_sem]
 repeat' first|(refine cA (c1 _) flk ?_;simp (disch:=omega) only[go_sem])|exact tF|with_reducible apply aiA|exact clz|fail
theorem OQ(L:List Rd)(own:List Str)(k v:Nat)(h:JN)(hk:qu k h=some (.mem v 22 [strs own]))(hl:L.length<=1000000000)(hw: ∀j,(L.getD j default).words.length<=1000000000)(ho:own.length<=1000000000):
  ACalls Tryz.prog 91 [jM L,.fn (.func 228) [] [.op k v 0]] h (.int .i64 (w8 (λr=>decide ((L.getD r default).words=own)) L.length 0)) h:=by
 have hc:=qJ hk;unfold jM;refine y4 Ac L.length (λj=>rdC (L.getD j default)) (λj=> .agg (rdC (L.getD j default))) _ [] [.op k v 0] _ h (λi _=>⟨rfl,by simp[jK,rdC],rfl,rfl,rfl⟩) (λi _=> ?_) oma;refine ACalls.borrow ?_ rfl;have e:([AV.agg (rdC (L.getD i default))]++ [AV.op k v 0]).map (rei (λ_=>true) h 8)= [.agg (rdC (L.getD i default)),.ip [strs own]]:=by
  simp only[lca,lna,List.map_cons,List.map_nil,rei_op,if_true,hc,ipOf_some,List.drop_zero,rei_agg];rfl
 rw[lna,e];exact TC _ own _ (hw i) ho
theorem AM(w:Wd)(n v:Nat)(ty:TypeId):lowO n (.mem v ty (wdC w)):=by
 intro c hc;simp only[wdC,List.mem_cons,List.not_mem_nil,or_false]at hc;rcases hc with rfl|rfl|rfl|rfl|rfl|rfl|rfl<;>rfl
theorem KL(s:Str)(n v:Nat)(ty:TypeId):lowO n (.mem v ty [.str s]):=by
 intro c hc;rw[List.mem_singleton]at hc;rw[hc];rfl
theorem IS(l:List Un)(b:List Wd)(k:Nat)(h:JN)(hu:aM l)(hb:b.length<=1000000)(hk:k<l.length):ACalls Tryz.prog 155 [qZ l,jl b,.int .i64 (k:Int)] h (.int .i64 (brK l b k)) h:=by
 have c108:=λh=>Uo b (k:Int) h
 have hol:=XC b (k:Int) b.length;obtain⟨hxl,hxg⟩:=CZ b (k:Int) b.length (nlr _);have hbr:brK l b k=w8 (λr=>decide (((l.getD k default).rds.getD r default).words=owG b (k:Int) b.length)) (l.getD k default).rds.length 0:=rfl;obtain⟨W,hW⟩:=Qt (owG b (k:Int) b.length)
 rw[<-hW]at hxl hol;simp only[<-hW]at hxg hbr;have zu:qZ l= .sl l.length λi=>unC (l.getD i default):=rfl
 refine acO Gv ?_;simp (disch:=omega) only[Eg,go_sem];refine⟨_,_,Wk.ownNil (j:=h.length) (i:=0) (k:=h.length+3) (v:=1) (ty:=22) (cs:= [.nl]) (ve:=0) (sz:=1) ?m1 rfl ?m2,?_⟩
 case m1=>simp only[go_sem]
 case m2=>simp only[go_sem]
 simp (disch:=omega) only[List.set_cons_zero,go_sem]
 repeat' first|(refine cA (c108 _) flk ?_;simp (disch:=omega) only[go_sem])
 refine zn (xs:=wdX b (k:Int) b.length) (itW b (k:Int) oma) ?e0
  (S:=λi hh=> ∃w O1 O2,qG [O1] 0=true∧qG [O2] 0=true∧(∀n,lowO n O1)∧(∀n,lowO n O2)∧hh=h++ [.mem 1 22 [.osl (h.length+3) w 1 0 i],O1,O2,ze w 9 (jO (W.take i))])
  (E:=λ_ _=>False) ?e1 (λ_ _ h=>h.elim) ?e2 ?e3 ?e4 ?e5 (λ_ _ h=>h.elim)
 case e0=>
  intro x hx;obtain⟨i,hi,e⟩:=List.getElem_of_mem hx;obtain⟨j,w,e2,_⟩:=hxg i hi;rw[<-e,e2];rfl
 case e1=>
  rintro i hh ⟨w,O1,O2,_,_,l1,l2,rfl⟩;refine LowI.app rfl (λo ho=> ?_);simp only[List.mem_cons,List.not_mem_nil,or_false]at ho;rcases ho with rfl|rfl|rfl|rfl
  ·right;constructor<;>(intro c hc;simp only[List.mem_cons,List.not_mem_nil,or_false]at hc;rcases hc with rfl;simp[qR])
  ·right;exact⟨l1 _,l1 _⟩
  ·right;exact⟨l2 _,l2 _⟩
  ·right;exact⟨jd (mc _ _),jd (mc _ _)⟩
 case e2=>exact⟨0,.emp 0,.emp 0,rfl,rfl,λ_=>trivial,λ_=>trivial,rfl⟩
 case e3=>
  have lu: ∀n,qR n (qZ l)=true:=λ_=>rfl
  have lw: ∀n,qR n (jl b)=true:=λ_=>rfl
  simp[qR,qR.lowVs,lu,lw]
  try omega
 case e4=>
  rintro i hh tl LI TS hi ⟨w,O1,O2,p1,p2,l1,l2,rfl⟩ hlen K4 K5 hK4 hN hR' hX;obtain⟨j,wd,e2,e3,_,_⟩:=hxg i hi;rw[e2];rw[hxl]at hi;have p1': ∀m,qG (O1::m) 0=true:=λ_=>p1
  have p2': ∀m,qG (O2::m) 0=true:=λ_=>p2
  have hTk:W.take (i+1)=W.take i++ [wd.text]:=by rw[List.take_add_one,e3];rfl
  have hTl:(W.take i).length=i:=by rw[List.length_take];omega
  have eVl:=kW (W.take i);rw[hTl]at eVl;have eVk:List.take i (jO (W.take i))=jO (W.take i):=ltl oma;have eVn:jO (W.take (i+1))=jO (W.take i)++ [.str wd.text]:=by rw[hTk,mb];rfl
  simp only[ke];simp (disch:=omega) only[List.append_assoc,wdC,p1',go_sem];refine hK4 _ _ (h++ [.mem 1 22 [.osl (h.length+3) w 1 0 i],.mem (qo (some O1)+1) 133 (wdC wd),O2,ze w 9 (jO (W.take i))]) (by simp[wdC]) (by simp) ?_;simp (disch:=omega) only[List.append_assoc,wdC,p2',eVl,eVk,Nat.mul_one,go_sem]
  repeat' first|with_reducible apply aiA|exact clz|fail
  refine hN _ _ (h++ [.mem 1 22 [.osl (h.length+3) (w+1) 1 0 (i+1)],.mem (qo (some O1)+1) 133 (wdC wd),.mem (qo (some O2)+1) 9 [.str wd.text],ze (w+1) 9 (jO (W.take (i+1)))]) (by rw[eVn,List.append_assoc];rfl) (by simp)
   ⟨w+1,_,_,rfl,rfl,λn=>AM _ _ _ _,λn=>KL _ _ _ _,rfl⟩
 case e5=>
  rintro hh ⟨w,O1,O2,p1,p2,l1,l2,rfl⟩;rw[hxl,List.take_length];simp (disch:=omega) only[go_sem];refine⟨_,_,Wk.fzCell (j:=h.length) (k:=h.length+3) (i:=0) (v:=1) (ty:=22) (cs:= [.osl (h.length+3) w 1 0 W.length]) (c:= .osl (h.length+3) w 1 0 W.length) (c':=strs W) ?n1 rfl ?n2 oma ?n3,?_⟩
  case n1=>simp only[go_sem]
  case n2=>simp only[go_sem]
  case n3=>
   rw[Kq,getO_app];exact xn (λ_=>rfl) rfl
  have c127:=λH hk=>OQ (l.getD k default).rds W h.length 1 H hk (hu.rd k) (hu.wd k) oma
  rw[<-hbr]at c127;have k1:((k:Int)<l.length)=True:=eqt oma;have k0:(0<=(k:Int))=True:=eqt oma;obtain⟨u,hux⟩:=Qt (l.getD k default)
  have eu:=hux.symm;simp only[eu]at c127;simp (disch:=omega) only[List.set_cons_zero,zu,unC,k0,k1,eu,go_sem]
  repeat' first|with_reducible apply aiA|exact clz|fail
  refine cA (c127 _ ?ka) (by exact flk) ?_
  case ka=>simp only[go_sem]
  simp (disch:=omega) only[go_sem]
  repeat' first|exact tF|fail
theorem RI(s:Str)(h:JN)(hs:s.length<=1000000000):ACalls Tryz.prog 214 [.str s] h (.bool (t7 s)) h:=by
 have c1:=λh=>t53 s h hs
 unfold t7
 by_cases g:s= []
 ·subst g;rw[dqt rfl,Bool.true_or];refine acO W9 ?_;simp (disch:=omega) only[Yi,go_sem]
  repeat' first|(refine qj ( .bool false) ?_;simp (disch:=omega) only[go_sem])|exact tS|fail
 ·have k1:(s= [])=False:=eqf g;rw[dqf g,Bool.false_or];refine acO W9 ?_;simp (disch:=omega) only[Yi,k1,go_sem]
  repeat' first|(refine cG (λe=>c1 _) flk ?_;simp (disch:=omega) only[go_sem])|exact tS|fail
theorem Az(c:UInt8):wi c=(decide (kind c=1)||(decide (kind c=2)||(decide (kind c=3)||decide (kind c=4)))):=by
 unfold wi;cases decide (kind c=1)<;>cases decide (kind c=2)<;>cases decide (kind c=3)<;>rfl
theorem Ug(c:UInt8)(h:JN):ACalls Tryz.prog 213 [.int .u8 (c.toNat:Int)] h (.bool (wi c)) h:=by
 have c5:=λh=>am c h
 rw[Az];obtain⟨k,hk⟩:=Qt (kind c)
 rw[<-hk]at c5 ⊢
 by_cases g1:k=1
 ·have q1:(k=1)=True:=eqt g1;rw[dqt g1,Bool.true_or];refine acO lm ?_;simp (disch:=omega) only[rF,go_sem]
  repeat' first|(refine cA (c5 _) flk ?_;simp (disch:=omega) only[q1,go_sem])|exact tS|fail
 have q1:(k=1)=False:=eqf g1;rw[dqf g1,Bool.false_or]
 by_cases g2:k=2
 ·have q2:(k=2)=True:=eqt g2;rw[dqt g2,Bool.true_or];refine acO lm ?_;simp (disch:=omega) only[rF,go_sem]
  repeat' first|(refine cA (c5 _) flk ?_;simp (disch:=omega) only[q1,q2,go_sem])|exact tS|fail
 have q2:(k=2)=False:=eqf g2;rw[dqf g2,Bool.false_or]
 by_cases g3:k=3
 ·have q3:(k=3)=True:=eqt g3;rw[dqt g3,Bool.true_or];refine acO lm ?_;simp (disch:=omega) only[rF,go_sem]
  repeat' first|(refine cA (c5 _) flk ?_;simp (disch:=omega) only[q1,q2,q3,go_sem])|exact tS|fail
 have q3:(k=3)=False:=eqf g3;rw[dqf g3,Bool.false_or];refine acO lm ?_;simp (disch:=omega) only[rF,go_sem]
 repeat' first|(refine cA (c5 _) flk ?_;simp (disch:=omega) only[q1,q2,q3,go_sem])|exact tS|fail
theorem N2: ∀f:Nat,f<32->decide ((f:Int)/2%2=1)=f.testBit 1:=by decide+kernel
theorem N3: ∀f:Nat,f<32->decide ((f:Int)/8%2=1)=f.testBit 3:=by decide+kernel
theorem tkR(t:Tk)(h:JN)(hz:WM t)(hp:kM SG h):ACalls Tryz.prog 138 [.agg (tkC t)] h (.int .i64 (tkE t)) h:=by
 obtain⟨R,hR⟩:=Qt (tkE t)
 rw[<-hR];unfold tkE at hR
 by_cases g1:t.flags<0
 ·have k1:(t.flags<0)=True:=eqt g1;rw[ipo (.inl g1)]at hR;rw[hR];refine acO zY ?_;simp (disch:=omega) only[jR,tkC,go_sem]
  repeat' first|exact tF|(with_reducible first|intro _|apply aiA)|exact clz|fail
 have k1:(t.flags<0)=False:=eqf g1
 by_cases g2:31<t.flags
 ·have k2:((31:Int)<t.flags)=True:=eqt g2;rw[ipo (.inr g2)]at hR;rw[hR];refine acO zY ?_;simp (disch:=omega) only[jR,tkC,go_sem]
  repeat' first|exact tF|(with_reducible first|intro _|apply aiA)|exact clz|fail
 have k2:((31:Int)<t.flags)=False:=eqf g2;rw[ine oma]at hR;obtain⟨f,hf⟩: ∃f:Nat,t.flags=(f:Int):=⟨t.flags.toNat,oma⟩
 have hf2:f<32:=by omega
 have eg:np t.flags=f.testBit 1:=by unfold np;rw[hf,itn]
 have ek:mkB t.flags=f.testBit 3:=by unfold mkB;rw[hf,itn]
 have dA:=λh=>RE t.text t.norm t.page t.line t.flags 2 t.name h oma oma (by decide)
 have dB:=λh=>RE t.text t.norm t.page t.line t.flags 8 t.name h oma oma (by decide)
 have cP:=λl=>RI t.page (h++l) hz.pg
 have cM:=λl=>RI t.name (h++l) hz.na
 have hG:=λl=>S0 t.text (h++l) hz.tx (hp.app l)
 have cW:=λl=>t93 t.text (h++l) hz.tx
 have cK:=λh=>am (ch t.text 0) h
 have e0:(t.text[0]?).getD 0=ch t.text 0:=by simp[ch,gdqA]
 unfold txB at hR;rw[eg,ek]at hR;rw[hf]at dA dB k1 k2;rw[N2 f hf2]at dA;rw[N3 f hf2]at dB;obtain⟨bp,hbp⟩: ∃b,b=t7 t.page:=⟨_,rfl⟩
 obtain⟨bm,hbm⟩: ∃b,b=t7 t.name:=⟨_,rfl⟩
 obtain⟨bg,hbg⟩: ∃b,b=dX t.text:=⟨_,rfl⟩
 obtain⟨bw,hbw⟩: ∃b,b=kp t.text:=⟨_,rfl⟩
 rw[<-hbp,<-hbm,<-hbg,<-hbw]at hR;simp only[<-hbp]at cP;simp only[<-hbm]at cM;simp only[<-hbg]at hG;simp only[<-hbw]at cW;have eM:Dl t.text=(decide (t.text.length=1)&&(decide (kind (ch t.text 0)=5)||decide (kind (ch t.text 0)=4))):=rfl;have eN:Dm t.norm=(decide (t.norm≠ [])&&(decide (t.norm.length<=64)&&(List.range t.norm.length).all λi=>wi (ch t.norm i))):=rfl;rw[eM,eN]at hR;obtain⟨kd,hkd⟩:=Qt (kind (ch t.text 0))
 rw[<-hkd]at hR cK;have q2:(t.text.length=1)=True->((0:Int)<t.text.length)=True:=λe=>eqt (by have:=of_eq_true e;omega)
 cases ga:f.testBit 1<;>cases gb:f.testBit 3<;>rw[ga]at hR dA<;>rw[gb]at hR dB<;>simp only[Bool.false_eq_true,if_true,if_false,and_true,and_false,and_self]at hR
 ·cases bw with
  |false=>
   rw[Bool.false_and,ipo rfl]at hR;rw[hR];refine acO zY ?_;simp (disch:=omega) only[jR,tkC,hf,k1,k2,go_sem]
   repeat' first|((first|refine cA (dA _) ?_ ?_|refine cA (dB _) ?_ ?_|refine cA (cW _) ?_ ?_);exact flk;simp (disch:=omega) only[go_sem])|exact tF|fail
  |true=>
  rw[Bool.true_and]at hR
  by_cases g5:t.norm= []
  ·have k5:(t.norm= [])=True:=eqt g5;rw[dqf (λhc=>hc g5),Bool.false_and,ipo rfl]at hR;rw[hR];refine acO zY ?_;simp (disch:=omega) only[jR,tkC,hf,k1,k2,go_sem]
   repeat' first|((first|refine cA (dA _) ?_ ?_|refine cA (dB _) ?_ ?_|refine cA (cW _) ?_ ?_);exact flk;simp (disch:=omega) only[k5,go_sem])|exact tF|fail
  have k5:(t.norm= [])=False:=eqf g5;rw[dqt g5,Bool.true_and]at hR
  by_cases g6:t.norm.length<=64
  case neg=>
   have k6:((64:Int)<t.norm.length)=True:=eqt oma;rw[dqf g6,Bool.false_and,ipo rfl]at hR;rw[hR];refine acO zY ?_;simp (disch:=omega) only[jR,tkC,hf,k1,k2,go_sem]
   repeat' first|((first|refine cA (dA _) ?_ ?_|refine cA (dB _) ?_ ?_|refine cA (cW _) ?_ ?_);exact flk;simp (disch:=omega) only[k5,k6,go_sem])|exact tF|fail
  have k6:((64:Int)<t.norm.length)=False:=eqf oma;rw[dqt g6,Bool.true_and]at hR;refine acO zY ?_;simp (disch:=omega) only[jR,tkC,hf,k1,k2,go_sem]
  repeat' first|((first|refine cA (dA _) ?_ ?_|refine cA (dB _) ?_ ?_|refine cA (cW _) ?_ ?_);exact flk;simp (disch:=omega) only[k5,k6,go_sem])
  refine qr (T:=λi:Nat=>qY 105 [(1,.op h.length 1 0),(5,.int .i64 i)]) (H:=λ_=>h++ [.mem 1 119 [.str t.text,.str t.norm,.str t.page,.int .i64 t.line,.int .i64 (f:Int),.str t.name]]) (inv:=λi=>i<=t.norm.length∧ ∀j,j<i->wi (ch t.norm j)=true) (m:=λi=>t.norm.length-i) 0 ⟨nzl _,λj hj=>absurd hj (nnz j)⟩ (Wk.temps ?_) ?_
  ·(simp only[go_sem,qg,qc,qb,qf];try exact tT)
  rintro i ⟨i1,i2⟩ K hK
  by_cases hi:i<t.norm.length
  ·have r1:((i:Int)<t.norm.length)=True:=eqt oma;have r0:(0<=(i:Int))=True:=eqt oma;have ei:(t.norm[i]?).getD 0=ch t.norm i:=by unfold ch;exact (gdqA).symm
   have cV:=λh=>Ug (ch t.norm i) h
   cases gi:wi (ch t.norm i)with
   |false=>
    rw[gi]at cV;have hall:((List.range t.norm.length).all λi=>wi (ch t.norm i))=false:=by
     rw[List.all_eq_false];exact⟨i,by simpa using hi,by rw[gi];simp⟩
    rw[hall,ipo rfl]at hR;rw[hR];simp (disch:=omega) only[r0,r1,ei,go_sem]
    repeat' first|(refine cA (cV _) flk ?_;simp (disch:=omega) only[go_sem])|exact tF|fail
   |true=>
    rw[gi]at cV;simp (disch:=omega) only[r0,r1,ei,go_sem]
    repeat' first|(refine cA (cV _) flk ?_;simp (disch:=omega) only[go_sem])
    refine hK _ _ (i+1) ⟨hi,λj hj=> ?_⟩ oma (Wk.temps ?_)
    ·by_cases e:j=i
     ·subst e;exact gi
     ·exact i2 j oma
    ·(simp only[go_sem,qg,qc,qb,qf];try exact tT)
  have r1:((i:Int)<t.norm.length)=False:=eqf oma;have hall:((List.range t.norm.length).all λi=>wi (ch t.norm i))=true:=by
   rw[List.all_eq_true];exact λj hj=>i2 j (by have:=List.mem_range.1 hj;omega)
  rw[hall,ine (by simp)]at hR;clear hK
  by_cases g4:t.line<0
  ·have k4:(t.line<0)=True:=eqt g4;rw[ipo g4]at hR;rw[hR];simp (disch:=omega) only[r1,k4,go_sem]
   repeat' first|exact tF|fail
  have k4:(t.line<0)=False:=eqf g4;rw[ine g4]at hR;cases bp with
  |false=>
   rw[ipo (.inl rfl)]at hR;rw[hR];simp (disch:=omega) only[r1,k4,go_sem]
   repeat' first|(refine qj ( .bool false) ?_;simp (disch:=omega) only[go_sem])|(refine cA (cP _) flk ?_;simp (disch:=omega) only[go_sem])|exact tF|fail
  |true=>
  cases bm with
  |false=>
   rw[ipo (.inr rfl)]at hR;rw[hR];simp (disch:=omega) only[r1,k4,go_sem]
   repeat' first|((first|refine cA (cP _) ?_ ?_|refine cG (λe=>cM _) ?_ ?_);exact flk;simp (disch:=omega) only[go_sem])|exact tF|with_reducible apply aiA|exact clz|fail
  |true=>
  rw[ine (by simp)]at hR;rw[hR];simp (disch:=omega) only[r1,k4,go_sem]
  repeat' first|((first|refine cA (cP _) ?_ ?_|refine cG (λe=>cM _) ?_ ?_);exact flk;simp (disch:=omega) only[go_sem])|exact tF|with_reducible apply aiA|exact clz|fail
 ·by_cases g5:t.text.length=1
  case neg=>
   have k5:((t.text.length:Int)=1)=False:=eqf oma;rw[dqf g5,Bool.false_and,Bool.false_and,ipo rfl]at hR;rw[hR];refine acO zY ?_;simp (disch:=omega) only[jR,tkC,hf,k1,k2,go_sem]
   repeat' first|(refine qj ( .int .i64 0) ?_;simp (disch:=omega) only[go_sem])|((first|refine cA (dA _) ?_ ?_|refine cA (dB _) ?_ ?_);exact flk;simp (disch:=omega) only[k5,go_sem])|exact tF|(with_reducible first|intro _|apply aiA)|exact clz|fail
  have k5:((t.text.length:Int)=1)=True:=eqt oma;have k6:((0:Int)<t.text.length)=True:=eqt oma;rw[dqt g5,Bool.true_and]at hR
  by_cases g50:kd=5
  ·have k50:(kd=5)=True:=eqt g50;rw[dqt g50,Bool.true_or,Bool.true_and]at hR
   by_cases g7:t.norm=t.text
   case neg=>
    have k7:(t.norm=t.text)=False:=eqf g7;rw[dqf g7,ipo rfl]at hR;rw[hR];refine acO zY ?_;simp (disch:=omega) only[jR,tkC,hf,k1,k2,false_imp_iff,true_imp_iff,go_sem]
    repeat' first|(refine qj ( .int .i64 0) ?_;simp (disch:=omega) only[false_and,false_imp_iff,true_imp_iff,k7,go_sem])|((first|refine cA (dA _) ?_ ?_|refine cA (dB _) ?_ ?_|refine cG (λe=>cK _) ?_ ?_);exact flk;simp (disch:=omega) only[k5,k6,e0,Int.toNat_zero,k50,false_and,false_imp_iff,true_imp_iff,go_sem])|exact tF|(with_reducible first|intro _|apply aiA)|exact clz|fail
   have k7:(t.norm=t.text)=True:=eqt g7;rw[dqt g7,ine (by simp)]at hR
   by_cases g4:t.line<0
   ·have k4:(t.line<0)=True:=eqt g4;rw[ipo g4]at hR;rw[hR];refine acO zY ?_;simp (disch:=omega) only[jR,tkC,hf,k1,k2,false_imp_iff,true_imp_iff,go_sem]
    repeat' first|(refine qj ( .int .i64 0) ?_;simp (disch:=omega) only[false_and,false_imp_iff,true_imp_iff,k7,k4,go_sem])|((first|refine cA (dA _) ?_ ?_|refine cA (dB _) ?_ ?_|refine cG (λe=>cK _) ?_ ?_);exact flk;simp (disch:=omega) only[k5,k6,e0,Int.toNat_zero,k50,false_and,false_imp_iff,true_imp_iff,go_sem])|exact tF|with_reducible apply aiA|exact clz|fail
   have k4:(t.line<0)=False:=eqf g4;rw[ine g4]at hR;cases bp with
   |false=>
    rw[ipo (.inl rfl)]at hR;rw[hR];refine acO zY ?_;simp (disch:=omega) only[jR,tkC,hf,k1,k2,false_imp_iff,true_imp_iff,go_sem]
    repeat' first|(refine qj ( .int .i64 0) ?_;simp (disch:=omega) only[false_and,false_imp_iff,true_imp_iff,k7,k4,go_sem])|((first|refine cA (dA _) ?_ ?_|refine cA (dB _) ?_ ?_|refine cG (λe=>cK _) ?_ ?_|refine cA (cP _) ?_ ?_);exact flk;simp (disch:=omega) only[k5,k6,e0,Int.toNat_zero,k50,false_and,false_imp_iff,true_imp_iff,go_sem])|exact tF|with_reducible apply aiA|exact clz|fail
   |true=>
   cases bm with
   |false=>
    rw[ipo (.inr rfl)]at hR;rw[hR];refine acO zY ?_;simp (disch:=omega) only[jR,tkC,hf,k1,k2,false_imp_iff,true_imp_iff,go_sem]
    repeat' first|(refine qj ( .int .i64 0) ?_;simp (disch:=omega) only[false_and,false_imp_iff,true_imp_iff,k7,k4,go_sem])|((first|refine cA (dA _) ?_ ?_|refine cA (dB _) ?_ ?_|refine cG (λe=>cK _) ?_ ?_|refine cA (cP _) ?_ ?_|refine cG (λe=>cM _) ?_ ?_);exact flk;simp (disch:=omega) only[k5,k6,e0,Int.toNat_zero,k50,false_and,false_imp_iff,true_imp_iff,go_sem])|exact tF|with_reducible apply aiA|exact clz|fail
   |true=>
   rw[ine (by simp)]at hR;rw[hR];refine acO zY ?_;simp (disch:=omega) only[jR,tkC,hf,k1,k2,false_imp_iff,true_imp_iff,go_sem]
   repeat' first|(refine qj ( .int .i64 0) ?_;simp (disch:=omega) only[false_and,false_imp_iff,true_imp_iff,k7,k4,go_sem])|((first|refine cA (dA _) ?_ ?_|refine cA (dB _) ?_ ?_|refine cG (λe=>cK _) ?_ ?_|refine cA (cP _) ?_ ?_|refine cG (λe=>cM _) ?_ ?_);exact flk;simp (disch:=omega) only[k5,k6,e0,Int.toNat_zero,k50,false_and,false_imp_iff,true_imp_iff,go_sem])|exact tF|with_reducible apply aiA|exact clz|fail
  have k50:(kd=5)=False:=eqf g50;rw[dqf g50,Bool.false_or]at hR
  by_cases g40:kd=4
  ·have k40:(kd=4)=True:=eqt g40;rw[dqt g40,Bool.true_and]at hR
   by_cases g7:t.norm=t.text
   case neg=>
    have k7:(t.norm=t.text)=False:=eqf g7;rw[dqf g7,ipo rfl]at hR;rw[hR];refine acO zY ?_;simp (disch:=omega) only[jR,tkC,hf,k1,k2,go_sem]
    repeat' first|((first|refine cA (dA _) ?_ ?_|refine cA (dB _) ?_ ?_|refine cG (λe=>cK _) ?_ ?_);exact flk;simp (disch:=omega) only[k5,k6,e0,Int.toNat_zero,k50,k40,k7,go_sem])|exact tF|with_reducible apply aiA|exact clz|fail
   have k7:(t.norm=t.text)=True:=eqt g7;rw[dqt g7,ine (by simp)]at hR
   by_cases g4:t.line<0
   ·have k4:(t.line<0)=True:=eqt g4;rw[ipo g4]at hR;rw[hR];refine acO zY ?_;simp (disch:=omega) only[jR,tkC,hf,k1,k2,go_sem]
    repeat' first|((first|refine cA (dA _) ?_ ?_|refine cA (dB _) ?_ ?_|refine cG (λe=>cK _) ?_ ?_);exact flk;simp (disch:=omega) only[k5,k6,e0,Int.toNat_zero,k50,k40,k7,k4,go_sem])|exact tF|with_reducible apply aiA|exact clz|fail
   have k4:(t.line<0)=False:=eqf g4;rw[ine g4]at hR;cases bp with
   |false=>
    rw[ipo (.inl rfl)]at hR;rw[hR];refine acO zY ?_;simp (disch:=omega) only[jR,tkC,hf,k1,k2,go_sem]
    repeat' first|(refine qj ( .bool false) ?_;simp (disch:=omega) only[go_sem])|((first|refine cA (dA _) ?_ ?_|refine cA (dB _) ?_ ?_|refine cG (λe=>cK _) ?_ ?_|refine cA (cP _) ?_ ?_);exact flk;simp (disch:=omega) only[k5,k6,e0,Int.toNat_zero,k50,k40,k7,k4,go_sem])|exact tF|with_reducible apply aiA|exact clz|fail
   |true=>
   cases bm with
   |false=>
    rw[ipo (.inr rfl)]at hR;rw[hR];refine acO zY ?_;simp (disch:=omega) only[jR,tkC,hf,k1,k2,go_sem]
    repeat' first|((first|refine cA (dA _) ?_ ?_|refine cA (dB _) ?_ ?_|refine cG (λe=>cK _) ?_ ?_|refine cA (cP _) ?_ ?_|refine cG (λe=>cM _) ?_ ?_);exact flk;simp (disch:=omega) only[k5,k6,e0,Int.toNat_zero,k50,k40,k7,k4,go_sem])|exact tF|with_reducible apply aiA|exact clz|fail
   |true=>
   rw[ine (by simp)]at hR;rw[hR];refine acO zY ?_;simp (disch:=omega) only[jR,tkC,hf,k1,k2,go_sem]
   repeat' first|((first|refine cA (dA _) ?_ ?_|refine cA (dB _) ?_ ?_|refine cG (λe=>cK _) ?_ ?_|refine cA (cP _) ?_ ?_|refine cG (λe=>cM _) ?_ ?_);exact flk;simp (disch:=omega) only[k5,k6,e0,Int.toNat_zero,k50,k40,k7,k4,go_sem])|exact tF|with_reducible apply aiA|exact clz|fail
  have k40:(kd=4)=False:=eqf g40;rw[dqf g40,Bool.false_and,ipo rfl]at hR;rw[hR];refine acO zY ?_;simp (disch:=omega) only[jR,tkC,hf,k1,k2,go_sem]
  repeat' first|((first|refine cA (dA _) ?_ ?_|refine cA (dB _) ?_ ?_|refine cG (λe=>cK _) ?_ ?_);exact flk;simp (disch:=omega) only[k5,k6,e0,Int.toNat_zero,k50,k40,go_sem])|exact tF|with_reducible apply aiA|exact clz|fail
 ·cases bg with
  |false=>
   rw[Bool.false_and,ipo rfl]at hR;rw[hR];refine acO zY ?_;simp (disch:=omega) only[jR,tkC,hf,k1,k2,go_sem]
   repeat' first|((first|refine cA (dA _) ?_ ?_|refine cA (dB _) ?_ ?_|refine cA (hG _) ?_ ?_);exact flk;simp (disch:=omega) only[go_sem])|exact tF|fail
  |true=>
  rw[Bool.true_and]at hR
  by_cases g7:t.norm=t.text
  case neg=>
   have k7:(t.norm=t.text)=False:=eqf g7;rw[dqf g7,ipo rfl]at hR;rw[hR];refine acO zY ?_;simp (disch:=omega) only[jR,tkC,hf,k1,k2,go_sem]
   repeat' first|((first|refine cA (dA _) ?_ ?_|refine cA (dB _) ?_ ?_|refine cA (hG _) ?_ ?_);exact flk;simp (disch:=omega) only[k7,go_sem])|exact tF|fail
  have k7:(t.norm=t.text)=True:=eqt g7;rw[dqt g7,ine (by simp)]at hR
  by_cases g4:t.line<0
  ·have k4:(t.line<0)=True:=eqt g4;rw[ipo g4]at hR;rw[hR];refine acO zY ?_;simp (disch:=omega) only[jR,tkC,hf,k1,k2,go_sem]
   repeat' first|((first|refine cA (dA _) ?_ ?_|refine cA (dB _) ?_ ?_|refine cA (hG _) ?_ ?_);exact flk;simp (disch:=omega) only[k7,k4,go_sem])|exact tF|fail
  have k4:(t.line<0)=False:=eqf g4;rw[ine g4]at hR;cases bp with
  |false=>
   rw[ipo (.inl rfl)]at hR;rw[hR];refine acO zY ?_;simp (disch:=omega) only[jR,tkC,hf,k1,k2,go_sem]
   repeat' first|(refine qj ( .bool false) ?_;simp (disch:=omega) only[go_sem])|((first|refine cA (dA _) ?_ ?_|refine cA (dB _) ?_ ?_|refine cA (hG _) ?_ ?_|refine cA (cP _) ?_ ?_);exact flk;simp (disch:=omega) only[k7,k4,go_sem])|exact tF|fail
  |true=>
  cases bm with
  |false=>
   rw[ipo (.inr rfl)]at hR;rw[hR];refine acO zY ?_;simp (disch:=omega) only[jR,tkC,hf,k1,k2,go_sem]
   repeat' first|((first|refine cA (dA _) ?_ ?_|refine cA (dB _) ?_ ?_|refine cA (hG _) ?_ ?_|refine cA (cP _) ?_ ?_|refine cG (λe=>cM _) ?_ ?_);exact flk;simp (disch:=omega) only[k7,k4,go_sem])|exact tF|with_reducible apply aiA|exact clz|fail
  |true=>
  rw[ine (by simp)]at hR;rw[hR];refine acO zY ?_;simp (disch:=omega) only[jR,tkC,hf,k1,k2,go_sem]
  repeat' first|((first|refine cA (dA _) ?_ ?_|refine cA (dB _) ?_ ?_|refine cA (hG _) ?_ ?_|refine cA (cP _) ?_ ?_|refine cG (λe=>cM _) ?_ ?_);exact flk;simp (disch:=omega) only[k7,k4,go_sem])|exact tF|with_reducible apply aiA|exact clz|fail
 ·rw[hR];refine acO zY ?_;simp (disch:=omega) only[jR,tkC,hf,k1,k2,go_sem]
  repeat' first|((first|refine cA (dA _) ?_ ?_|refine cA (dB _) ?_ ?_);exact flk;simp (disch:=omega) only[go_sem])|exact tF|fail
theorem Lm(s:Str)(h:JN)(hs:s.length<=1000000000):ACalls Tryz.prog 137 [.str s] h (.bool (VY s)) h:=by
 unfold VY;have c1:=λh=>t53 s h hs
 by_cases g:1<=s.length
 ·rw[V9 s g];have k0:((0:Int)<s.length)=True:=eqt oma;have k2:((s.length:Int)-1).toNat=s.length-1:=by omega
  have k3:(0<=(s.length:Int)-1)=True:=eqt oma;have k4:((s.length:Int)-1<=s.length)=True:=eqt oma;have k5:((s.length:Int)-1<s.length)=True:=eqt oma;obtain⟨b,hb⟩:=Qt ((s[s.length-1]?).getD 0)
  have eb:=hb.symm;rw[eb];have c2:=λh=>t53 (s.take (s.length-1)) h (by simp;omega)
  by_cases g2:b.toNat=42
  ·have k6:((b.toNat:Int)=42)=True:=eqt oma;rw[ipo (by simpa using g2)]
   by_cases g3:s.length<=16
   ·have k7:((s.length:Int)<=16)=True:=eqt oma;rw[dqt g3];refine acO li ?_;simp (disch:=omega) only[rB,k0,k2,k3,k4,k5,eb,k6,k7,go_sem]
    repeat' first|(refine cG (λe=>c2 _) flk ?_;simp (disch:=omega) only[go_sem])|exact tS|with_reducible apply aiA|exact clz|fail
   ·have k7:((s.length:Int)<=16)=False:=eqf oma;rw[dqf g3];refine acO li ?_;simp (disch:=omega) only[rB,k0,k2,k3,k4,k5,eb,k6,k7,go_sem]
    repeat' first|(refine qj ( .bool false) ?_;simp (disch:=omega) only[go_sem])|exact tS|fail
  ·have k6:((b.toNat:Int)=42)=False:=eqf oma;rw[ine (by simpa using g2)];refine acO li ?_;simp (disch:=omega) only[rB,k0,k2,k3,k4,k5,eb,k6,go_sem]
   repeat' first|(refine cA (c1 _) flk ?_;simp (disch:=omega) only[go_sem])|exact tS|fail
 ·have e:s= []:=List.eq_nil_of_length_eq_zero oma;subst e;rw[ine (by decide)];refine acO li ?_;simp (disch:=omega) only[rB,go_sem]
  repeat' first|((first|refine cA (c1 _) ?_ ?_|refine cG (λe=>c1 _) ?_ ?_);exact flk;simp (disch:=omega) only[go_sem])|exact tS|(with_reducible first|intro _|apply aiA)|exact clz|fail
theorem hdR(x:Co)(h:JN)(hz:yv x)(hp:kM SG h):ACalls Tryz.prog 60 [.str x.sec,strs x.sig,qm x.tok] h (.int .i64 (srE x)) h:=by
 obtain⟨R,hR⟩:=Qt (srE x)
 rw[<-hR];unfold srE at hR;have z1:=hz.sg;have z2:=hz.tk;have cN:=λh=>t53 x.sec h hz.sc
 cases g0:vf x.sec with
 |false=>
  rw[g0]at cN;rw[ipo g0]at hR;rw[hR];refine acO J1 ?_;simp (disch:=omega) only[Fv,strs,qm,go_sem]
  repeat' first|(refine cA (cN _) flk ?_;simp (disch:=omega) only[go_sem])|exact tS|fail
 |true=>
 rw[g0]at cN;rw[ine (by rw[g0];simp)]at hR
 by_cases g1:x.sig.length=0
 ·have k1:((x.sig.length:Int)=0)=True:=eqt oma;rw[ipo g1]at hR;rw[hR];refine acO J1 ?_;simp (disch:=omega) only[Fv,strs,qm,go_sem]
  repeat' first|(refine cA (cN _) flk ?_;simp (disch:=omega) only[k1,go_sem])|exact tS|fail
 have k1:((x.sig.length:Int)=0)=False:=eqf oma;rw[ine g1]at hR
 by_cases g2:32<x.sig.length
 ·have k2:((32:Int)<x.sig.length)=True:=eqt oma;rw[ipo g2]at hR;rw[hR];refine acO J1 ?_;simp (disch:=omega) only[Fv,strs,qm,go_sem]
  repeat' first|(refine cA (cN _) flk ?_;simp (disch:=omega) only[k1,k2,go_sem])|exact tS|fail
 have k2:((32:Int)<x.sig.length)=False:=eqf oma;rw[ine g2]at hR;refine acO J1 ?_;simp (disch:=omega) only[Fv,strs,qm,go_sem]
 repeat' first|(refine cA (cN _) flk ?_;simp (disch:=omega) only[k1,k2,go_sem])
 refine qr (T:=λi:Nat=>qY 81 [(1,strs x.sig),(2,qm x.tok),(7,.int .i64 i)]) (H:=λ_=>h) (inv:=λi=>i<=x.sig.length∧ ∀j,j<i->jB x.sig j=0) (m:=λi=>x.sig.length-i) 0 ⟨nzl _,λj hj=>by omega⟩ (Wk.temps ?_) ?_
 ·(simp only[strs,qm,go_sem,qg,qc,qb,qf];try exact tT)
 rintro i ⟨i1,i2⟩ K hK
 by_cases hi:i<x.sig.length
 ·have k3:((i:Int)<x.sig.length)=True:=eqt oma;have hE:=kN (f:=jB x.sig) hi i2;have hs:jB x.sig i=if VY (x.sig.getD i [])=false then 14 else if jm (λj=>decide (x.sig.getD i []=x.sig.getD j [])) i=true then 7 else 0:=rfl
  have c87:=λh=>Lm (x.sig.getD i []) h (hz.ss i)
  obtain⟨s,hsx⟩:=Qt (x.sig.getD i [])
  have es:=hsx.symm;rw[es]at hs c87;cases g3:VY s with
  |false=>
   rw[g3]at c87;rw[ipo g3]at hs;have hne:we (jB x.sig) 0 x.sig.length≠0:=by rw[hE (by rw[hs];decide),hs];decide
   have hV:R=14:=by rw[hR,ipo hne,hE (by rw[hs];decide),hs]
   rw[hV];simp (disch:=omega) only[strs,qm,k3,es,go_sem]
   repeat' first|(refine cA (c87 _) flk ?_;simp (disch:=omega) only[go_sem])|exact tS|with_reducible apply aiA|exact clz|fail
  |true=>
  rw[g3]at c87;rw[ine (by rw[g3];simp)]at hs;simp (disch:=omega) only[strs,qm,k3,es,go_sem]
  repeat' first|(refine cA (c87 _) flk ?_;simp (disch:=omega) only[go_sem])|with_reducible apply aiA|exact clz|fail
  refine qr (T:=λk:Nat=>qY 81 [(1,strs x.sig),(2,qm x.tok),(7,.int .i64 i),(8,.int .i64 k)]) (H:=λ_=>h) (inv:=λk=>k<=i∧ ∀j,j<k-> ¬s=x.sig.getD j []) (m:=λk=>i-k) 0 ⟨nzl _,λj hj=>by omega⟩ (Wk.temps ?_) ?_
  ·(simp only[strs,qm,go_sem,qg,qc,qb,qf];try exact tT)
  rintro k ⟨u1,u2⟩ K2 hK2
  by_cases hk:k<i
  ·have t1:((k:Int)<i)=True:=eqt oma;have t2:((k:Int)<x.sig.length)=True:=eqt oma;obtain⟨y,hy⟩:=Qt (x.sig.getD k [])
   have ey:=hy.symm
   by_cases g4:y=s
   ·have k4:(y=s)=True:=eqt g4;rw[ipo (qP.2 ⟨k,hk,by rw[ey,g4];simp⟩)]at hs;have hne:we (jB x.sig) 0 x.sig.length≠0:=by rw[hE (by rw[hs];decide),hs];decide
    have hV:R=7:=by rw[hR,ipo hne,hE (by rw[hs];decide),hs]
    rw[hV];simp (disch:=omega) only[strs,qm,k3,t1,t2,k4,es,ey,go_sem]
    repeat' first|exact tS|with_reducible apply aiA|exact clz|fail
   ·have k4:(y=s)=False:=eqf g4;simp (disch:=omega) only[strs,qm,k3,t1,t2,k4,es,ey,go_sem]
    repeat' first|with_reducible apply aiA|exact clz|fail
    refine hK2 _ _ (k+1) ⟨hk,λj hj=> ?_⟩ oma (Wk.temps ?_)
    ·by_cases e:j=k
     ·subst e;rw[ey];exact λe=>g4 e.symm
     ·exact u2 j oma
    ·(simp only[strs,qm,go_sem,qg,qc,qb,qf];try exact tT)
  ·have t1:((k:Int)<i)=False:=eqf oma;obtain rfl:k=i:=by omega
   rw[ine (by rw[qq.2 λj hj=>dqf (u2 j hj)];simp)]at hs;simp (disch:=omega) only[strs,qm,t1,go_sem];refine hK _ _ (k+1) ⟨hi,λj hj=> ?_⟩ oma (Wk.temps ?_)
   ·by_cases e:j=k
    ·subst e;exact hs
    ·exact i2 j oma
   ·(simp only[strs,qm,go_sem,qg,qc,qb,qf];try exact tT)
 have k3:((i:Int)<x.sig.length)=False:=eqf oma;have hn0:=zZ (f:=jB x.sig) (λj (hj:j<x.sig.length)=>i2 j oma);rw[ine (λhc=>hc hn0)]at hR
 by_cases g5:x.tok.length=x.sig.length
 case neg=>
  have k5:((x.tok.length:Int)=x.sig.length)=False:=eqf oma;rw[ipo g5]at hR;rw[hR];simp (disch:=omega) only[strs,qm,k3,k5,go_sem]
  repeat' first|exact tS|fail
 have k5:((x.tok.length:Int)=x.sig.length)=True:=eqt oma;rw[ine (λhc=>hc g5)]at hR;clear hK;simp (disch:=omega) only[strs,qm,k3,k5,go_sem];obtain⟨rw0,hrw⟩: ∃f:Nat->Int,f=λi=>cQ (x.tok.getD i []):=⟨_,rfl⟩
 have er: ∀i,rw0 i=cQ (x.tok.getD i []):=λi=>by rw[hrw]
 rw[<-hrw]at hR;refine qr (T:=λi:Nat=>qY 81 [(2,qm x.tok),(9,.int .i64 i)]) (H:=λ_=>h) (inv:=λi=>i<=x.tok.length∧ ∀j,j<i->rw0 j=0) (m:=λi=>x.tok.length-i) 0 ⟨nzl _,λj hj=>by omega⟩ (Wk.temps ?_) ?_
 ·(simp only[qm,go_sem,qg,qc,qb,qf];try exact tT)
 rintro i ⟨i1,i2⟩ K hK
 by_cases hi:i<x.tok.length
 ·have k6:((i:Int)<x.tok.length)=True:=eqt oma;have hE:=kN (f:=rw0) hi i2;have hs:=er i;have zl:=hz.tl i;have zt:=hz.te i;obtain⟨l,hl⟩:=Qt (x.tok.getD i [])
  have el:=hl.symm;rw[el]at hs zl;simp only[el]at zt;unfold cQ at hs
  by_cases g6:1024<l.length
  ·have k7:((1024:Int)<l.length)=True:=eqt oma;rw[ipo g6]at hs;have hV:R=4:=by rw[hR,hE (by rw[hs];decide),hs]
   rw[hV];simp (disch:=omega) only[qm,zR,k6,k7,el,go_sem]
   repeat' first|exact tS|with_reducible apply aiA|exact clz|fail
  have k7:((1024:Int)<l.length)=False:=eqf oma;rw[ine g6]at hs;simp (disch:=omega) only[qm,zR,k6,k7,el,go_sem]
  repeat' first|with_reducible apply aiA|exact clz|fail
  refine qr (T:=λk:Nat=>qY 81 [(2,qm x.tok),(9,.int .i64 i),(10,.int .i64 k)]) (H:=λ_=>h) (inv:=λk=>k<=l.length∧ ∀j,j<k->tkE (l.getD j default)=0) (m:=λk=>l.length-k) 0 ⟨nzl _,λj hj=>by omega⟩ (Wk.temps ?_) ?_
  ·(simp only[qm,zR,go_sem,qg,qc,qb,qf];try exact tT)
  rintro k ⟨u1,u2⟩ K2 hK2
  by_cases hk:k<l.length
  ·have t1:((k:Int)<l.length)=True:=eqt oma;have cT:=tkR (l.getD k default) h (zt k) hp;obtain⟨t,ht⟩:=Qt (l.getD k default)
   have et:=ht.symm;rw[et]at cT;obtain⟨e,he⟩:=Qt (tkE t)
   rw[<-he]at cT;unfold tkC at cT
   by_cases g7:e=0
   ·have k8:(e=0)=True:=eqt g7;simp (disch:=omega) only[qm,zR,tkC,k6,t1,el,et,go_sem]
    repeat' first|(refine cA (cT) flk ?_;simp (disch:=omega) only[k8,go_sem])|with_reducible apply aiA|exact clz|fail
    refine hK2 _ _ (k+1) ⟨hk,λj hj=> ?_⟩ oma (Wk.temps ?_)
    ·by_cases e:j=k
     ·subst e;rw[et,<-he];exact g7
     ·exact u2 j oma
    ·(simp only[qm,zR,go_sem,qg,qc,qb,qf];try exact tT)
   ·have k8:(e=0)=False:=eqf g7;rw[ipo (qP.2 ⟨k,hk,by rw[et,<-he];simp[g7]⟩)]at hs;have hV:R=1:=by rw[hR,hE (by rw[hs];decide),hs]
    rw[hV];simp (disch:=omega) only[qm,zR,tkC,k6,t1,el,et,go_sem]
    repeat' first|(refine cA (cT) flk ?_;simp (disch:=omega) only[k8,go_sem])|exact tS|with_reducible apply aiA|exact clz|fail
  ·have t1:((k:Int)<l.length)=False:=eqf oma;rw[ine (by rw[qq.2 λj (hj:j<l.length)=>by rw[u2 j oma];simp];simp)]at hs;simp (disch:=omega) only[qm,zR,k6,t1,el,go_sem]
   repeat' first|with_reducible apply aiA|exact clz|fail
   refine hK _ _ (i+1) ⟨hi,λj hj=> ?_⟩ oma (Wk.temps ?_)
   ·by_cases e:j=i
    ·subst e;exact hs
    ·exact i2 j oma
   ·(simp only[qm,zR,go_sem,qg,qc,qb,qf];try exact tT)
 ·have k6:((i:Int)<x.tok.length)=False:=eqf oma;rw[zZ (λj (hj:j<x.tok.length)=>i2 j oma)]at hR;rw[hR];simp (disch:=omega) only[qm,k6,go_sem]
  repeat' first|exact tS|fail
theorem coR(x:Co)(h:JN)(hz:yv x)(hp:kM SG h):ACalls Tryz.prog 10 [.agg (coC x)] h (.int .i64 (coE x)) h:=by
 have c1:=λl=>hdR x (h++l) hz (hp.app l)
 unfold coE
 by_cases g:srE x=0
 case neg=>
  have k1:(srE x=0)=False:=eqf g;rw[ipo g];obtain⟨e,he⟩:=Qt (srE x)
  rw[<-he]at c1 k1 ⊢;refine acO F5 ?_;simp (disch:=omega) only[Ny,coC,go_sem]
  repeat' first|(refine cA (c1 _) flk ?_;simp (disch:=omega) only[k1,go_sem])|exact tF|fail
 rw[ine (λhc=>hc g)];obtain⟨o1,o2,o3,o4⟩:=XN g;rw[g]at c1;have zg1: ∀g,valL g .len [strs x.sig]= .int .i64 x.tok.length:=λ_=>by rw[o3];rfl
 have zg2: ∀g,okL g .len [strs x.sig]=True:=λ_=>eqt trivial
 have hn:=hz.tk;have hc:=hz.cl;have hl:=hz.tl;have hm:=hz.ce;obtain⟨R,hR⟩:=Qt (if alB x.tok x.col=false then (19:Int) else 0)
 rw[<-hR];have k0:(0<=(x.tok.length:Int))=True:=eqt oma;have k1:((x.tok.length:Int)<=9223372036854775807)=True:=eqt oma;have eS:=o3.symm;refine acO F5 ?_;simp (disch:=omega) only[Ny,coC,go_sem]
 repeat' first|(refine cA (c1 _) flk ?_;simp (disch:=omega) only[k0,zg1,zg2,go_sem])|with_reducible apply aiA|exact clz|fail
 all_goals try rw[itn]
 rw[gy];obtain⟨tok,htok⟩:=Qt x.tok
 obtain⟨col,hcol⟩:=Qt x.col
 have eS2:x.sig.length=tok.length:=by rw[htok];exact eS
 rw[<-htok,<-hcol]at hR;rw[<-htok]at k0 k1 hn;simp only[<-htok]at hl o4;rw[<-hcol]at hc;simp only[<-hcol]at hm;have eC:coC x= [.str x.sec,strs x.sig,qm tok,qn col]:=by rw[htok,hcol];rfl
 have zc:qn col= .sl col.length λi=> [qx (col.getD i [])]:=rfl
 have zt:qm tok= .sl tok.length λi=> [zR (tok.getD i [])]:=rfl
 try simp only[<-htok,<-hcol]
 rw[<-DL (col:=col)];refine qr (T:=λi:Nat=>qY 99 [(1,.op h.length 1 0),(4,.osl (h.length+1) 1 1 0 tok.length),(5,.int .i64 i)])
  (H:=λi=>h++ [.mem 1 26 [.str x.sec,strs x.sig,qm tok,qn col],.mem 1 3 (gC (atA col i 0) tok.length)])
  (inv:=λi=>i<=col.length∧ ∀j,j<i->dP tok col j=true) (m:=λi=>col.length-i) 0 ⟨nzl _,λj hj=>absurd hj (nnz j)⟩ (Wk.temps ?_) ?_
 ·(simp only[strs,zt,zc,go_sem,qg,qc,qb,qf];try exact tT)
 rintro i ⟨i1,i2⟩ K hK
 by_cases hi:i<col.length
 ·have k2:((i:Int)<col.length)=True:=eqt oma;have ki:(0<=(i:Int))=True:=eqt oma;have hno:dP tok col i=false->R=19:=λhx=>by rw[hR,DD hi hx,ipo rfl]
  have hlen:= @sk tok col i;have hen:= @WZ tok col i;have heq:= @W2 tok col i;have hskip:= @iP col i;have hstep:= @iQ col i;have hmi:=hm i;have hE: ∀s,enB tok col i s=(decide ((col.getD i []).getD s 0= -1)||(decide ((col.getD i []).getD s 0=(cnC col s i:Int))&&decide ((col.getD i []).getD s 0<((tok.getD s []).length:Int)))):=λ_=>rfl
  obtain⟨c,hcx⟩:=Qt (col.getD i [])
  have ec:=hcx.symm;rw[ec]at hlen heq hmi;simp only[ec]at hskip hstep hE
  by_cases g1:c.length=tok.length
  case neg=>
   have k3:((c.length:Int)=tok.length)=False:=eqf oma;rw[hno (hlen g1)];simp (disch:=omega) only[zc,qx,k2,ki,k3,ec,go_sem]
   repeat' first|exact tF|with_reducible apply aiA|exact clz|fail
  have k3:((c.length:Int)=tok.length)=True:=eqt oma;have heq:=heq g1;simp (disch:=omega) only[zc,qx,k2,ki,k3,ec,go_sem]
  repeat' first|with_reducible apply aiA|exact clz|fail
  refine qr (T:=λs:Nat=>qY 99 [(1,.op h.length 1 0),(4,.osl (h.length+1) 1 1 0 tok.length),(5,.int .i64 i),(6,qx c),(7,.bool (jm (λs=> !decide (c.getD s 0= -1)) s)),(8,.int .i64 s)])
   (H:=λs=>h++ [.mem 1 26 [.str x.sec,strs x.sig,qm tok,qn col],.mem 1 3 (gC (atA col i s) tok.length)])
   (inv:=λs=>s<=c.length∧ ∀j,j<s->enB tok col i j=true) (m:=λs=>c.length-s) 0 ⟨nzl _,λj hj=>absurd hj (nnz j)⟩ (Wk.temps ?_) ?_
  ·(simp only[qx,go_sem,qg,qc,qb,qf];try exact tT)
  rintro s ⟨s1,s2⟩ K2 hK2
  by_cases hs:s<c.length
  ·have t1:((s:Int)<c.length)=True:=eqt oma;have t0:(0<=(s:Int))=True:=eqt oma;have hsn:s<tok.length:=by omega
   have t2:((s:Int)<tok.length)=True:=eqt oma;have t3:(s<tok.length)=True:=eqt hsn;have t4:(s+1<=tok.length)=True:=eqt hsn;have gl:=km (atA col i s) tok.length;have gg:=vS (g:=atA col i s) hsn;rw[WR]at gg;have hsk:=hskip (s:=s) (n:=tok.length);have hst:=hstep (s:=s) hsn;have hcn:= @WY col s i;have hlt:=hl s;have hEs:=hE s;have hap:=dC (λs=> !decide (c.getD s 0= -1)) s;obtain⟨t,ht⟩:=Qt (c.getD s 0)
   obtain⟨l,hlx⟩:=Qt (tok.getD s [])
   have et:=ht.symm;have el:=hlx.symm;rw[et]at hsk hst hEs;rw[el]at hEs hlt;simp only[et]at hap;obtain⟨a,ha⟩:=Qt (jm (λs=> !decide (c.getD s 0= -1)) s)
   have ea:=ha.symm;rw[ea]at hap;obtain⟨q,hq⟩: ∃q:Nat,q=cnC col s i:=⟨_,rfl⟩
   have eq:=hq.symm;rw[eq]at hst hEs hcn gg;have b2:((q:Int)+1<=9223372036854775807)=True:=eqt oma;have b3:(-9223372036854775808<=(q:Int)+1)=True:=eqt oma
   by_cases g2:t= -1
   ·have k4:(t= -1)=True:=eqt g2;rw[dqt g2,Bool.true_or]at hEs;have hap':jm (λs=> !decide (c.getD s 0= -1)) (s+1)=a:=by rw[hap,dqt g2];simp
    simp (disch:=omega) only[qx,t0,t1,t2,t3,k4,et,ea,gl,gg,Nat.mul_one,Nat.zero_add,go_sem]
    repeat' first|with_reducible apply aiA|exact clz|fail
    rw[hsk g2];refine hK2 _ _ (s+1) ⟨hs,λj hj=> ?_⟩ oma (Wk.temps ?_)
    ·by_cases e:j=s
     ·subst e;exact hEs
     ·exact s2 j oma
    ·rw[hap']
     (simp only[qx,go_sem,qg,qc,qb,qf];try exact tT)
   have k4:(t= -1)=False:=eqf g2;rw[dqf g2,Bool.false_or]at hEs;have hap':jm (λs=> !decide (c.getD s 0= -1)) (s+1)=true:=by rw[hap,dqf g2];simp
   by_cases g3:t=(q:Int)
   case neg=>
    have k5:(t=(q:Int))=False:=eqf g3;rw[dqf g3,Bool.false_and]at hEs;rw[hno (hen hsn hEs)];simp (disch:=omega) only[zt,qx,t0,t1,t2,t3,t4,k4,k5,et,ea,gl,gg,Nat.mul_one,Nat.zero_add,go_sem]
    repeat' first|exact tF|with_reducible apply aiA|exact clz|fail
   have k5:(t=(q:Int))=True:=eqt g3;rw[dqt g3,Bool.true_and]at hEs
   by_cases g4:(l.length:Int)<=t
   ·have k6:((l.length:Int)<=t)=True:=eqt g4;rw[dqf oma]at hEs;rw[hno (hen hsn hEs)];simp (disch:=omega) only[zt,zR,qx,t0,t1,t2,t3,t4,k4,k5,k6,et,ea,el,gl,gg,Nat.mul_one,Nat.zero_add,go_sem]
    repeat' first|exact tF|with_reducible apply aiA|exact clz|fail
   ·have k6:((l.length:Int)<=t)=False:=eqf g4;rw[dqt oma]at hEs;have hst:=hst g2;simp (disch:=omega) only[zt,zR,qx,t0,t1,t2,t3,t4,k4,k5,k6,et,ea,el,gl,gg,hst,Nat.mul_one,Nat.zero_add,Option.isSome_some,go_sem]
    repeat' first|with_reducible apply aiA|exact clz|fail
    try rw[hst]
    refine hK2 _ _ (s+1) ⟨hs,λj hj=> ?_⟩ oma (Wk.temps ?_)
    ·by_cases e:j=s
     ·subst e;exact hEs
     ·exact s2 j oma
    ·rw[hap']
     (simp only[qx,go_sem,qg,qc,qb,qf];try exact tT)
  ·have t1:((s:Int)<c.length)=False:=eqf oma;have es:s=tok.length:=by omega
   have heq:=heq λj hj=>s2 j oma
   rw[<-es]at heq;cases ga:jm (λs=> !decide (c.getD s 0= -1)) s with
   |false=>
    rw[ga]at heq;rw[hno heq];simp (disch:=omega) only[qx,t1,go_sem]
    repeat' first|exact tF|fail
   |true=>
    rw[ga]at heq;simp (disch:=omega) only[qx,t1,go_sem];have ege:gC (atA col i s) tok.length=gC (atA col (i+1) 0) tok.length:=by rw[es];exact po _
    rw[ege];refine hK _ _ (i+1) ⟨hi,λj hj=> ?_⟩ oma (Wk.temps ?_)
    ·by_cases e:j=i
     ·subst e;exact heq
     ·exact i2 j oma
    ·(simp only[go_sem,qg,qc,qb,qf];try exact tT)
 have k2:((i:Int)<col.length)=False:=eqf oma;obtain rfl:i=col.length:=by omega
 clear hK;simp (disch:=omega) only[zc,k2,go_sem]
 repeat' first|with_reducible apply aiA|exact clz|fail
 refine qr (T:=λs:Nat=>qY 99 [(1,.op h.length 1 0),(4,.osl (h.length+1) 1 1 0 tok.length),(9,.int .i64 s)])
  (H:=λ_=>h++ [.mem 1 26 [.str x.sec,strs x.sig,qm tok,qn col],.mem 1 3 (gC (atA col col.length 0) tok.length)])
  (inv:=λs=>s<=tok.length∧ ∀j,j<s->cnC col j col.length=(tok.getD j []).length) (m:=λs=>tok.length-s) 0 ⟨nzl _,λj hj=>absurd hj (nnz j)⟩ (Wk.temps ?_) ?_
 ·(simp only[go_sem,qg,qc,qb,qf];try exact tT)
 rintro s ⟨s1,s2⟩ K hK
 by_cases hs:s<tok.length
 ·have t1:((s:Int)<tok.length)=True:=eqt oma;have t0:(0<=(s:Int))=True:=eqt oma;have t3:(s<tok.length)=True:=eqt hs;have t4:(s+1<=tok.length)=True:=eqt hs;have gl:=km (atA col col.length 0) tok.length;have gg:=vS (g:=atA col col.length 0) hs;have e0:atA col col.length 0 s= .int .i64 (cnC col s col.length:Int):=by unfold atA;rw[ine (nnz _)]
  rw[e0]at gg;have hno:= @WO tok col s hs;obtain⟨q,hq⟩: ∃q:Nat,q=cnC col s col.length:=⟨_,rfl⟩
  have eq:=hq.symm;have hs2:q=(tok.getD s []).length->cnC col s col.length=(tok.getD s []).length:=λe=>by rw[<-hq];exact e
  rw[eq]at gg hno;obtain⟨l,hlx⟩:=Qt (tok.getD s [])
  have el:=hlx.symm;rw[el]at hno hs2
  by_cases g:q=l.length
  ·have k5:((q:Int)=l.length)=True:=eqt oma;simp (disch:=omega) only[zt,zR,t0,t1,t3,k5,el,gl,gg,Nat.mul_one,Nat.zero_add,go_sem]
   repeat' first|with_reducible apply aiA|exact clz|fail
   refine hK _ _ (s+1) ⟨hs,λj hj=> ?_⟩ oma (Wk.temps ?_)
   ·by_cases e:j=s
    ·subst e;rw[el];exact hs2 g
    ·exact s2 j oma
   ·(simp only[go_sem,qg,qc,qb,qf];try exact tT)
  ·have k5:((q:Int)=l.length)=False:=eqf oma;rw[hR,hno g,ipo rfl];simp (disch:=omega) only[zt,zR,t0,t1,t3,k5,el,gl,gg,Nat.mul_one,Nat.zero_add,go_sem]
   repeat' first|exact tF|with_reducible apply aiA|exact clz|fail
 ·have t1:((s:Int)<tok.length)=False:=eqf oma;rw[hR,WP i2 (λj hj=>s2 j oma),ine (by simp)];simp (disch:=omega) only[t1,go_sem]
  repeat' first|exact tF|fail
theorem TF(b:List Wd)(k:Int)(h:JN)(hn:b.length<=1000000):ACalls Tryz.prog 90 [jl b,.int .i64 k] h (strs (owG b k b.length)) h:=by
 refine acO OE ?_;simp (disch:=omega) only[Ru,jl,go_sem];refine qr (T:=λs:Nat×Nat×AObj×AObj=>qY 25 [(1,.int .i64 k),(8,jl b),(9,.int .i64 b.length),(10,.int .i64 s.1),(5,.osl (h.length+1) s.2.1 1 0 (owG b k s.1).length)])
  (H:=λs=>h++ [.emp 1,ze s.2.1 9 (jO (owG b k s.1)),s.2.2.1,s.2.2.2,.emp 0])
  (inv:=λs=>s.1<=b.length∧qG [s.2.2.1] 0=true∧qG [s.2.2.2] 0=true) (m:=λs=>b.length-s.1) (0,1,.emp 0,.emp 0) ⟨nzl _,rfl,rfl⟩ (Wk.temps ?_) ?_
 ·(simp only[jl,owG,go_sem,qg,qc,qb,qf];try exact tT)
 rintro⟨i,v,O1,O2⟩ ⟨i1,i2,i3⟩ K hK;simp only at i1 i2 i3 hK;have i2': ∀m,qG (O1::m) 0=true:=λ_=>i2
 have i3': ∀m,qG (O2::m) 0=true:=λ_=>i3
 have ol: ∀n,(owG b k n).length<=n:=by
  intro n
  induction n with
  |zero=>exact nlr _
  |succ n ih=>
   unfold owG;rw[lap];split
   ·simp only[lco,lnl];omega
   ·simp only[lnl];omega
 have hol:=ol i
 by_cases hi:i<b.length
 ·have k1:((i:Int)<b.length)=True:=eqt oma;have hS:owG b k (i+1)=owG b k i++if (b.getD i default).unit=k then [(b.getD i default).text] else []:=rfl
  obtain⟨L,hL⟩:=Qt (owG b k i)
  rw[<-hL]at hS hol ⊢;obtain⟨w,hw⟩:=Qt (b.getD i default)
  have ew:=hw.symm;rw[ew]at hS;have eC:=kW L;have eTk:List.take L.length (jO L)=jO L:=ltl oma
  by_cases g:w.unit=k
  ·have q1:(w.unit=k)=True:=eqt g;rw[ipo g]at hS;simp (disch:=omega) only[jl,wdC,k1,ew,i2',i3',q1,eC,eTk,Nat.mul_one,go_sem]
   repeat' first|with_reducible apply aiA|exact clz|fail
   have eA:jO L++ [AV.str w.text]=jO (L++ [w.text]):=by simp[jO]
   have eD:(AV.str w.text::List.drop 1 (zQ [AV.str []] 1))= [AV.str w.text]:=rfl;rw[eA,eD];refine hK _ _ (i+1,v+1,.mem (qo (some O1)+1) 133 (wdC w),.mem (qo (some O2)+1) 9 [.str w.text]) ⟨hi,rfl,rfl⟩ (by simp only;omega) ?_;simp only[hS,wdC,lap,lco,lnl];refine Wk.temps ?_
   (simp only[jl,wdC,go_sem,qg,qc,qb,qf];try exact tT)
  ·have q1:(w.unit=k)=False:=eqf g;rw[ine g,lan]at hS;simp (disch:=omega) only[jl,wdC,k1,ew,i2',i3',q1,go_sem]
   repeat' first|with_reducible apply aiA|exact clz|fail
   refine hK _ _ (i+1,v,.mem (qo (some O1)+1) 133 (wdC w),O2) ⟨hi,rfl,i3⟩ (by simp only;omega) ?_;simp only[hS,wdC];refine Wk.temps ?_
   (simp only[jl,wdC,go_sem,qg,qc,qb,qf];try exact tT)
 have k1:((i:Int)<b.length)=False:=eqf oma;obtain rfl:i=b.length:=by omega
 simp (disch:=omega) only[k1,go_sem]
 repeat' first|(apply qa;exact rvk;simp only[go_sem])
 exact xn (λ_=>rfl) rfl
theorem SD(x:Co)(l:List Un)(h:JN)(hz:yv x)(hu:aM l)(hp:kM SG h)(h1:coE x=0)(h2:vaE x l=0):ACalls Tryz.prog 66 [.agg (coC x),qZ l] h (.int .i64 0) h:=by
 have c1:=λl'=>coP x (h++l') hz (hp.app l')
 have c2:=λl'=>vaP x l (h++l') hz hu (hp.app l')
 simp only[h1]at c1;simp only[h2]at c2;unfold coC at c1 c2;refine acO J2 ?_;simp (disch:=omega) only[Fz,coC,go_sem]
 repeat' first|((first|refine cA (c1 _) ?_ ?_|refine cA (c2 _) ?_ ?_);exact flk;simp (disch:=omega) only[go_sem])|exact tF|fail
theorem rdD(x:Co)(l:List Un)(b:List Wd)(u:Nat)(h:JN)(hz:yv x)(hu:aM l)(hb:b.length<=1000000)(hp:kM SG h)(h1:coE x=0)(h2:vaE x l=0)(hul:u<l.length):ACalls Tryz.prog 39 [.agg (coC x),qZ l,jl b,.int .i64 (u:Int)] h (.tup [strs (owG b u b.length),.int .i64 0]) h:=by
 have c1:=λl'=>SD x l (h++l') hz hu (hp.app l') h1 h2
 have c2:=λh=>TF b (u:Int) h hb
 have hn:=hu.n;have zu: ∀g,valL g .len [qZ l]= .int .i64 l.length:=λ_=>rfl
 have zv: ∀g,okL g .len [qZ l]=True:=λ_=>eqt trivial
 have k1:((u:Int)<0)=False:=eqf oma;have k2:((l.length:Int)<=u)=False:=eqf oma;unfold coC at c1;refine acO Om ?_;simp (disch:=omega) only[Rj,coC,go_sem]
 repeat' first|((first|refine cA (c1 _) ?_ ?_|refine cA (c2 _) ?_ ?_);exact flk;simp (disch:=omega) only[zu,zv,k1,k2,go_sem])|exact tF|fail
end RC
end
section
open Go Go.Proofs AF
end
section
open Go Go.Proofs AF HY LN
namespace RC
end RC
end
section
open Go Go.Proofs AF
def As:List Nat:= []
def Yg:C:=
 (pk [ON 2 (.nilo 0 1 3) []] ((pk [MV 3 0,O1 4 (.isnil .slice false) 3] (p7 4 (p9 [ON 2 (.nilo 0 1 3) []]))).seq (p9 [⟨some 5,none,.bslc 1 1 0 3 [i6 0] [],[]⟩,MV 6 0,O2 7 (.app 2
 1 3 8) 5 6,MV 2 7])))
theorem W6:qK Tryz.prog 156 8 3 [RV.tmp 2] Yg:=fi Tryz.f156 [2,5,7] As []
end
section
open Go Go.Proofs AF HY LN
namespace RC
def hsK(l:List Un)(b:List Wd)(k:Nat):List Int:=if 0<=brK l b k then ((l.getD k default).rds.getD (brK l b k).toNat default).src else []
def oY(n:Nat):List Int:=(List.range n).map (λi:Nat=>(i:Int))
def soK(x:Co)(l:List Un)(b:List Wd)(i:Nat):List Int:=if (b.getD i default).unit<0 then oY x.sig.length else hsK l b (b.getD i default).unit.toNat
theorem pi(n:Nat):oY (n+1)=oY n++ [(n:Int)]:=by unfold oY;rw[List.range_succ,List.map_append];rfl
theorem bH(n:Nat):(oY n).length=n:=by simp[oY]
theorem fW(l:List Un)(b:List Wd)(k:Nat):brK l b k<(l.getD k default).rds.length:=by
 unfold brK;rcases zk (λr=>decide (((l.getD k default).rds.getD r default).words=owG b (k:Int) b.length)) (l.getD k default).rds.length with⟨i,h1,_,_,h4⟩|⟨_,h2⟩
 ·rw[h4];omega
 ·rw[h2];omega
theorem An{l:List Un}{b:List Wd}{k:Nat}(hu:aM l):(hsK l b k).length<=1000000000:=by
 unfold hsK;split
 ·exact hu.sr _ _
 ·exact nzl _
theorem yJ(h:JN)(L:List Int):qk h (qx L)=some (L.length,qM L):=by
 show some (L.length,_)=_;rw[fmI]
theorem ny{L:List Int}(h:L≠ []):valP (.isnil .slice false) [qx L]= .bool false:=by
 unfold qx;rw[vD,ine (by simpa using h)];rfl
theorem NU(h:JN):ACalls Tryz.prog 156 [qx []] h (qx []) h:=by
 have s1:=λh=>yJ h []
 have z0:valP (.isnil .slice false) [qx []]= .anyb:=rfl;have z1:okP (.isnil .slice false) [qx []]=True:=eqt trivial;have e0:qM []= []:=rfl;refine acO W6 ?_;simp (disch:=omega) only[Yg,s1,z0,z1,e0,go_sem]
 repeat' first|(apply qa;exact rvk;simp only[go_sem])|with_reducible apply aiA|exact clz|fail
 ·exact qU
 ·rfl
 ·exact VLe.sl_eq rfl (λi hi=>absurd hi (by simp))
theorem SH(L:List Int)(h:JN)(k:Nat)(hk:qG h k=true)(h0:L≠ [])(hl:L.length<=1000000000):
  ACalls Tryz.prog 156 [qx L] h (.osl k (qo (qu k h)+1) 1 0 L.length) (qt k h (.mem (qo (qu k h)+1) 3 (qM L))):=by
 have s1:=λh=>yJ h L
 have eP:=jg L;have hp:=List.length_pos_iff.2 h0;have z0:=ny h0;have z1:okP (.isnil .slice false) [qx L]=True:=eqt trivial;refine bG W6 k (by simp) ?_;simp only[lco,lnl,Nat.reduceAdd,Nat.reduceSub,List.replicate,lca,lna];simp (disch:=omega) only[Yg,s1,z0,z1,go_sem]
 repeat' first|(with_reducible apply aiA)
 all_goals first
  |omega
  |contradiction
  |skip
 ·rfl
 exact⟨h.length+1,2,1,0,L.length,3,qM L,_,⟨trivial,trivial⟩,rfl,rfl,oma,by simp only[go_sem],tP L _,hk,rfl,rfl⟩
theorem Lq(x:Co)(l:List Un)(b:List Wd)(i:Nat)(h:JN)(hu:aM l)(hb:b.length<=1000000)(hi:i<b.length)(hn:x.sig.length<=1000000)(hul:(b.getD i default).unit<(l.length:Int)):
  ACalls Tryz.prog 79 [.agg (coC x),qZ l,jl b,.int .i64 (i:Int)] h (qx (soK x l b i)) h:=by
 have zb:jl b= .sl b.length λi=>wdC (b.getD i default):=rfl
 have zu:qZ l= .sl l.length λi=>unC (l.getD i default):=rfl
 have zs1: ∀g,valL g .len [strs x.sig]= .int .i64 x.sig.length:=λ_=>rfl
 have zs2: ∀g,okL g .len [strs x.sig]=True:=λ_=>eqt trivial
 have k5:(0<=(i:Int))=True:=eqt oma;have k6:((i:Int)<b.length)=True:=eqt oma;unfold soK;obtain⟨w,hw⟩:=Qt (b.getD i default)
 have ew:=hw.symm;rw[ew]at hul ⊢
 by_cases g1:w.unit<0
 ·have k1:(w.unit<0)=True:=eqt g1;rw[ipo g1];refine acO J4 ?_;simp (disch:=omega) only[FB,coC,zb,wdC,k1,k5,k6,ew,zs1,zs2,go_sem];refine qr (T:=λs:Nat×Nat×AObj=>qY 48 [(10,.osl (h.length+2) s.2.1 1 0 s.1),(22,.int .i64 x.sig.length),(23,.int .i64 s.1)])
   (H:=λs=>h++ [.mem 1 26 [.str x.sec,strs x.sig,qm x.tok,qn x.col],.emp 1,ze s.2.1 3 (qM (oY s.1)),s.2.2,.emp 0])
   (inv:=λs=>s.1<=x.sig.length∧qG [s.2.2] 0=true) (m:=λs=>x.sig.length-s.1) (0,1,.emp 0) ⟨nzl _,rfl⟩ (Wk.temps ?_) ?_
  ·(simp only[go_sem,qg,qc,qb,qf];try exact tT)
  rintro⟨j,v,O⟩ ⟨j1,j2⟩ K hK;simp only at j1 j2 hK;have j2': ∀m,qG (O::m) 0=true:=λ_=>j2
  have hst:=pi j;have hln:=bH j;obtain⟨M,hM⟩:=Qt (oY j)
  rw[<-hM]at hst hln ⊢;have eC:=jg M;rw[hln]at eC;have eT:List.take j (qM M)=qM M:=ltl oma
  by_cases hj:j<x.sig.length
  ·have r1:((j:Int)<x.sig.length)=True:=eqt oma;simp (disch:=omega) only[r1,j2',eC,eT,Nat.mul_one,go_sem]
   repeat' first|with_reducible apply aiA|exact clz|fail
   have eA:qM M++ [AV.int .i64 (j:Int)]=qM (oY (j+1)):=by rw[hst,ed];rfl
   have eD:(AV.int .i64 (j:Int)::List.drop 1 (zQ [AV.int .i64 0] 1))= [AV.int .i64 (j:Int)]:=rfl
   try rw[eD]
   try rw[eA]
   refine hK _ _ (j+1,v+1,.mem (qo (some O)+1) 3 [.int .i64 (j:Int)]) ⟨hj,rfl⟩ (by simp only;omega) (Wk.temps ?_)
   (simp only[go_sem,qg,qc,qb,qf];try exact tT)
  ·obtain rfl:j=x.sig.length:=by omega
   have r1:((x.sig.length:Int)<x.sig.length)=False:=eqf oma;rw[hM];simp (disch:=omega) only[r1,go_sem]
   repeat' first|(apply qa;exact rvk;simp only[go_sem])
   exact lX (λ_=>rfl) (bH _).symm
 have k1:(w.unit<0)=False:=eqf g1;rw[ine g1];obtain⟨k,hk⟩: ∃k:Nat,w.unit=(k:Int):=⟨w.unit.toNat,oma⟩
 rw[hk]at hul k1;rw[hk,itn];have c107:=λh=>IS l b k h hu hb oma
 have hlt:=fW l b k;have hsl:=An (b:=b) (k:=k) hu;have hd:hsK l b k=if 0<=brK l b k then ((l.getD k default).rds.getD (brK l b k).toNat default).src else []:=rfl
 have q1:(0<=(k:Int))=True:=eqt oma;have q2:((k:Int)<l.length)=True:=eqt oma;obtain⟨r,hr⟩:=Qt (brK l b k)
 rw[<-hr]at hd hlt;simp only[<-hr]at c107
 by_cases g2:0<=r
 case neg=>
  have k2:(0<=r)=False:=eqf g2;rw[ine g2]at hd;rw[hd];refine acO J4 ?_;simp (disch:=omega) only[FB,coC,zb,wdC,k1,k5,k6,ew,hk,go_sem]
  repeat' first|(refine cA (c107 _) flk ?_;simp (disch:=omega) only[k2,go_sem])|(apply qa;exact rvk;simp only[go_sem])
  exact qU
 have k2:(0<=r)=True:=eqt g2;rw[ipo g2]at hd;obtain⟨u,hux⟩:=Qt (l.getD k default)
 have eu:=hux.symm;rw[eu]at hd hlt;have q3:(r<u.rds.length)=True:=eqt hlt;obtain⟨S,hS⟩:=Qt (hsK l b k)
 rw[<-hS]at hd hsl ⊢;have eS:=hd.symm;have zr:jM u.rds= .sl u.rds.length λi=>rdC (u.rds.getD i default):=rfl
 by_cases g3:S= []
 ·subst g3;have c156:=λh=>NU h
  refine acO J4 ?_;simp (disch:=omega) only[FB,coC,zb,wdC,k1,k5,k6,ew,hk,go_sem]
  repeat' first|(refine cA (c107 _) flk ?_;simp (disch:=omega) only[zu,unC,zr,rdC,k2,q1,q2,q3,eu,eS,go_sem])|with_reducible apply aiA|exact clz|fail
  refine qE (c156 _) (by exact flk) ?_;simp (disch:=omega) only[go_sem]
  repeat' first|exact tF|fail
 refine acO J4 ?_;simp (disch:=omega) only[FB,coC,zb,wdC,k1,k5,k6,ew,hk,go_sem]
 repeat' first|(refine cA (c107 _) flk ?_;simp (disch:=omega) only[zu,unC,zr,rdC,k2,q1,q2,q3,eu,eS,go_sem])|with_reducible apply aiA|exact clz|fail
 refine qE (SH S _ (h.length+2) (by simp only[go_sem]) g3 hsl) (by exact flk) ?_;simp (disch:=omega) only[go_sem]
 repeat' first|(apply qa;exact rvk;simp only[go_sem])
 rw[ipo (by rw[jg];exact nlr _)];exact eJ _ (λ_=>rfl) rfl
theorem Ao{x:Co}{l:List Un}{b:List Wd}(h:vr x l=true){k:Nat}(hk:k<l.length){t:Nat}(ht:t<x.sig.length):
  (t:Int)∈hsK l b k↔owG b (k:Int) b.length=rdG x t (frN l k) (toN l k-frN l k):=by
 obtain⟨_,_,_,_,e⟩:=jz h hk;have hi:=yH x (frN l k) (toN l k);have hh:=cn x (frN l k) (toN l k);obtain⟨L,hL⟩:=Qt (aF x (frN l k) (toN l k))
 rw[<-hL]at e hi hh;obtain⟨j,h1,h2,h3,h4,h5⟩:=uX hh hi ht;unfold hsK brK;rw[e];rcases zk (λr=>decide ((L.getD r default).words=owG b (k:Int) b.length)) L.length with⟨i,g1,g2,_,g4⟩|⟨g1,g2⟩
 ·rw[g4,ipo oma,itn];have g2:=of_decide_eq_true g2;rw[h5 i g1];constructor
  ·intro e;rw[<-g2,e,h4]
  ·intro e;rcases Nat.lt_trichotomy i j with q|q|q
   ·exact absurd (by rw[g2,e,h4]) (hi.ne i j q h2)
   ·exact q
   ·exact absurd (by rw[g2,e,h4]) (hi.ne j i q g1)
 ·rw[g2,ine oma];constructor
  ·intro e;cases e
  ·intro e
   have:=of_decide_eq_false (g1 j h2)
   exact absurd (h4.trans e.symm) this
theorem ZR{n t:Nat}(h:t<n):(t:Int)∈oY n:=by
 unfold oY;exact List.mem_map.2 ⟨t,List.mem_range.2 h,rfl⟩
theorem rx{L:List Rw}{i:Nat}(hi:i<L.length):((bsW L).getD i default).unit=(L.getD i default).u:=by rw[ww hi];rfl
theorem DZ{L:List Rw}{i:Nat}(hi:i<L.length):((bsW L).getD i default).dec=(L.getD i default).d:=by rw[ww hi];rfl
theorem WU{L:List Rw}{i:Nat}(hi:i<L.length):((bsW L).getD i default).col=(L.getD i default).p.c:=by rw[ww hi];rfl
theorem fX{L:List Rw}{i:Nat}(hi:i<L.length):((bsW L).getD i default).text=(L.getD i default).p.t.text:=by rw[ww hi];rfl
theorem Ln{x:Co}{l:List Un}{d:List Dc}{s:Nat}(h:wt x l d s){i:Nat}(hi:i<(rwA x l d s).length){t:Nat}(ht:t<x.sig.length):
  (t:Int)∈soK x l (bsW (rwA x l d s)) i↔(((rwA x l d s).getD i default).u<0∨ ∃k:Nat,k<l.length∧((rwA x l d s).getD i default).u=k∧(rwU x l d s k).map rwT=rdG x t (frN l k) (toN l k-frN l k)):=by
 unfold soK;rw[rx hi];have hg:=((Qi h).1 _ (zI (a:=default) hi)).u;have hr:=xA l ((rwA x l d s).getD i default).p.c
 by_cases g:((rwA x l d s).getD i default).u<0
 ·rw[ipo g];exact⟨λ_=> .inl g,λ_=>ZR ht⟩
 ·rw[ine g];obtain⟨k,hk⟩: ∃k:Nat,((rwA x l d s).getD i default).u=k:=⟨(((rwA x l d s).getD i default).u).toNat,oma⟩
  have hkl:k<l.length:=by omega
  rw[hk,itn,Ao h.us hkl ht,XD h hkl];constructor
  ·intro e;exact .inr ⟨k,hkl,rfl,e⟩
  ·rintro (e|⟨k',h1,h2,h3⟩)
   ·omega
   ·have:k'=k:=by omega
    subst this;exact h3
end RC
end
