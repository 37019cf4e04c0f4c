import Derived.Test.YtiiegfkjmnoijaaGreatDoorK17
import Derived.Test.YtiiegfkjmnoijaaGreatDoorK12
import Derived.Lib.ItoaLen
import Derived.Test.YtiiegfkjmnoijaaGreatDoorK3
import Derived.Test.YtiiegfkjmnoijaaGreatDoorK5
import Derived.Test.YtiiegfkjmnoijaaGreatDoorK8
import Derived.Test.YtiiegfkjmnoijaaGreatDoorProg
import Derived.Test.YtiiegfkjmnoijaaGreatDoorK14
import Derived.Test.YtiiegfkjmnoijaaGreatDoorK16
import Derived.Test.YtiiegfkjmnoijaaGreatDoorK9
import Derived.Test.YtiiegfkjmnoijaaGreatDoorRows
import Derived.LaidLaws
import Derived.OpenShut
set_option linter.all false
set_option maxHeartbeats 256000000
set_option maxRecDepth 100000
section
open Go Go.Proofs AF HY LN
namespace RC
def exE(x:Co)(l:List Un)(d:List Dc)(b:List Wd)(i:Int):Int:=if pvE x l b≠0 then pvE x l b else if i<0∨(b.length:Int)<=i then 2 else if (d.length:Int)<=(b.getD i.toNat default).dec then 6 else 0
def joN(x:Co)(S:List Int):List Str:=S.map λs=>x.sig.getD s.toNat []
def nmN(x:Co)(S:List Int):List Str:=if S= [] then [[110,111,32,115,111,117,114,99,101]] else joN x S
def tlL(d:List Dc)(w:Wd):List Str:=
 if w.unit<0 then [[99,111,109,109,111,110]] else if w.dec<0 then [[108,101,97,100,105,110,103,32,115,111,117,114,99,101]] else
  if (d.getD w.dec.toNat default).kind=1 then [[100,101,99,105,115,105,111,110,32],Lib.itoa w.dec,[44,32,99,104,111,105,99,101,32,111,102,32],(d.getD w.dec.toNat default).sig]
  else [[100,101,99,105,115,105,111,110,32],Lib.itoa w.dec,[44,32,99,111,110,106,101,99,116,117,114,101]]
def qbi(x:Co)(d:List Dc)(w:Wd)(S:List Int):Str:=(([]++ [w.text,[58,32]].flatten)++ [Lib.join (nmN x S) [32],[59,32]].flatten)++(tlL d w).flatten
def exR(x:Co)(l:List Un)(d:List Dc)(b:List Wd)(i:Int):Str:=if exE x l d b i=0 then qbi x d (b.getD i.toNat default) (soK x l b i.toNat) else []
theorem EQ(sep:Str)(B:Nat): ∀(L:List Str),(∀s∈L,s.length<=B)->(Lib.joinTail sep L).length<=L.length*(sep.length+B):=by
 intro L
 induction L with
 |nil=>intro _;simp[Lib.joinTail]
 |cons a L ih=>
  intro h;have e:Lib.joinTail sep (a::L)=(sep++a)++Lib.joinTail sep L:=by simp[Lib.joinTail]
  rw[e,lap,lap,lco,Nat.succ_mul];have h1:=ih (λs hs=>h s (List.mem_cons_of_mem _ hs));have h2:=h a (List.mem_cons_self ..);omega
theorem Dm(sep:Str)(B:Nat)(L:List Str)(h: ∀s∈L,s.length<=B):(Lib.join L sep).length<=L.length*(sep.length+B):=by
 cases L with
 |nil=>simp[Lib.join_nil]
 |cons a L=>
  rw[Lib.join_cons,lap,lco,Nat.succ_mul];have h1:=EQ sep B L (λs hs=>h s (List.mem_cons_of_mem _ hs));have h2:=h a (List.mem_cons_self ..);omega
theorem Je{x:Co}{l:List Un}{b:List Wd}(g:pvE x l b=0){i:Nat}(hi:i<b.length):(soK x l b i).length<=x.sig.length∧ ∀s∈soK x l b i,0<=s∧s<x.sig.length:=by
 have hok:=ZJ g;have huo:=aA hok.un;obtain⟨p1,p2⟩:=fo g hi;unfold soK;split
 ·refine⟨Nat.le_of_eq (aW _),λs hs=> ?_⟩;unfold pd at hs;obtain⟨k,hk,rfl⟩:=List.mem_map.1 hs
  have:=List.mem_range.1 hk
  omega
 ·have hul:(b.getD i default).unit.toNat<l.length:=by omega
  refine⟨QE huo hul,λs hs=> ?_⟩;have hmem:l.getD (b.getD i default).unit.toNat default∈l:=by rw[gdqA,zB hul];exact List.getElem_mem hul
  have hri:dV (l.getD (b.getD i default).unit.toNat default).rds x.sig.length:=by rw[(huo.rg _ hmem).2.2.2];exact yz _ _ _
  have hlt:=d6 l b (b.getD i default).unit.toNat;unfold hsK at hs;split at hs
  ·exact (hri.src _ (Qz om)).2 s hs
  ·cases hs
theorem dF{n:Int}(h0:0<=n)(h1:n<=1000000000):(Lib.itoa n).length<=1000:=by
 have:=Lib.itoa_length_le n om om
 omega
structure XZ where
 i:Nat
 v:Nat
 O:AObj
theorem YL(x:Co)(l:List Un)(d:List Dc)(b:List Wd)(i:Int)(h:wh)(hz:aP x)(hu:cC l)(hb:b.length<=1000000)(ht: ∀i,(b.getD i default).text.length<=1000000000)(hn:x.sig.length<=1000)
  (hsl: ∀s,(x.sig.getD s []).length<=1000) (hdl:d.length<=1000000) (hds: ∀j,(d.getD j default).sig.length<=1000000) (hp:kS SG h):
  ACalls Tryz.prog 60 [.agg (coC x),zH l,jT d,jl b,.int .i64 i] h (.tup [.str (exR x l d b i),.int .i64 (exE x l d b i)]) h:=by
 have c38:=λl'=>pvP x l b (h++l') hz hu om ht (hp.app l')
 have z1: ∀g,valL g .len [jl b]= .int .i64 b.length:=λ_=>rfl
 have z2: ∀g,okL g .len [jl b]=True:=λ_=>eqt trivial
 have z3: ∀g,valL g .len [jT d]= .int .i64 d.length:=λ_=>rfl
 have z4: ∀g,okL g .len [jT d]=True:=λ_=>eqt trivial
 obtain⟨E,hE⟩:=wg (exE x l d b i)
 have hR:exR x l d b i=if E=0 then qbi x d (b.getD i.toNat default) (soK x l b i.toNat) else []:=by rw[hE];rfl
 rw[hR,<-hE];unfold exE at hE;unfold coC at c38
 by_cases g1:pvE x l b=0
 case neg=>
  rw[ipo g1]at hE;rw[hE,ine g1];have k1:(pvE x l b=0)=False:=eqf g1;refine acO Qs ?_;simp (disch:=omega) only[Gh,coC,go_sem]
  repeat' first|(refine cA (c38 _) flk ?_;simp (disch:=omega) only[k1,go_sem])|exact wa|fail
 rw[ine (λhc=>hc g1)]at hE;simp only[g1]at c38
 by_cases g2:i<0
 ·have k2:(i<0)=True:=eqt g2;rw[ipo (.inl g2)]at hE;rw[hE,ine (by decide)];refine acO Qs ?_;simp (disch:=omega) only[Gh,coC,go_sem]
  repeat' first|(refine cA (c38 _) flk ?_;simp (disch:=omega) only[z1,z2,k2,go_sem])|exact wa|fail
 have k2:(i<0)=False:=eqf g2
 by_cases g3:(b.length:Int)<=i
 ·have k3:((b.length:Int)<=i)=True:=eqt g3;rw[ipo (.inr g3)]at hE;rw[hE,ine (by decide)];refine acO Qs ?_;simp (disch:=omega) only[Gh,coC,go_sem]
  repeat' first|(refine cA (c38 _) flk ?_;simp (disch:=omega) only[z1,z2,k2,k3,go_sem])|exact wa|fail
 have k3:((b.length:Int)<=i)=False:=eqf g3;rw[ine (λhc=>hc.elim g2 g3)]at hE;obtain⟨j,rfl⟩: ∃j:Nat,i=(j:Int):=⟨i.toNat,om⟩
 rw[itn]at hE ⊢;have hjl:j<b.length:=by omega
 have k0:(0<=(j:Int))=True:=wr;have k5:((j:Int)<b.length)=True:=wr;have zb:jl b= .sl b.length λi=>wdC (b.getD i default):=rfl
 have hpu:=fo g1 hjl;obtain⟨hSl,hSr⟩:=Je g1 hjl;have htx:=(ZJ g1).tx j hjl;have c84:=λh=>AC x l b j h hu hb hjl om hpu.2
 obtain⟨S,hS⟩:=wg (soK x l b j)
 rw[<-hS]at hSl hSr;rw[<-hS];simp only[<-hS]at c84;unfold coC at c84;obtain⟨w,hw⟩:=wg (b.getD j default)
 have ew:=hw.symm;rw[ew]at hE hpu htx;rw[ew]
 by_cases g4:(d.length:Int)<=w.dec
 ·have k4:((d.length:Int)<=w.dec)=True:=eqt g4;rw[ipo g4]at hE;rw[hE,ine (by decide)];refine acO Qs ?_;simp (disch:=omega) only[Gh,coC,zb,wdC,go_sem]
  repeat' first|(refine cA (c38 _) flk ?_;simp (disch:=omega) only[z3,z4,k2,k3,k0,k5,ew,k4,go_sem])|exact wa|fail
 have k4:((d.length:Int)<=w.dec)=False:=eqf g4;rw[ine g4]at hE;rw[hE,ipo rfl];clear hE hR;refine acO Qs ?_;simp (disch:=omega) only[Gh,coC,zb,wdC,go_sem]
 repeat' first|(refine cA (c38 _) flk ?_;simp (disch:=omega) only[z3,z4,k2,k3,k0,k5,ew,k4,go_sem])
 refine⟨_,_,Wk.ownNil (j:=h.length+2) (i:=1) (k:=h.length+14) (v:=1) (ty:=160) (cs:= [.nilp,.nl]) (ve:=0) (sz:=1) ?m1 rfl ?m2,?_⟩
 case m1=>simp only[go_sem]
 case m2=>simp only[go_sem]
 simp (disch:=omega) only[List.set_cons_zero,List.set_cons_succ,go_sem];have hb1:w.text.length<=64:=htx.2;obtain⟨s1,hs1⟩: ∃s,s= []++ [w.text,[58,32]].flatten:=⟨_,rfl⟩
 have hl1:s1.length<=66:=by rw[hs1];simp;omega
 unfold qbi;rw[<-hs1];have hNl:(nmN x S).length<=1001∧ ∀s∈nmN x S,s.length<=1000:=by
  unfold nmN joN;split
  ·exact⟨by simp,λs hs=>by rw[List.mem_singleton.1 hs];simp⟩
  ·refine⟨by rw[List.length_map];omega,λs hs=> ?_⟩;obtain⟨y,_,rfl⟩:=List.mem_map.1 hs;exact hsl _
 have hNM0:nmN x S=if S= [] then [[110,111,32,115,111,117,114,99,101]] else joN x S:=rfl
 obtain⟨NM,hNM⟩: ∃N,N=nmN x S:=⟨_,rfl⟩
 rw[<-hNM]at hNl hNM0 ⊢;have hjn:=Dm [32] 1000 NM hNl.2;obtain⟨J,hJ⟩:=wg (Lib.join NM [32])
 have hJl:(Lib.join NM [32]).length<=1002001:=by
  have e:NM.length*(([32]:Str).length+1000)<=1001*1001:=Nat.mul_le_mul hNl.1 (nlr _);omega
 have hNl1:=hNl.1;have hJ2:J.length<=1002001:=by rw[hJ];exact hJl
 obtain⟨s2,hs2⟩: ∃s,s=s1++ [J,[59,32]].flatten:=⟨_,rfl⟩
 have hl2:s2.length<=1002100:=by rw[hs2];simp;omega
 rw[<-hJ,<-hs2];refine qS (xc (h.length+2) 1 (h.length+14) 0 (h.length+3) 1 .nilp [] [w.text,[58,32]] _ om om om (by simp only[go_sem];try rfl) (by simp only[go_sem];try rfl) (.inl rfl) (by simp only[go_sem];try rfl) (by simp) (by simp) (by simp;omega)) ?_;rw[<-hs1];simp (disch:=omega) only[wrO,go_sem];have y1: ∀g,valL g .len [qw S]= .int .i64 S.length:=λ_=>rfl
 have y2: ∀g,okL g .len [qw S]=True:=λ_=>eqt trivial
 repeat' first|(refine cA (c84 _) flk ?_;simp (disch:=omega) only[y1,y2,go_sem])
 obtain⟨O3,hO3⟩: ∃O:AObj,O=AObj.mem 1 9 (AV.str w.text::AV.str [58,32]::List.drop 1 (List.drop 1 (z6 [AV.str []] 2))):=⟨_,rfl⟩
 rw[<-hO3];have eM:z6 [AV.str []] 0=jF (joN x (S.take 0)):=rfl;rw[eM];have hjl0: ∀k,k<=S.length->(joN x (S.take k)).length=k:=λk hk=>by unfold joN;rw[List.length_map,List.length_take];omega
 have zS:qw S= .sl S.length λi=> [.int .i64 (S.getD i 0)]:=rfl
 have zG:strs x.sig= .sl x.sig.length λi=> [.str (x.sig.getD i [])]:=rfl
 refine qt (T:=λs:XZ=>zk 127 [(2,jT d),(5,.op h.length 1 0),(13,.op (h.length+1) 1 0),(14,.op (h.length+2) 1 0),(15,.fn (.func 114) [.op (h.length+2) 1 0] []),(16,.osl (h.length+4) s.v 1 0 s.i),(57,qw S),(58,.int .i64 S.length),(59,.int .i64 s.i)])
  (H:=λs=>h++ [.mem 1 26 [.str x.sec,strs x.sig,qm x.tok,qo x.col],.mem 1 36 [AV.str w.text,AV.int .i64 w.col,AV.int .i64 w.unit,AV.int .i64 w.dec,AV.bool w.joined,AV.bool w.verse,AV.str w.name],.mem 1 160 [.op (h.length+2) 1 0,.osl (h.length+14) 2 1 0 s1.length],O3,.mem s.v 9 (jF (joN x (S.take s.i))),s.O,.emp 0,.emp 0,.emp 0,.emp 0,.emp 0,.emp 0,.emp 0,.emp 0,xT 2 s1])
  (inv:=λs=>s.i<=S.length∧qK [s.O] 0=true) (m:=λs=>S.length-s.i) ⟨0,1,.emp 0⟩ ⟨nzl _,rfl⟩ (Wk.temps ?_) ?_
 ·(simp only[go_sem,qf,qc,qb,qe];try exact we)
 rintro⟨k,v,O⟩ ⟨q1,q2⟩ K hK;simp only at q1 q2 hK;have q2': ∀m,qK (O::m) 0=true:=λ_=>q2
 have hjk:=hjl0 k q1
 by_cases hk:k<S.length
 ·have r1:((k:Int)<S.length)=True:=wr;have r0:(0<=(k:Int))=True:=wr;have hmm:S.getD k 0∈S:=by rw[gdqA,zB hk];exact List.getElem_mem hk
  obtain⟨y1,y2⟩:=hSr _ hmm;have hst:joN x (S.take (k+1))=joN x (S.take k)++ [x.sig.getD (S.getD k 0).toNat []]:=by
   unfold joN;rw[List.take_add_one,List.map_append,zB hk,gdqA (l:=S),zB hk];rfl
  obtain⟨y,hy⟩: ∃y:Nat,S.getD k 0=(y:Int):=⟨(S.getD k 0).toNat,om⟩
  rw[hy,itn]at hst;rw[hy]at y1 y2;have t1:((y:Int)<x.sig.length)=True:=eqt y2;have t0:(0<=(y:Int))=True:=eqt y1;obtain⟨u,hu'⟩:=wg (x.sig.getD y [])
  have eu:=hu'.symm;rw[eu]at hst;obtain⟨M,hM⟩:=wg (joN x (S.take k))
  rw[<-hM]at hst hjk;rw[<-hM];have eC:=jG M;rw[hjk]at eC;have eT:List.take k (jF M)=jF M:=ltl om;simp (disch:=omega) only[zS,zG,r0,r1,hy,t0,t1,eu,q2',eC,eT,Nat.mul_one,go_sem]
  repeat' first|with_reducible apply aiA|exact clz|fail
  have eA:jF M++ [AV.str u]=jF (joN x (S.take (k+1))):=by rw[hst,fO];rfl
  have eD:(AV.str u::List.drop 1 (z6 [AV.str []] 1))= [AV.str u]:=rfl
  try rw[eD]
  rw[eA];refine hK _ _ ⟨k+1,v+1,.mem (qn (some O)+1) 9 [.str u]⟩ ⟨hk,rfl⟩ (by simp only;omega) (Wk.temps ?_)
  (simp only[zS,go_sem,qf,qc,qb,qe];try exact we)
 obtain rfl:k=S.length:=by omega
 clear hK;have r1:((S.length:Int)<S.length)=False:=wD;rw[List.take_length]at hjk ⊢
 by_cases h0:S= []
 ·have r2:((S.length:Int)=0)=True:=eqt (by rw[h0];rfl);rw[ipo h0]at hNM0;have hjz:joN x S= []:=by rw[h0];rfl
  have hSz:S.length=0:=by rw[h0];rfl
  rw[hjz,hSz];have eS0:jF ([]:List Str)= []:=rfl;rw[hSz]at r1 r2;have hNL:NM.length=1:=by rw[hNM0];rfl
  have eNM: [AV.str [110,111,32,115,111,117,114,99,101]]=jF NM:=by rw[hNM0];rfl
  simp (disch:=omega) only[r1,r2,eS0,Nat.mul_one,go_sem]
  repeat' first|with_reducible apply aiA|exact clz|fail
  try rw[eNM]
  refine cA (joB (L:=NM) (sep:= [32]) ?v1 om om) ?v2 ?v3
  case v2=>exact flk
  case v1=>
   simp only[List.map,go_sem]
   first
    |exact⟨Jb (λ_=>rfl) hNL.symm,qi,trivial⟩
    |(rw[ipo (by rw[jG];exact Nat.le_of_eq hNL.symm)];exact⟨bv _ (λ_=>rfl) hNL.symm,qi,trivial⟩)
  case v3=>
  rw[<-hJ];simp (disch:=omega) only[List.set_cons_zero,go_sem];unfold tlL
  by_cases u1:w.unit<0
  ·have e1:(w.unit<0)=True:=eqt u1;rw[ipo u1];refine qS (xc (h.length+2) 1 (h.length+14) 2 (h.length+9) 1 (.op (h.length+2) 1 0) s1 [J,[59,32]] _ om om om (by simp only[go_sem];try rfl) (by simp only[go_sem];try rfl) (.inr rfl) (by simp only[go_sem];try rfl) (by simp) (by simp) (by simp;omega)) ?_;rw[<-hs2];simp (disch:=omega) only[wrO,e1,go_sem];obtain⟨s3,hs3⟩: ∃s,s=s2++([[99,111,109,109,111,110]]:List Str).flatten:=⟨_,rfl⟩
   rw[<-hs3];refine qS (xc (h.length+2) 1 (h.length+14) 4 (h.length+10) 1 (.op (h.length+2) 1 0) s2 [[99,111,109,109,111,110]] _ om om om (by simp only[go_sem];try rfl) (by simp only[go_sem];try rfl) (.inr rfl) (by simp only[go_sem];try rfl) (by simp) (by simp) (by simp;omega)) ?_;rw[<-hs3];simp (disch:=omega) only[wrO,go_sem];refine qv (AD (h.length+2) 1 (h.length+14) 5 (.op (h.length+2) 1 0) s3 _ om (by simp only[go_sem];try rfl) (by simp only[go_sem];try rfl)) (by exact flk) ?_;simp (disch:=omega) only[go_sem]
   repeat' first|exact wa|fail
  have e1:(w.unit<0)=False:=eqf u1;rw[ine u1]
  by_cases u2:w.dec<0
  ·have e2:(w.dec<0)=True:=eqt u2;rw[ipo u2];refine qS (xc (h.length+2) 1 (h.length+14) 2 (h.length+9) 1 (.op (h.length+2) 1 0) s1 [J,[59,32]] _ om om om (by simp only[go_sem];try rfl) (by simp only[go_sem];try rfl) (.inr rfl) (by simp only[go_sem];try rfl) (by simp) (by simp) (by simp;omega)) ?_;rw[<-hs2];simp (disch:=omega) only[wrO,e1,e2,go_sem];obtain⟨s3,hs3⟩: ∃s,s=s2++([[108,101,97,100,105,110,103,32,115,111,117,114,99,101]]:List Str).flatten:=⟨_,rfl⟩
   rw[<-hs3];refine qS (xc (h.length+2) 1 (h.length+14) 4 (h.length+11) 1 (.op (h.length+2) 1 0) s2 [[108,101,97,100,105,110,103,32,115,111,117,114,99,101]] _ om om om (by simp only[go_sem];try rfl) (by simp only[go_sem];try rfl) (.inr rfl) (by simp only[go_sem];try rfl) (by simp) (by simp) (by simp;omega)) ?_;rw[<-hs3];simp (disch:=omega) only[wrO,go_sem];refine qv (AD (h.length+2) 1 (h.length+14) 5 (.op (h.length+2) 1 0) s3 _ om (by simp only[go_sem];try rfl) (by simp only[go_sem];try rfl)) (by exact flk) ?_;simp (disch:=omega) only[go_sem]
   repeat' first|exact wa|fail
  have e2:(w.dec<0)=False:=eqf u2;rw[ine u2];have hdc:w.dec<d.length:=by omega
  have c86:=λl'=>t48 w.dec (h++l') (SG.pow (hp.app l')) om om
  have hil:=dF (n:=w.dec) om om;obtain⟨I,hI⟩:=wg (Lib.itoa w.dec)
  rw[<-hI]at hil;simp only[<-hI]at c86 ⊢;have hsg:=hds w.dec.toNat;obtain⟨D,hD⟩:=wg (d.getD w.dec.toNat default)
  have eD:=hD.symm;rw[eD]at hsg ⊢;have zd:jT d= .sl d.length λi=>dcC (d.getD i default):=rfl
  have e3:(0<=w.dec)=True:=wr;have e4:(w.dec<d.length)=True:=eqt hdc
  by_cases u3:D.kind=1
  ·have e5:(D.kind=1)=True:=eqt u3;rw[ipo u3];refine qS (xc (h.length+2) 1 (h.length+14) 2 (h.length+9) 1 (.op (h.length+2) 1 0) s1 [J,[59,32]] _ om om om (by simp only[go_sem];try rfl) (by simp only[go_sem];try rfl) (.inr rfl) (by simp only[go_sem];try rfl) (by simp) (by simp) (by simp;omega)) ?_;rw[<-hs2];simp (disch:=omega) only[wrO,e1,e2,e3,e4,e5,zd,dcC,eD,go_sem]
   repeat' first|(refine cA (c86 _) flk ?_;simp (disch:=omega) only[e3,e4,eD,List.set_cons_zero,go_sem])
   obtain⟨s3,hs3⟩: ∃s,s=s2++([[100,101,99,105,115,105,111,110,32],I,[44,32,99,104,111,105,99,101,32,111,102,32],D.sig]:List Str).flatten:=⟨_,rfl⟩
   rw[<-hs3];refine qS (xc (h.length+2) 1 (h.length+14) 4 (h.length+12) 1 (.op (h.length+2) 1 0) s2 [[100,101,99,105,115,105,111,110,32],I,[44,32,99,104,111,105,99,101,32,111,102,32],D.sig] _ om om om (by simp only[go_sem];try rfl) (by simp only[go_sem];try rfl) (.inr rfl) (by simp only[go_sem];try rfl) (by simp) (by simp) (by simp;omega)) ?_;rw[<-hs3];simp (disch:=omega) only[wrO,go_sem];refine qv (AD (h.length+2) 1 (h.length+14) 8 (.op (h.length+2) 1 0) s3 _ om (by simp only[go_sem];try rfl) (by simp only[go_sem];try rfl)) (by exact flk) ?_;simp (disch:=omega) only[go_sem]
   repeat' first|exact wa|fail
  have e5:(D.kind=1)=False:=eqf u3;rw[ine u3];refine qS (xc (h.length+2) 1 (h.length+14) 2 (h.length+9) 1 (.op (h.length+2) 1 0) s1 [J,[59,32]] _ om om om (by simp only[go_sem];try rfl) (by simp only[go_sem];try rfl) (.inr rfl) (by simp only[go_sem];try rfl) (by simp) (by simp) (by simp;omega)) ?_;rw[<-hs2];simp (disch:=omega) only[wrO,e1,e2,e3,e4,e5,zd,dcC,eD,go_sem]
  repeat' first|(refine cA (c86 _) flk ?_;simp (disch:=omega) only[List.set_cons_zero,go_sem])
  obtain⟨s3,hs3⟩: ∃s,s=s2++([[100,101,99,105,115,105,111,110,32],I,[44,32,99,111,110,106,101,99,116,117,114,101]]:List Str).flatten:=⟨_,rfl⟩
  rw[<-hs3];refine qS (xc (h.length+2) 1 (h.length+14) 4 (h.length+13) 1 (.op (h.length+2) 1 0) s2 [[100,101,99,105,115,105,111,110,32],I,[44,32,99,111,110,106,101,99,116,117,114,101]] _ om om om (by simp only[go_sem];try rfl) (by simp only[go_sem];try rfl) (.inr rfl) (by simp only[go_sem];try rfl) (by simp) (by simp) (by simp;omega)) ?_;rw[<-hs3];simp (disch:=omega) only[wrO,go_sem];refine qv (AD (h.length+2) 1 (h.length+14) 7 (.op (h.length+2) 1 0) s3 _ om (by simp only[go_sem];try rfl) (by simp only[go_sem];try rfl)) (by exact flk) ?_;simp (disch:=omega) only[go_sem]
  repeat' first|exact wa|fail
 ·have r2:((S.length:Int)=0)=False:=eqf (λhc=>h0 (List.length_eq_zero_iff.1 om));rw[ine h0]at hNM0;have hNL:NM.length=S.length:=by rw[hNM0];exact hjk
  rw[<-hNM0];simp (disch:=omega) only[r1,r2,go_sem];refine cA (joB (L:=NM) (sep:= [32]) ?v1 om om) ?v2 ?v3
  case v2=>exact flk
  case v1=>
   simp only[List.map,go_sem]
   first
    |exact⟨Jb (λ_=>rfl) hNL.symm,qi,trivial⟩
    |(rw[ipo (by rw[jG];exact Nat.le_of_eq hNL.symm)];exact⟨bv _ (λ_=>rfl) hNL.symm,qi,trivial⟩)
  case v3=>
  rw[<-hJ];simp (disch:=omega) only[List.set_cons_zero,go_sem];unfold tlL
  by_cases u1:w.unit<0
  ·have e1:(w.unit<0)=True:=eqt u1;rw[ipo u1];refine qS (xc (h.length+2) 1 (h.length+14) 2 (h.length+9) 1 (.op (h.length+2) 1 0) s1 [J,[59,32]] _ om om om (by simp only[go_sem];try rfl) (by simp only[go_sem];try rfl) (.inr rfl) (by simp only[go_sem];try rfl) (by simp) (by simp) (by simp;omega)) ?_;rw[<-hs2];simp (disch:=omega) only[wrO,e1,go_sem];obtain⟨s3,hs3⟩: ∃s,s=s2++([[99,111,109,109,111,110]]:List Str).flatten:=⟨_,rfl⟩
   rw[<-hs3];refine qS (xc (h.length+2) 1 (h.length+14) 4 (h.length+10) 1 (.op (h.length+2) 1 0) s2 [[99,111,109,109,111,110]] _ om om om (by simp only[go_sem];try rfl) (by simp only[go_sem];try rfl) (.inr rfl) (by simp only[go_sem];try rfl) (by simp) (by simp) (by simp;omega)) ?_;rw[<-hs3];simp (disch:=omega) only[wrO,go_sem];refine qv (AD (h.length+2) 1 (h.length+14) 5 (.op (h.length+2) 1 0) s3 _ om (by simp only[go_sem];try rfl) (by simp only[go_sem];try rfl)) (by exact flk) ?_;simp (disch:=omega) only[go_sem]
   repeat' first|exact wa|fail
  have e1:(w.unit<0)=False:=eqf u1;rw[ine u1]
  by_cases u2:w.dec<0
  ·have e2:(w.dec<0)=True:=eqt u2;rw[ipo u2];refine qS (xc (h.length+2) 1 (h.length+14) 2 (h.length+9) 1 (.op (h.length+2) 1 0) s1 [J,[59,32]] _ om om om (by simp only[go_sem];try rfl) (by simp only[go_sem];try rfl) (.inr rfl) (by simp only[go_sem];try rfl) (by simp) (by simp) (by simp;omega)) ?_;rw[<-hs2];simp (disch:=omega) only[wrO,e1,e2,go_sem];obtain⟨s3,hs3⟩: ∃s,s=s2++([[108,101,97,100,105,110,103,32,115,111,117,114,99,101]]:List Str).flatten:=⟨_,rfl⟩
   rw[<-hs3];refine qS (xc (h.length+2) 1 (h.length+14) 4 (h.length+11) 1 (.op (h.length+2) 1 0) s2 [[108,101,97,100,105,110,103,32,115,111,117,114,99,101]] _ om om om (by simp only[go_sem];try rfl) (by simp only[go_sem];try rfl) (.inr rfl) (by simp only[go_sem];try rfl) (by simp) (by simp) (by simp;omega)) ?_;rw[<-hs3];simp (disch:=omega) only[wrO,go_sem];refine qv (AD (h.length+2) 1 (h.length+14) 5 (.op (h.length+2) 1 0) s3 _ om (by simp only[go_sem];try rfl) (by simp only[go_sem];try rfl)) (by exact flk) ?_;simp (disch:=omega) only[go_sem]
   repeat' first|exact wa|fail
  have e2:(w.dec<0)=False:=eqf u2;rw[ine u2];have hdc:w.dec<d.length:=by omega
  have c86:=λl'=>t48 w.dec (h++l') (SG.pow (hp.app l')) om om
  have hil:=dF (n:=w.dec) om om;obtain⟨I,hI⟩:=wg (Lib.itoa w.dec)
  rw[<-hI]at hil;simp only[<-hI]at c86 ⊢;have hsg:=hds w.dec.toNat;obtain⟨D,hD⟩:=wg (d.getD w.dec.toNat default)
  have eD:=hD.symm;rw[eD]at hsg ⊢;have zd:jT d= .sl d.length λi=>dcC (d.getD i default):=rfl
  have e3:(0<=w.dec)=True:=wr;have e4:(w.dec<d.length)=True:=eqt hdc
  by_cases u3:D.kind=1
  ·have e5:(D.kind=1)=True:=eqt u3;rw[ipo u3];refine qS (xc (h.length+2) 1 (h.length+14) 2 (h.length+9) 1 (.op (h.length+2) 1 0) s1 [J,[59,32]] _ om om om (by simp only[go_sem];try rfl) (by simp only[go_sem];try rfl) (.inr rfl) (by simp only[go_sem];try rfl) (by simp) (by simp) (by simp;omega)) ?_;rw[<-hs2];simp (disch:=omega) only[wrO,e1,e2,e3,e4,e5,zd,dcC,eD,go_sem]
   repeat' first|(refine cA (c86 _) flk ?_;simp (disch:=omega) only[e3,e4,eD,List.set_cons_zero,go_sem])
   obtain⟨s3,hs3⟩: ∃s,s=s2++([[100,101,99,105,115,105,111,110,32],I,[44,32,99,104,111,105,99,101,32,111,102,32],D.sig]:List Str).flatten:=⟨_,rfl⟩
   rw[<-hs3];refine qS (xc (h.length+2) 1 (h.length+14) 4 (h.length+12) 1 (.op (h.length+2) 1 0) s2 [[100,101,99,105,115,105,111,110,32],I,[44,32,99,104,111,105,99,101,32,111,102,32],D.sig] _ om om om (by simp only[go_sem];try rfl) (by simp only[go_sem];try rfl) (.inr rfl) (by simp only[go_sem];try rfl) (by simp) (by simp) (by simp;omega)) ?_;rw[<-hs3];simp (disch:=omega) only[wrO,go_sem];refine qv (AD (h.length+2) 1 (h.length+14) 8 (.op (h.length+2) 1 0) s3 _ om (by simp only[go_sem];try rfl) (by simp only[go_sem];try rfl)) (by exact flk) ?_;simp (disch:=omega) only[go_sem]
   repeat' first|exact wa|fail
  have e5:(D.kind=1)=False:=eqf u3;rw[ine u3];refine qS (xc (h.length+2) 1 (h.length+14) 2 (h.length+9) 1 (.op (h.length+2) 1 0) s1 [J,[59,32]] _ om om om (by simp only[go_sem];try rfl) (by simp only[go_sem];try rfl) (.inr rfl) (by simp only[go_sem];try rfl) (by simp) (by simp) (by simp;omega)) ?_;rw[<-hs2];simp (disch:=omega) only[wrO,e1,e2,e3,e4,e5,zd,dcC,eD,go_sem]
  repeat' first|(refine cA (c86 _) flk ?_;simp (disch:=omega) only[List.set_cons_zero,go_sem])
  obtain⟨s3,hs3⟩: ∃s,s=s2++([[100,101,99,105,115,105,111,110,32],I,[44,32,99,111,110,106,101,99,116,117,114,101]]:List Str).flatten:=⟨_,rfl⟩
  rw[<-hs3];refine qS (xc (h.length+2) 1 (h.length+14) 4 (h.length+13) 1 (.op (h.length+2) 1 0) s2 [[100,101,99,105,115,105,111,110,32],I,[44,32,99,111,110,106,101,99,116,117,114,101]] _ om om om (by simp only[go_sem];try rfl) (by simp only[go_sem];try rfl) (.inr rfl) (by simp only[go_sem];try rfl) (by simp) (by simp) (by simp;omega)) ?_;rw[<-hs3];simp (disch:=omega) only[wrO,go_sem];refine qv (AD (h.length+2) 1 (h.length+14) 7 (.op (h.length+2) 1 0) s3 _ om (by simp only[go_sem];try rfl) (by simp only[go_sem];try rfl)) (by exact flk) ?_;simp (disch:=omega) only[go_sem]
  repeat' first|exact wa|fail
def XA:Str:= [101,114,97,116]
def yC:Co:=⟨[73],[[65],[66]],[[tkS mI,tkS qas],[tkS mI,tkS XA]],[[0,0],[1,1]]⟩
def yL:List Un:= [⟨1,2,[⟨[qas],[0]⟩,⟨[XA],[1]⟩]⟩]
def yD:List Dc:= [⟨1,[66],1,[]⟩]
def yB:List Wd:= [⟨mI,0,-1,-1,false,false,[]⟩,⟨XA,1,0,0,false,false,[]⟩]
theorem qdk:soE yC yL yB 1=0∧soL yC yL yB 1= [1]:=by decide+kernel
theorem qdl:exE yC yL yD yB 0=0∧exR yC yL yD yB 0= [100,101,117,115,58,32,65,32,66,59,32,99,111,109,109,111,110]:=by decide+kernel
theorem qdm:exE yC yL yD yB 1=0∧exR yC yL yD yB 1= [101,114,97,116,58,32,66,59,32,100,101,99,105,115,105,111,110,32,48,44,32,99,104,111,105,99,101,32,111,102,32,66]:=by decide+kernel
theorem qcc(s:Str)(h:wh):ACalls Tryz.prog 156 [.str s] h (.agg (tkC (tkS s))) h:=by
 unfold tkS tkC;refine acO Lh ?_;simp (disch:=omega) only[Hk,go_sem]
 repeat' first|exact wa|fail
theorem qdM(h:wh):ACalls Tryz.prog 111 [] h (.tup [.agg (coC yC),zH yL,jT yD,jl yB]) h:=by
 have c1:=λs h=>qcc s h
 unfold tkS tkC at c1;refine acO IS ?_;simp (disch:=omega) only[GV,go_sem]
 repeat' first|(refine qI (c1 mI _) ?_;simp (disch:=omega) only[go_sem])|(refine qI (c1 qas _) ?_;simp (disch:=omega) only[go_sem])|(refine qI (c1 XA _) ?_;simp (disch:=omega) only[go_sem])|(apply qa;exact rvk;simp only[go_sem])
 refine bA ⟨VLe.agg ⟨qi,vl2 ⟨ie rfl,trivial⟩ ⟨ie rfl,trivial⟩,vl2 ⟨?a1,trivial⟩ ⟨?a2,trivial⟩,vl2 ⟨?a3,trivial⟩ ⟨?a4,trivial⟩,trivial⟩,vl1 ⟨ie rfl,ie rfl,?b1,trivial⟩,vl1 ⟨ie rfl,ie rfl,ie rfl,ie rfl,trivial⟩,
  vl2 ⟨ie rfl,ie rfl,ie rfl,ie rfl,ie rfl,ie rfl,ie rfl,trivial⟩ ⟨ie rfl,ie rfl,ie rfl,ie rfl,ie rfl,ie rfl,ie rfl,trivial⟩,trivial⟩
 case a1=>simp only[go_sem];exact il2 rfl rfl
 case a2=>simp only[go_sem];exact il2 rfl rfl
 case a3=>simp only[go_sem];exact il2 rfl rfl
 case a4=>simp only[go_sem];exact il2 rfl rfl
 case b1=>
  simp only[go_sem];refine im2 ⟨?u1,?u2,trivial⟩ ⟨?u3,?u4,trivial⟩
  all_goals
   simp only[go_sem];exact il1 rfl
def gWb(b:List Wd)(i:Nat):Bool:=decide (66<(b.getD i default).text.length)||decide (20<(b.getD i default).name.length)
def qc6(b:List Wd):Bool:=jB (gWb b) b.length||decide (12<b.length)
def qbD(x:Co)(l:List Un)(b:List Wd):Bool:=Y9 x||(qbC l||qc6 b)
theorem Nq{x:Co}{l:List Un}{b:List Wd}(h:qbD x l b=false):aP x∧cC l∧b.length<=12∧(∀i,(b.getD i default).text.length<=66)∧x.sig.length<=36:=by
 unfold qbD qc6 at h;simp only[Bool.or_eq_false_iff,decide_eq_false_iff_not]at h;obtain⟨h1,h2,h3,h4⟩:=h;obtain⟨o1,_,o3⟩:=Qx h1;obtain⟨u1,_⟩:=Np h2;refine⟨o1,u1,om,?_,o3⟩;refine ja b (λw=>w.text.length<=66) (by decide) λi hi=> ?_
 have:=qu.1 h3 i hi
 unfold gWb at this;rw[Bool.or_eq_false_iff]at this
 have:=of_decide_eq_false this.1
 omega
theorem qeX:qbD yC yL yB=false:=by decide+kernel
theorem AX(h:wh)(hp:kS SG h):ACalls Tryz.prog 56 [] h (.bool true) h:=by
 have c1:=λh=>qdM h
 obtain⟨o1,o2,o3,o4,o5⟩:=Nq qeX;have o4': ∀i,(yB.getD i default).text.length<=1000000000:=λi=>by have:=o4 i;omega
 have ysg: ∀s,(yC.sig.getD s []).length<=1000:=ja yC.sig (λs=>s.length<=1000) (by decide) (by decide);have yds: ∀j,(yD.getD j default).sig.length<=1000000:=ja yD (λd=>d.sig.length<=1000000) (by decide) (by decide);have c2:=λl'=>Ju yC yL yB 1 (h++l') o1 o2 om o4' om (hp.app l')
 have c3:=λl'=>YL yC yL yD yB 0 (h++l') o1 o2 om o4' om ysg (by decide) yds (hp.app l')
 have c4:=λl'=>YL yC yL yD yB 1 (h++l') o1 o2 om o4' om ysg (by decide) yds (hp.app l')
 rw[qdk.1,qdk.2]at c2;rw[qdl.1,qdl.2]at c3;rw[qdm.1,qdm.2]at c4;have c5:=λh=>qc2 [1] [1] h (by decide) (by decide)
 rw[dqt rfl]at c5;unfold coC at c1 c2 c3 c4;refine acO qbq ?_;simp (disch:=omega) only[qcR,go_sem]
 repeat' first|((first|refine cA (c1 _) ?_ ?_|refine cA (c2 _) ?_ ?_|refine cA (c3 _) ?_ ?_|refine cA (c4 _) ?_ ?_);exact flk;simp (disch:=omega) only[go_sem])|with_reducible apply aiA|exact clz|fail
 refine cG (λ_=>qdG (L:= [1]) ?v1 (by decide)) ?v2 ?v3
 case v2=>exact flk
 case v1=>
  simp only[List.map,go_sem];exact⟨qi,VLe.sl_eq rfl (λi hi=>by
   obtain rfl:i=0:=by omega
   rfl),trivial⟩
 case v3=>
 simp (disch:=omega) only[go_sem]
 repeat' first|exact wa|fail
end RC
end
section
open Go Go.Proofs AF
end
section
open Go Go.Proofs AF HY LN
namespace RC
structure Cq where
 x:Co
 l:List Un
 d:List Dc
 lead:Int
structure CqB (a:Cq):Prop where
 x:CoB a.x
 l:UnB a.l
 d:a.d.length<=9223372036854775807
structure CqS (a:Cq):Prop where
 x:aP a.x
 l:cC a.l
 cl:a.x.col.length<=24
 sl:a.x.sig.length<=36
 ll:a.l.length<=12
 d:a.d.length<=6
 g: ∀j,(a.d.getD j default).sig.length<=30
 t: ∀o∈a.d,o.txt.length<=30
theorem qa2(h:wh):ACalls Tryz.prog 82 [.nl] h .nl h:=by
 refine acO CL ?_;simp (disch:=omega) only[qao,go_sem]
 repeat' first|exact wa|fail
theorem qep(a:Int)(h:wh):ACalls Tryz.prog 79 [qw [a],.int .i64 0] h (qw []) h:=by
 have s1:=λh=>bu h [a]
 have c1:=λh=>qda 0 h om
 have z1: ∀g,valL g .len [qw [a]]= .int .i64 1:=λ_=>rfl
 have z2: ∀g,okL g .len [qw [a]]=True:=λ_=>eqt trivial
 have e5:IntKind.u64.wrap 1=1:=by decide
 have e6:IntKind.u64.wrap 0=0:=by decide
 rw[show ((0:Nat):Int)=0 from rfl]at c1;refine acO Na ?_;simp (disch:=omega) only[qaT,z1,z2,e5,e6,go_sem]
 repeat' first|(refine cA (c1 _) flk ?_;simp (disch:=omega) only[s1,go_sem])|(with_reducible first|intro _|apply aiA)|exact clz|fail
 ·rfl
 refine qt (T:=λ_:Unit=>zk 48 [(7,.osl (h.length+1) 1 1 0 0),(8,.int .i64 0)]) (H:=λ_=>h++ [.emp 1,.mem 1 3 []])
  (inv:=λ_=>True) (m:=λ_=>0) () trivial (Wk.temps ?_) ?_
 ·(simp only[go_sem,qf,qc,qb,qe];try exact we)
 rintro⟨⟩-K hK;have q1:((0:Int)<0)=False:=wD;simp (disch:=omega) only[go_sem]
 repeat' first|(apply qa;exact rvk;simp only[go_sem])|(with_reducible first|intro _|apply aiA)|exact clz|fail
 exact VLe.sl_eq rfl (λi hi=>absurd hi (nnz _))
theorem Ov{hh:wh}{j v:Nat}(a:Int)(cs:wi)(hj:qr j hh=some (.mem v 3 (.int .i64 a::cs))):
  ACalls Tryz.prog 79 [.osl j v 1 0 1,.int .i64 0] hh (qw []) (qq j hh (.emp (v+1))):=by
 have hs:qK hh j=true:=by unfold qK;rw[hj]
 have e1:cQ [j] hh=qq j hh (.emp (v+1)):=by show qq j hh (.emp (qn (qr j hh)+1))=_;rw[hj];rfl
 refine ACalls.frzd [j] (by show (qK hh j&&true)=true;rw[hs];rfl) ?_;rw[e1];refine (qep a _).le ⟨?_,qi,trivial⟩ (qi);have hc:=qJ hj;have e: [j].contains j=true:=by simp
 simp only[go_sem,e,if_true,hc];rw[hj,slOf_mem,ipo ⟨rfl,by simp⟩];refine VLe.sl_eq rfl (λi hi=> ?_);obtain rfl:i=0:=by omega
 rfl
theorem qbg(x:Co)(d:List Dc)(s:Int)(h:wh)(hz:aP x)(hp:kS SG h)(hg:jf h frmN frmC)(hd:d.length<=1000000)(ht: ∀o∈d,o.txt.length<=1000)(hN0:vaE x []=0->(rwA x [] d s.toNat).length<=1000000000):
  ACalls Tryz.prog 25 [.agg (coC x),.nl,jT d,.int .i64 s] h (.tup [jl (esR x [] d s),.int .i64 (esE x [] d s)]) h:=by
 have hu:cC []:=⟨by simp,λi=>by simp;exact nzl _,λi j=>by simp;exact nzl _,λi j=>by simp;exact nzl _⟩
 have c1:=λl'=>(Bz x [] (h++l') hz hu (hp.app l')).le (args:= [.agg (coC x),.nl]) ⟨qi,zh,trivial⟩ (qi)
 have zu: ∀g l,valL g .len [zH l]= .int .i64 l.length:=λ_ _=>rfl
 have zv: ∀g l,okL g .len [zH l]=True:=λ_ _=>eqt trivial
 have zu1: ∀g l,valL g .len [strs l]= .int .i64 l.length:=λ_ _=>rfl
 have zv1: ∀g l,okL g .len [strs l]=True:=λ_ _=>eqt trivial
 have hE:esE x [] d s=(if vaE x []≠0 then vaE x [] else if s<0∨(x.sig.length:Int)<=s then 2 else if ae x [] d≠0 then ae x [] d else if 1024<(rwA x [] d s.toNat).length then 4 else 0):=rfl;unfold esR
 by_cases g:vaE x []=0
 case neg=>
  have k1:(vaE x []=0)=False:=eqf g;rw[ipo g]at hE;rw[hE,ine g];unfold coC at c1;refine acO xU ?_;simp (disch:=omega) only[lK,coC,go_sem]
  repeat' first|(refine cA (c1 _) flk ?_;simp (disch:=omega) only[k1,go_sem])|(apply qa;exact rvk;simp only[go_sem])
  exact VLe.tup ⟨zh,qi,trivial⟩
 rw[ine (by simpa using g)]at hE;have hN:=hN0 g;simp only[g]at c1;obtain⟨hca,hus,hcv⟩:=lE g;have ho:=wX hca
 by_cases g2:s<0
 ·have k2:(s<0)=True:=eqt g2;rw[ipo (.inl g2)]at hE;rw[hE,ine (by decide)];unfold coC at c1;refine acO xU ?_;simp (disch:=omega) only[lK,coC,go_sem]
  repeat' first|(refine cA (c1 _) flk ?_;simp (disch:=omega) only[k2,go_sem])|(apply qa;exact rvk;simp only[go_sem])
  exact VLe.tup ⟨zh,qi,trivial⟩
 have k2:(s<0)=False:=eqf g2
 by_cases g3:(x.sig.length:Int)<=s
 ·have k3:((x.sig.length:Int)<=s)=True:=eqt g3;rw[ipo (.inr g3)]at hE;rw[hE,ine (by decide)];unfold coC at c1;refine acO xU ?_;simp (disch:=omega) only[lK,coC,go_sem]
  repeat' first|(refine cA (c1 _) flk ?_;simp (disch:=omega) only[k2,k3,zu1,zv1,go_sem])|(apply qa;exact rvk;simp only[go_sem])
  exact VLe.tup ⟨zh,qi,trivial⟩
 have k3:((x.sig.length:Int)<=s)=False:=eqf g3;rw[ine (λe=>e.elim g2 g3)]at hE;have c2:=λl'=>(qb0 x [] d (h++l') hz hu (hp.app l') hg.app hca hd ht).le (args:= [.agg (coC x),.nl,jT d]) ⟨qi,zh,qi,trivial⟩ (qi)
 unfold N9 at c2
 by_cases g4:ae x [] d=0
 case neg=>
  have k4:(ae x [] d=0)=False:=eqf g4;simp only[ine g4]at c2;rw[ipo g4]at hE;rw[hE,ine g4];unfold coC at c1 c2;refine acO xU ?_;simp (disch:=omega) only[lK,coC,go_sem]
  repeat' first|((first|refine cA (c1 _) ?_ ?_|refine cA (c2 _) ?_ ?_);exact flk;simp (disch:=omega) only[k2,k3,k4,zu1,zv1,go_sem])|(apply qa;exact rvk;simp only[go_sem])|with_reducible apply aiA|exact clz|fail
  exact VLe.tup ⟨zh,qi,trivial⟩
 rw[ine (by simpa using g4)]at hE;simp only[g4,if_true]at c2;rw[hE];unfold coC at c1 c2;refine acO xU ?_;simp (disch:=omega) only[lK,coC,go_sem]
 repeat' first|((first|refine cA (c1 _) ?_ ?_|refine cA (c2 _) ?_ ?_);exact flk;simp (disch:=omega) only[k2,k3,zu1,zv1,go_sem])|with_reducible apply aiA|exact clz|fail
 have hd0:d= []:=by
  cases d with
  |nil=>rfl
  |cons o r=>
   exfalso
   have:=g4
   unfold ae at this;split at this
   ·cases this
   ·have h0:=jJ.1 this 0 (by simp);have h1:=(aa h0).2.2.2.2.1;have h2:wO x [] ((o::r).getD 0 default)= -1:=rfl;omega
 subst hd0;have zi: ∀g l,valL g .len [qw l]= .int .i64 l.length:=λ_ _=>rfl
 have zj: ∀g l,okL g .len [qw l]=True:=λ_ _=>eqt trivial
 have ePL:(plG x [] [] ([]:List Dc).length).length=0:=rfl;refine qv (Ov (j:=h.length+2) (-1) (List.drop 1 (z6 [.int .i64 0] 1)) ?j1) (by exact flk) ?_
 case j1=>simp only[go_sem]
 simp (disch:=omega) only[zi,zj,go_sem];refine qt (T:=λ_:Unit=>zk 154 [(1,.nl),(3,.int .i64 s),(4,.op h.length 1 0),(13,qw []),(56,.int .i64 0),(57,.int .i64 0)])
  (H:=λ_=>h++ [.mem 1 26 [.str x.sec,strs x.sig,qm x.tok,qo x.col],.emp 1,.emp 2,.emp 0,.emp 0,.emp 0,.emp 0,.emp 0,.emp 0,.emp 0,.emp 0,.emp 0,.emp 0,.emp 0,.emp 0,.emp 0])
  (inv:=λ_=>True) (m:=λ_=>0) () trivial (Wk.temps ?_) ?_
 ·(simp only[go_sem,qf,qc,qb,qe];try exact we)
 rintro⟨⟩-K hK;have q1:((0:Int)<0)=False:=wD;simp (disch:=omega) only[q1,go_sem];refine⟨_,_,Wk.ownNil (j:=h.length+3) (i:=0) (k:=h.length+15) (v:=1) (ty:=29) (cs:= [.nl]) (ve:=0) (sz:=7) ?m1 rfl ?m2,?_⟩
 case m1=>simp only[go_sem]
 case m2=>simp only[go_sem]
 simp (disch:=omega) only[List.set_cons_zero,go_sem];have bne5:(h.length+6 !=h.length+5)=true:=by simp
 have zc: ∀g l,valL g .len [qo l]= .int .i64 l.length:=λ_ _=>rfl
 have zd: ∀g l,okL g .len [qo l]=True:=λ_ _=>eqt trivial
 refine ke ?T ?H ?h1 ?h2
 case h1=>
  simp (disch:=omega) only[zc,zd,go_sem]
  repeat' first|(with_reducible apply aiA)|(refine qv (qa2 _) (by exact flk) ?_;simp (disch:=omega) only[zc,zd,go_sem])
  all_goals first
   |omega
   |rfl
   |exact bne5
 case h2=>
 simp (disch:=omega) only[go_sem];obtain⟨S,hS⟩: ∃S:Nat,s=S:=⟨s.toNat,om⟩
 subst hS;rw[itn]at hN ⊢;have hSl:S<x.sig.length:=by omega
 obtain⟨MC,hMC⟩:=wg ( [AV.int .i64 x.col.length,.int .i64 x.col.length,.nl])
 rw[<-hMC];obtain⟨O5,hO5⟩:=wg (AObj.mem 1 64 (AV.int .i64 x.col.length:: .int .i64 x.col.length:: .nl::List.drop 3 (z6 [.int .i64 0,.int .i64 0,.nl] 1)))
 rw[<-hO5];obtain⟨X0,hX0⟩:=wg (AObj.mem 1 26 [.str x.sec,strs x.sig,qm x.tok,qo x.col])
 have lX0: ∀n,lowO n X0:=by
  intro n;rw[hX0];intro c hc;simp at hc;rcases hc with rfl|rfl|rfl|rfl<;>rfl
 refine qt (T:=λi:EsS=>zk 154 [(1,.nl),(3,.int .i64 (S:Int)),(4,.op h.length 1 0),(13,qw []),(16,.op (h.length+3) 1 0),(17,.op (h.length+4) 1 0),(18,.int .i64 (nxT x [] i.k:Int)),(78,.osl (h.length+6) 1 3 0 1),(79,.int .i64 1),(80,.int .i64 i.k)])
  (H:=λi=>h++ [.mem 1 26 [.str x.sec,strs x.sig,qm x.tok,qo x.col],.emp 1,.emp 2,.mem 1 29 [.osl (h.length+15) i.vb 7 0 (rwK x [] [] S i.k).length],.mem 1 121 [.fn (.func 80) [] [.op (h.length+3) 1 0]],O5,.mem 1 64 MC,i.O7,i.O8,i.O9,i.O10,i.O11,i.O12,.emp 0,.emp 0,zz i.vb 36 (jL (bsW (rwK x [] [] S i.k)))])
  (inv:=λi=>i.k<=1∧ ∀O∈ [i.O7,i.O8,i.O9,i.O10,i.O11,i.O12],qK [O] 0=true∧ ∀n,lowO n O) (m:=λi=>1-i.k) ⟨0,0,.emp 0,.emp 0,.emp 0,.emp 0,.emp 0,.emp 0⟩ ⟨nzl _,λO hO=>by
   simp at hO;subst hO;exact⟨rfl,λ_=>trivial⟩⟩ (Wk.temps ?_) ?_
 ·(simp only[go_sem,qf,qc,qb,qe];try (repeat' first|(with_reducible apply aiA)|(apply qg;omega)|(apply qd;rfl)|exact qi))
  done
 rintro⟨k,vb,O7,O8,O9,O10,O11,O12⟩ ⟨i1,i2⟩ K hK;simp only at i1 i2 hK;obtain⟨s7,l7⟩:=i2 O7 (by simp);obtain⟨s8,l8⟩:=i2 O8 (by simp);obtain⟨s9,l9⟩:=i2 O9 (by simp);obtain⟨s10,l10⟩:=i2 O10 (by simp);obtain⟨s11,l11⟩:=i2 O11 (by simp);obtain⟨s12,l12⟩:=i2 O12 (by simp);have s7': ∀m,qK (O7::m) 0=true:=λ_=>s7
 have s8': ∀m,qK (O8::m) 0=true:=λ_=>s8
 by_cases hk:k<=0
 case neg=>
  have q1:((k:Int)<(1:Int))=False:=wD;have eR:rwK x [] [] S k=rwA x [] [] S:=by unfold rwK;rw[lnl,ine hk]
  rw[eR]
  by_cases g5:1024<(rwA x [] [] S).length
  ·have q5:((1024:Int)<(rwA x [] [] S).length)=True:=wr;simp only[ipo g5];simp (disch:=omega) only[q1,q5,go_sem]
   repeat' first|(apply qa;exact rvk;simp only[go_sem])|with_reducible apply aiA|exact clz|fail
   exact VLe.tup ⟨zh,qi,trivial⟩
  ·have q5:((1024:Int)<(rwA x [] [] S).length)=False:=wD;simp only[ine g5];simp (disch:=omega) only[q1,q5,go_sem]
   repeat' first|(apply qa;exact rvk;simp only[go_sem])|with_reducible apply aiA|exact clz|fail
   exact VLe.tup ⟨fJ (jH _).symm,qi,trivial⟩
 have q1:((k:Int)<(1:Int))=True:=wr;have q2:(0<=(k:Int))=True:=wr;have hk0:k=0:=by omega
 have hMl:MC.length=3:=by rw[hMC];rfl
 have q3:(k*3+3<=MC.length)=True:=wr;have eR:rwK x [] [] S k=rwL x [] [] S k:=by unfold rwK;rw[lnl,ipo hk]
 have eN:nxT x [] k=jc [] k:=by unfold nxT;rw[lnl,ipo hk]
 rw[eR,eN];obtain⟨f,hf⟩:=wg x.col.length
 obtain⟨t',ht'⟩:=wg x.col.length
 obtain⟨RV,hRV⟩:=wg AV.nl
 have eM:List.take 3 (List.drop (k*3) MC)= [.int .i64 (f:Int),.int .i64 (t':Int),RV]:=by rw[hk0,hMC,hf,ht',hRV];rfl
 have a5:jc [] k<=f:=by rw[hk0];exact nzl _
 have a6:f<=x.col.length:=by omega
 have lRV: ∀n,qZ n RV=true:=λn=>by rw[hRV];rfl
 have c3:=λh=>OS x (jc [] k) f S h
 have hit:=itS x S (jc [] k) f hz ho hSl a6 a5;have hpF:=xd ho hSl (f:=jc [] k) (d:=f-jc [] k) om;obtain⟨ps,hps⟩:=wg (spk x S (jc [] k) (f-jc [] k))
 have hxl:(spX x S (jc [] k) (f-jc [] k))=ps.map λp=> [.agg (pcC p)]:=by unfold spX;rw[hps]
 rw[hxl]at hit;rw[<-hps]at hpF;unfold coC at c3 hit;simp (disch:=omega) only[q1,q2,q3,eM,s7',s8',go_sem]
 repeat' first|(refine cA (c3 _) flk ?_;simp (disch:=omega) only[go_sem])|with_reducible apply aiA|exact clz|fail
 obtain⟨L0,hL0⟩:=wg (rwL x [] [] S k)
 have hLF: ∀r∈L0,PcF r.p:=by rw[hL0];exact mz ho hus hSl (λi hi=>absurd hi (by simp)) hk
 have hLn:(L0++rwM ps (-1) (-1)).length<=1000000000:=by
  refine Nat.le_trans ?_ hN;rw[hL0,hps,hf,hk0];exact nlr _
 rw[<-hL0];obtain⟨P7,hP7⟩:=wg (AObj.mem (qn (some O7)+1) 3 [.int .i64 (k:Int)])
 obtain⟨P8,hP8⟩:=wg (AObj.mem (qn (some O8)+1) 64 [.int .i64 (f:Int),.int .i64 (t':Int),RV])
 have hP7l:qK [P7] 0=true∧ ∀n,lowO n P7:=by
  rw[hP7];refine⟨rfl,λn c hc=> ?_⟩;rw[List.mem_singleton]at hc;subst hc;rfl
 have hP8l:qK [P8] 0=true∧ ∀n,lowO n P8:=by
  rw[hP8];refine⟨rfl,λn c hc=> ?_⟩;simp only[List.mem_cons,List.not_mem_nil,or_false]at hc;rcases hc with rfl|rfl|rfl
  ·rfl
  ·rfl
  ·exact lRV n
 have cP7: ∀m,cellsOf (P7::m) 0 (qn (some O7)+1)=some [.int .i64 (k:Int)]:=λm=>by rw[hP7];simp only[go_sem]
 rw[<-hP7,<-hP8];have lP: ∀L:List Rw,∀v n,lowO n (zz v 36 (jL (bsW L))):=λL v n=>jx (bz _ n)
 have hLow: ∀(L M:List Rw) (v w:Nat) O A,(∀n,lowO n A)->LowI (h++ [.mem 1 26 [.str x.sec,strs x.sig,qm x.tok,qo x.col],.emp 1,.emp 2,.mem 1 29 [.osl (h.length+15) w 7 0 M.length],.mem 1 121 [.fn (.func 80) [] [.op (h.length+3) 1 0]],O5,.mem 1 64 MC,P7,P8,O,O10,O11,O12,.emp 0,.emp 0,zz w 36 (jL (bsW M))])
   (h++ [.mem 1 26 [.str x.sec,strs x.sig,qm x.tok,qo x.col],.emp 1,.emp 2,.mem 1 29 [.osl (h.length+15) v 7 0 L.length],.mem 1 121 [.fn (.func 80) [] [.op (h.length+3) 1 0]],O5,.mem 1 64 MC,P7,P8,A,O10,O11,O12,.emp 0,.emp 0,zz v 36 (jL (bsW L))]):=λL M v w O A lA=>by
  refine⟨by simp,λo ho=> ?_⟩;rcases List.mem_append.1 ho with h1|h1
  ·exact .inl (List.mem_append_left _ h1)
  ·simp only[List.mem_cons,List.not_mem_nil,or_false]at h1;rcases h1 with rfl|rfl|rfl|rfl|rfl|rfl|rfl|rfl|rfl|rfl|rfl|rfl|rfl|rfl|rfl|rfl
   ·left;simp
   ·left;simp
   ·left;simp
   ·right;refine⟨λc hc=> ?_,λc hc=> ?_⟩<;>
    ·rw[List.mem_singleton]at hc;subst hc;simp[qZ]
     try omega
   ·left;simp
   ·left;simp
   ·left;simp
   ·left;simp
   ·left;simp
   ·right;exact⟨lA _,lA _⟩
   ·left;simp
   ·left;simp
   ·left;simp
   ·left;simp
   ·left;simp
   ·right;exact⟨lP _ _ _,lP _ _ _⟩
 refine zD hit (λa ha=> ?_)
  (S:=λi hh=> ∃A,qK [A] 0=true∧(∀n,lowO n A)∧hh=h++ [.mem 1 26 [.str x.sec,strs x.sig,qm x.tok,qo x.col],.emp 1,.emp 2,.mem 1 29 [.osl (h.length+15) (vb+i) 7 0 (L0++rwM (ps.take i) (-1) (-1)).length],.mem 1 121 [.fn (.func 80) [] [.op (h.length+3) 1 0]],O5,.mem 1 64 MC,P7,P8,A,O10,O11,O12,.emp 0,.emp 0,zz (vb+i) 36 (jL (bsW (L0++rwM (ps.take i) (-1) (-1))))]) (E:=λ_ _=>False) ?_ ?_ ?_ ?_ ?_ ?_ ?_
 ·obtain⟨c,_,rfl⟩:=List.mem_map.1 ha;rfl
 ·rintro i hh ⟨A,_,lA,rfl⟩;exact hLow _ _ _ _ _ _ lA
 ·intro s hh hf;exact hf.elim
 ·exact⟨O9,s9,l9,by simp[rwM]⟩
 ·simp[qZ,qZ.lowVs]
  repeat' apply aiA
  all_goals first|rfl|omega|exact lRV _
 ·rintro i hh tl LI TS hi ⟨A,sA,lA,rfl⟩ hlen K1 K2 hK1 hN1 hR1 hX1;have hi':i<ps.length:=by rw[List.length_map]at hi;exact hi
  rw[List.getElem_map];have sA': ∀m,qK (A::m) 0=true:=λ_=>sA
  have hS:L0++rwM (ps.take (i+1)) (-1) (-1)=(L0++rwM (ps.take i) (-1) (-1))++ [⟨ps.getD i default,-1,-1⟩]:=by
   unfold rwM;rw[List.take_add_one,zB hi',List.map_append,gdqA,zB hi',List.append_assoc];rfl
  have eG:ps[i]=ps.getD i default:=by rw[gdqA,zB hi'];rfl
  rw[eG];have hpm:ps.getD i default∈ps:=zX hi';obtain⟨p,hp'⟩:=wg (ps.getD i default)
  rw[<-hp']at hS hpm ⊢;obtain⟨M,hM⟩:=wg (L0++rwM (ps.take i) (-1) (-1))
  have hMF: ∀r∈M,PcF r.p:=λr hr=>by
   rw[hM]at hr;rcases List.mem_append.1 hr with hr|hr
   ·exact hLF r hr
   ·exact hpF _ (List.mem_of_mem_take (jb.1 hr).1)
  have hMn:M.length<=1000000000:=by
   rw[hM,lap,jO,List.length_take];rw[lap,jO]at hLn;omega
  rw[<-hM]at hS ⊢;simp only[kp,List.append_assoc,lca,lna];simp (disch:=omega) only[sA',pcC,tkC,go_sem];refine hK1 _ _ (h++ [.mem 1 26 [.str x.sec,strs x.sig,qm x.tok,qo x.col],.emp 1,.emp 2,.mem 1 29 [.osl (h.length+15) (vb+i) 7 0 M.length],.mem 1 121 [.fn (.func 80) [] [.op (h.length+3) 1 0]],O5,.mem 1 64 MC,P7,P8,(.mem (qn (some A)+1) 120 (pcC p)),O10,O11,O12,.emp 0,.emp 0,zz (vb+i) 36 (jL (bsW M))]) ?_ ?_ ?_
  ·simp[pcC,tkC]
  ·simp
  ·simp only[List.append_assoc,lca,lna];simp (disch:=omega) only[pcC,tkC,go_sem]
   repeat' first|with_reducible apply aiA|exact clz|fail
   refine qS (Gw (a:=h.length+3) (b:=h.length+15) (c:=h.length) (va:=1) (vb:=vb+i) (Z:= .mem 1 26 [.str x.sec,strs x.sig,qm x.tok,qo x.col]) ⟨by simp,by simp,by simp,om,om,om⟩ M p (-1) (-1) (by simp only[go_sem]) (by simp only[go_sem]) (by simp only[go_sem]) (by rw[<-hX0];exact lX0) (hpF p hpm) hMn hMF) ?_;simp (disch:=omega) only[go_sem];refine hN1 _ _ (h++ [.mem 1 26 [.str x.sec,strs x.sig,qm x.tok,qo x.col],.emp 1,.emp 2,.mem 1 29 [.osl (h.length+15) (vb+(i+1)) 7 0 (M++ [(⟨p,-1,-1⟩:Rw)]).length],.mem 1 121 [.fn (.func 80) [] [.op (h.length+3) 1 0]],O5,.mem 1 64 MC,P7,P8,(.mem (qn (some A)+1) 120 (pcC p)),O10,O11,O12,.emp 0,.emp 0,zz (vb+(i+1)) 36 (jL (bsW (M++ [(⟨p,-1,-1⟩:Rw)])))]) ?_ ?_ ⟨_,rfl,?_,by rw[hS]⟩
   ·simp[pcC,tkC,Nat.add_assoc]
   ·simp
   ·intro n c hc;simp[pcC,tkC]at hc;rcases hc with rfl|rfl|rfl|rfl|rfl|rfl|rfl<;>rfl
 ·rintro hh ⟨A,sA,lA,rfl⟩;rw[List.length_map,List.take_length];obtain⟨L1,hL1⟩:=wg (L0++rwM ps (-1) (-1))
  rw[<-hL1]
  by_cases hkl:k<0
  case neg=>
   have hke:k=0:=by omega
   obtain⟨b1,b2⟩:f=x.col.length∧t'=x.col.length:=⟨hf,ht'⟩
   have q4:((k:Int)=0)=True:=wr;rw[hP7,hP8];simp (disch:=omega) only[q4,go_sem]
   repeat' first|with_reducible apply aiA|exact clz|fail
   rw[<-hP7,<-hP8];have e1:rwK x [] [] S (k+1)=L1:=by
    unfold rwK;rw[ine (by simp),hL1,hL0,hps,b1,hke];rfl
   have e2:nxT x [] (k+1)=t':=by unfold nxT;rw[ine (by simp),b2]
   refine hK _ _ ⟨k+1,vb+ps.length,P7,P8,A,O10,O11,O12⟩ ⟨by simp only;omega,λO hO=> ?_⟩ (by simp only;omega) ?_
   ·simp only[List.mem_cons,List.not_mem_nil,or_false]at hO;rcases hO with rfl|rfl|rfl|rfl|rfl|rfl
    ·exact hP7l
    ·exact hP8l
    ·exact⟨sA,lA⟩
    ·exact⟨s10,l10⟩
    ·exact⟨s11,l11⟩
    ·exact⟨s12,l12⟩
   ·simp only[e1,e2];refine Wk.temps ?_
    (simp only[go_sem,qf,qc,qb,qe];try exact we)
  exact absurd hkl (nnz k)
 ·intro e hh hf;exact hf.elim
theorem qa3(h:wh)(k:Nat)(hk:qK h k=true):ACalls Tryz.prog 82 [.el] h (.osl k (qn (qr k h)+1) 3 0 0) (qq k h (.mem (qn (qr k h)+1) 64 [])):=by
 refine dW CL k (by simp) ?_;simp only[lco,lnl,Nat.reduceAdd,Nat.reduceSub,List.replicate,lca,lna];simp (disch:=omega) only[qao,go_sem]
 repeat' first|(with_reducible apply aiA)
 all_goals first
  |omega
  |contradiction
  |skip
 all_goals try rfl
 exact⟨h.length+1,2,3,0,0,64,[],_,⟨trivial,trivial⟩,rfl,rfl,om,by simp only[go_sem],(λc hc=>by cases hc),hk,rfl,rfl⟩
theorem qbh(x:Co)(d:List Dc)(s:Int)(h:wh)(hz:aP x)(hp:kS SG h)(hg:jf h frmN frmC)(hd:d.length<=1000000)(ht: ∀o∈d,o.txt.length<=1000)(hN0:vaE x []=0->(rwA x [] d s.toNat).length<=1000000000):
  ACalls Tryz.prog 25 [.agg (coC x),.el,jT d,.int .i64 s] h (.tup [jl (esR x [] d s),.int .i64 (esE x [] d s)]) h:=by
 have hu:cC []:=⟨by simp,λi=>by simp;exact nzl _,λi j=>by simp;exact nzl _,λi j=>by simp;exact nzl _⟩
 have c1:=λl'=>(Bz x [] (h++l') hz hu (hp.app l')).le (args:= [.agg (coC x),.el]) ⟨qi,Yx,trivial⟩ (qi)
 have zu: ∀g l,valL g .len [zH l]= .int .i64 l.length:=λ_ _=>rfl
 have zv: ∀g l,okL g .len [zH l]=True:=λ_ _=>eqt trivial
 have zu1: ∀g l,valL g .len [strs l]= .int .i64 l.length:=λ_ _=>rfl
 have zv1: ∀g l,okL g .len [strs l]=True:=λ_ _=>eqt trivial
 have hE:esE x [] d s=(if vaE x []≠0 then vaE x [] else if s<0∨(x.sig.length:Int)<=s then 2 else if ae x [] d≠0 then ae x [] d else if 1024<(rwA x [] d s.toNat).length then 4 else 0):=rfl;unfold esR
 by_cases g:vaE x []=0
 case neg=>
  have k1:(vaE x []=0)=False:=eqf g;rw[ipo g]at hE;rw[hE,ine g];unfold coC at c1;refine acO xU ?_;simp (disch:=omega) only[lK,coC,go_sem]
  repeat' first|(refine cA (c1 _) flk ?_;simp (disch:=omega) only[k1,go_sem])|(apply qa;exact rvk;simp only[go_sem])
  exact VLe.tup ⟨zh,qi,trivial⟩
 rw[ine (by simpa using g)]at hE;have hN:=hN0 g;simp only[g]at c1;obtain⟨hca,hus,hcv⟩:=lE g;have ho:=wX hca
 by_cases g2:s<0
 ·have k2:(s<0)=True:=eqt g2;rw[ipo (.inl g2)]at hE;rw[hE,ine (by decide)];unfold coC at c1;refine acO xU ?_;simp (disch:=omega) only[lK,coC,go_sem]
  repeat' first|(refine cA (c1 _) flk ?_;simp (disch:=omega) only[k2,go_sem])|(apply qa;exact rvk;simp only[go_sem])
  exact VLe.tup ⟨zh,qi,trivial⟩
 have k2:(s<0)=False:=eqf g2
 by_cases g3:(x.sig.length:Int)<=s
 ·have k3:((x.sig.length:Int)<=s)=True:=eqt g3;rw[ipo (.inr g3)]at hE;rw[hE,ine (by decide)];unfold coC at c1;refine acO xU ?_;simp (disch:=omega) only[lK,coC,go_sem]
  repeat' first|(refine cA (c1 _) flk ?_;simp (disch:=omega) only[k2,k3,zu1,zv1,go_sem])|(apply qa;exact rvk;simp only[go_sem])
  exact VLe.tup ⟨zh,qi,trivial⟩
 have k3:((x.sig.length:Int)<=s)=False:=eqf g3;rw[ine (λe=>e.elim g2 g3)]at hE;have c2:=λl'=>(qb0 x [] d (h++l') hz hu (hp.app l') hg.app hca hd ht).le (args:= [.agg (coC x),.el,jT d]) ⟨qi,Yx,qi,trivial⟩ (qi)
 unfold N9 at c2
 by_cases g4:ae x [] d=0
 case neg=>
  have k4:(ae x [] d=0)=False:=eqf g4;simp only[ine g4]at c2;rw[ipo g4]at hE;rw[hE,ine g4];unfold coC at c1 c2;refine acO xU ?_;simp (disch:=omega) only[lK,coC,go_sem]
  repeat' first|((first|refine cA (c1 _) ?_ ?_|refine cA (c2 _) ?_ ?_);exact flk;simp (disch:=omega) only[k2,k3,k4,zu1,zv1,go_sem])|(apply qa;exact rvk;simp only[go_sem])|with_reducible apply aiA|exact clz|fail
  exact VLe.tup ⟨zh,qi,trivial⟩
 rw[ine (by simpa using g4)]at hE;simp only[g4,if_true]at c2;rw[hE];unfold coC at c1 c2;refine acO xU ?_;simp (disch:=omega) only[lK,coC,go_sem]
 repeat' first|((first|refine cA (c1 _) ?_ ?_|refine cA (c2 _) ?_ ?_);exact flk;simp (disch:=omega) only[k2,k3,zu1,zv1,go_sem])|with_reducible apply aiA|exact clz|fail
 have hd0:d= []:=by
  cases d with
  |nil=>rfl
  |cons o r=>
   exfalso
   have:=g4
   unfold ae at this;split at this
   ·cases this
   ·have h0:=jJ.1 this 0 (by simp);have h1:=(aa h0).2.2.2.2.1;have h2:wO x [] ((o::r).getD 0 default)= -1:=rfl;omega
 subst hd0;have zi: ∀g l,valL g .len [qw l]= .int .i64 l.length:=λ_ _=>rfl
 have zj: ∀g l,okL g .len [qw l]=True:=λ_ _=>eqt trivial
 have ePL:(plG x [] [] ([]:List Dc).length).length=0:=rfl;refine qv (Ov (j:=h.length+2) (-1) (List.drop 1 (z6 [.int .i64 0] 1)) ?j1) (by exact flk) ?_
 case j1=>simp only[go_sem]
 simp (disch:=omega) only[zi,zj,go_sem];refine qt (T:=λ_:Unit=>zk 154 [(1,.el),(3,.int .i64 s),(4,.op h.length 1 0),(13,qw []),(56,.int .i64 0),(57,.int .i64 0)])
  (H:=λ_=>h++ [.mem 1 26 [.str x.sec,strs x.sig,qm x.tok,qo x.col],.emp 1,.emp 2,.emp 0,.emp 0,.emp 0,.emp 0,.emp 0,.emp 0,.emp 0,.emp 0,.emp 0,.emp 0,.emp 0,.emp 0,.emp 0])
  (inv:=λ_=>True) (m:=λ_=>0) () trivial (Wk.temps ?_) ?_
 ·(simp only[go_sem,qf,qc,qb,qe];try exact we)
 rintro⟨⟩-K hK;have q1:((0:Int)<0)=False:=wD;simp (disch:=omega) only[q1,go_sem];refine⟨_,_,Wk.ownNil (j:=h.length+3) (i:=0) (k:=h.length+15) (v:=1) (ty:=29) (cs:= [.nl]) (ve:=0) (sz:=7) ?m1 rfl ?m2,?_⟩
 case m1=>simp only[go_sem]
 case m2=>simp only[go_sem]
 simp (disch:=omega) only[List.set_cons_zero,go_sem];have bne5:(h.length+14 !=h.length+5)=true:=by simp
 have zc: ∀g l,valL g .len [qo l]= .int .i64 l.length:=λ_ _=>rfl
 have zd: ∀g l,okL g .len [qo l]=True:=λ_ _=>eqt trivial
 refine ke ?T ?H ?h1 ?h2
 case h1=>
  simp (disch:=omega) only[zc,zd,go_sem]
  repeat' first|(with_reducible apply aiA)|(refine qv (qa3 _ (h.length+14) (by simp only[go_sem])) (by exact flk) ?_;simp (disch:=omega) only[zc,zd,go_sem])
  all_goals first
   |omega
   |rfl
   |exact bne5
 case h2=>
 simp (disch:=omega) only[go_sem];obtain⟨S,hS⟩: ∃S:Nat,s=S:=⟨s.toNat,om⟩
 subst hS;rw[itn]at hN ⊢;have hSl:S<x.sig.length:=by omega
 obtain⟨MC,hMC⟩:=wg ( [AV.int .i64 x.col.length,.int .i64 x.col.length,.nl])
 rw[<-hMC];obtain⟨O5,hO5⟩:=wg (AObj.mem 1 64 (AV.int .i64 x.col.length:: .int .i64 x.col.length:: .nl::List.drop 3 (z6 [.int .i64 0,.int .i64 0,.nl] 1)))
 rw[<-hO5];obtain⟨X0,hX0⟩:=wg (AObj.mem 1 26 [.str x.sec,strs x.sig,qm x.tok,qo x.col])
 have lX0: ∀n,lowO n X0:=by
  intro n;rw[hX0];intro c hc;simp at hc;rcases hc with rfl|rfl|rfl|rfl<;>rfl
 refine qt (T:=λi:EsS=>zk 154 [(1,.el),(3,.int .i64 (S:Int)),(4,.op h.length 1 0),(13,qw []),(16,.op (h.length+3) 1 0),(17,.op (h.length+4) 1 0),(18,.int .i64 (nxT x [] i.k:Int)),(78,.osl (h.length+14) 2 3 0 1),(79,.int .i64 1),(80,.int .i64 i.k)])
  (H:=λi=>h++ [.mem 1 26 [.str x.sec,strs x.sig,qm x.tok,qo x.col],.emp 1,.emp 2,.mem 1 29 [.osl (h.length+15) i.vb 7 0 (rwK x [] [] S i.k).length],.mem 1 121 [.fn (.func 80) [] [.op (h.length+3) 1 0]],O5,.emp 0,i.O7,i.O8,i.O9,i.O10,i.O11,i.O12,.emp 0,.mem 2 64 MC,zz i.vb 36 (jL (bsW (rwK x [] [] S i.k)))])
  (inv:=λi=>i.k<=1∧ ∀O∈ [i.O7,i.O8,i.O9,i.O10,i.O11,i.O12],qK [O] 0=true∧ ∀n,lowO n O) (m:=λi=>1-i.k) ⟨0,0,.emp 0,.emp 0,.emp 0,.emp 0,.emp 0,.emp 0⟩ ⟨nzl _,λO hO=>by
   simp at hO;subst hO;exact⟨rfl,λ_=>trivial⟩⟩ (Wk.temps ?_) ?_
 ·(simp only[go_sem,qf,qc,qb,qe];try (repeat' first|(with_reducible apply aiA)|(apply qg;omega)|(apply qd;rfl)|exact qi))
  done
 rintro⟨k,vb,O7,O8,O9,O10,O11,O12⟩ ⟨i1,i2⟩ K hK;simp only at i1 i2 hK;obtain⟨s7,l7⟩:=i2 O7 (by simp);obtain⟨s8,l8⟩:=i2 O8 (by simp);obtain⟨s9,l9⟩:=i2 O9 (by simp);obtain⟨s10,l10⟩:=i2 O10 (by simp);obtain⟨s11,l11⟩:=i2 O11 (by simp);obtain⟨s12,l12⟩:=i2 O12 (by simp);have s7': ∀m,qK (O7::m) 0=true:=λ_=>s7
 have s8': ∀m,qK (O8::m) 0=true:=λ_=>s8
 by_cases hk:k<=0
 case neg=>
  have q1:((k:Int)<(1:Int))=False:=wD;have eR:rwK x [] [] S k=rwA x [] [] S:=by unfold rwK;rw[lnl,ine hk]
  rw[eR]
  by_cases g5:1024<(rwA x [] [] S).length
  ·have q5:((1024:Int)<(rwA x [] [] S).length)=True:=wr;simp only[ipo g5];simp (disch:=omega) only[q1,q5,go_sem]
   repeat' first|(apply qa;exact rvk;simp only[go_sem])|with_reducible apply aiA|exact clz|fail
   exact VLe.tup ⟨zh,qi,trivial⟩
  ·have q5:((1024:Int)<(rwA x [] [] S).length)=False:=wD;simp only[ine g5];simp (disch:=omega) only[q1,q5,go_sem]
   repeat' first|(apply qa;exact rvk;simp only[go_sem])|with_reducible apply aiA|exact clz|fail
   exact VLe.tup ⟨fJ (jH _).symm,qi,trivial⟩
 have q1:((k:Int)<(1:Int))=True:=wr;have q2:(0<=(k:Int))=True:=wr;have hk0:k=0:=by omega
 have hMl:MC.length=3:=by rw[hMC];rfl
 have q3:(k*3+3<=MC.length)=True:=wr;have eR:rwK x [] [] S k=rwL x [] [] S k:=by unfold rwK;rw[lnl,ipo hk]
 have eN:nxT x [] k=jc [] k:=by unfold nxT;rw[lnl,ipo hk]
 rw[eR,eN];obtain⟨f,hf⟩:=wg x.col.length
 obtain⟨t',ht'⟩:=wg x.col.length
 obtain⟨RV,hRV⟩:=wg AV.nl
 have eM:List.take 3 (List.drop (k*3) MC)= [.int .i64 (f:Int),.int .i64 (t':Int),RV]:=by rw[hk0,hMC,hf,ht',hRV];rfl
 have a5:jc [] k<=f:=by rw[hk0];exact nzl _
 have a6:f<=x.col.length:=by omega
 have lRV: ∀n,qZ n RV=true:=λn=>by rw[hRV];rfl
 have c3:=λh=>OS x (jc [] k) f S h
 have hit:=itS x S (jc [] k) f hz ho hSl a6 a5;have hpF:=xd ho hSl (f:=jc [] k) (d:=f-jc [] k) om;obtain⟨ps,hps⟩:=wg (spk x S (jc [] k) (f-jc [] k))
 have hxl:(spX x S (jc [] k) (f-jc [] k))=ps.map λp=> [.agg (pcC p)]:=by unfold spX;rw[hps]
 rw[hxl]at hit;rw[<-hps]at hpF;unfold coC at c3 hit;simp (disch:=omega) only[q1,q2,q3,eM,s7',s8',go_sem]
 repeat' first|(refine cA (c3 _) flk ?_;simp (disch:=omega) only[go_sem])|with_reducible apply aiA|exact clz|fail
 obtain⟨L0,hL0⟩:=wg (rwL x [] [] S k)
 have hLF: ∀r∈L0,PcF r.p:=by rw[hL0];exact mz ho hus hSl (λi hi=>absurd hi (by simp)) hk
 have hLn:(L0++rwM ps (-1) (-1)).length<=1000000000:=by
  refine Nat.le_trans ?_ hN;rw[hL0,hps,hf,hk0];exact nlr _
 rw[<-hL0];obtain⟨P7,hP7⟩:=wg (AObj.mem (qn (some O7)+1) 3 [.int .i64 (k:Int)])
 obtain⟨P8,hP8⟩:=wg (AObj.mem (qn (some O8)+1) 64 [.int .i64 (f:Int),.int .i64 (t':Int),RV])
 have hP7l:qK [P7] 0=true∧ ∀n,lowO n P7:=by
  rw[hP7];refine⟨rfl,λn c hc=> ?_⟩;rw[List.mem_singleton]at hc;subst hc;rfl
 have hP8l:qK [P8] 0=true∧ ∀n,lowO n P8:=by
  rw[hP8];refine⟨rfl,λn c hc=> ?_⟩;simp only[List.mem_cons,List.not_mem_nil,or_false]at hc;rcases hc with rfl|rfl|rfl
  ·rfl
  ·rfl
  ·exact lRV n
 have cP7: ∀m,cellsOf (P7::m) 0 (qn (some O7)+1)=some [.int .i64 (k:Int)]:=λm=>by rw[hP7];simp only[go_sem]
 rw[<-hP7,<-hP8];have lP: ∀L:List Rw,∀v n,lowO n (zz v 36 (jL (bsW L))):=λL v n=>jx (bz _ n)
 have hLow: ∀(L M:List Rw) (v w:Nat) O A,(∀n,lowO n A)->LowI (h++ [.mem 1 26 [.str x.sec,strs x.sig,qm x.tok,qo x.col],.emp 1,.emp 2,.mem 1 29 [.osl (h.length+15) w 7 0 M.length],.mem 1 121 [.fn (.func 80) [] [.op (h.length+3) 1 0]],O5,.emp 0,P7,P8,O,O10,O11,O12,.emp 0,.mem 2 64 MC,zz w 36 (jL (bsW M))])
   (h++ [.mem 1 26 [.str x.sec,strs x.sig,qm x.tok,qo x.col],.emp 1,.emp 2,.mem 1 29 [.osl (h.length+15) v 7 0 L.length],.mem 1 121 [.fn (.func 80) [] [.op (h.length+3) 1 0]],O5,.emp 0,P7,P8,A,O10,O11,O12,.emp 0,.mem 2 64 MC,zz v 36 (jL (bsW L))]):=λL M v w O A lA=>by
  refine⟨by simp,λo ho=> ?_⟩;rcases List.mem_append.1 ho with h1|h1
  ·exact .inl (List.mem_append_left _ h1)
  ·simp only[List.mem_cons,List.not_mem_nil,or_false]at h1;rcases h1 with rfl|rfl|rfl|rfl|rfl|rfl|rfl|rfl|rfl|rfl|rfl|rfl|rfl|rfl|rfl|rfl
   ·left;simp
   ·left;simp
   ·left;simp
   ·right;refine⟨λc hc=> ?_,λc hc=> ?_⟩<;>
    ·rw[List.mem_singleton]at hc;subst hc;simp[qZ]
     try omega
   ·left;simp
   ·left;simp
   ·left;simp
   ·left;simp
   ·left;simp
   ·right;exact⟨lA _,lA _⟩
   ·left;simp
   ·left;simp
   ·left;simp
   ·left;simp
   ·left;simp
   ·right;exact⟨lP _ _ _,lP _ _ _⟩
 refine zD hit (λa ha=> ?_)
  (S:=λi hh=> ∃A,qK [A] 0=true∧(∀n,lowO n A)∧hh=h++ [.mem 1 26 [.str x.sec,strs x.sig,qm x.tok,qo x.col],.emp 1,.emp 2,.mem 1 29 [.osl (h.length+15) (vb+i) 7 0 (L0++rwM (ps.take i) (-1) (-1)).length],.mem 1 121 [.fn (.func 80) [] [.op (h.length+3) 1 0]],O5,.emp 0,P7,P8,A,O10,O11,O12,.emp 0,.mem 2 64 MC,zz (vb+i) 36 (jL (bsW (L0++rwM (ps.take i) (-1) (-1))))]) (E:=λ_ _=>False) ?_ ?_ ?_ ?_ ?_ ?_ ?_
 ·obtain⟨c,_,rfl⟩:=List.mem_map.1 ha;rfl
 ·rintro i hh ⟨A,_,lA,rfl⟩;exact hLow _ _ _ _ _ _ lA
 ·intro s hh hf;exact hf.elim
 ·exact⟨O9,s9,l9,by simp[rwM]⟩
 ·simp[qZ,qZ.lowVs]
  repeat' apply aiA
  all_goals first|rfl|omega|exact lRV _
 ·rintro i hh tl LI TS hi ⟨A,sA,lA,rfl⟩ hlen K1 K2 hK1 hN1 hR1 hX1;have hi':i<ps.length:=by rw[List.length_map]at hi;exact hi
  rw[List.getElem_map];have sA': ∀m,qK (A::m) 0=true:=λ_=>sA
  have hS:L0++rwM (ps.take (i+1)) (-1) (-1)=(L0++rwM (ps.take i) (-1) (-1))++ [⟨ps.getD i default,-1,-1⟩]:=by
   unfold rwM;rw[List.take_add_one,zB hi',List.map_append,gdqA,zB hi',List.append_assoc];rfl
  have eG:ps[i]=ps.getD i default:=by rw[gdqA,zB hi'];rfl
  rw[eG];have hpm:ps.getD i default∈ps:=zX hi';obtain⟨p,hp'⟩:=wg (ps.getD i default)
  rw[<-hp']at hS hpm ⊢;obtain⟨M,hM⟩:=wg (L0++rwM (ps.take i) (-1) (-1))
  have hMF: ∀r∈M,PcF r.p:=λr hr=>by
   rw[hM]at hr;rcases List.mem_append.1 hr with hr|hr
   ·exact hLF r hr
   ·exact hpF _ (List.mem_of_mem_take (jb.1 hr).1)
  have hMn:M.length<=1000000000:=by
   rw[hM,lap,jO,List.length_take];rw[lap,jO]at hLn;omega
  rw[<-hM]at hS ⊢;simp only[kp,List.append_assoc,lca,lna];simp (disch:=omega) only[sA',pcC,tkC,go_sem];refine hK1 _ _ (h++ [.mem 1 26 [.str x.sec,strs x.sig,qm x.tok,qo x.col],.emp 1,.emp 2,.mem 1 29 [.osl (h.length+15) (vb+i) 7 0 M.length],.mem 1 121 [.fn (.func 80) [] [.op (h.length+3) 1 0]],O5,.emp 0,P7,P8,(.mem (qn (some A)+1) 120 (pcC p)),O10,O11,O12,.emp 0,.mem 2 64 MC,zz (vb+i) 36 (jL (bsW M))]) ?_ ?_ ?_
  ·simp[pcC,tkC]
  ·simp
  ·simp only[List.append_assoc,lca,lna];simp (disch:=omega) only[pcC,tkC,go_sem]
   repeat' first|with_reducible apply aiA|exact clz|fail
   refine qS (Gw (a:=h.length+3) (b:=h.length+15) (c:=h.length) (va:=1) (vb:=vb+i) (Z:= .mem 1 26 [.str x.sec,strs x.sig,qm x.tok,qo x.col]) ⟨by simp,by simp,by simp,om,om,om⟩ M p (-1) (-1) (by simp only[go_sem]) (by simp only[go_sem]) (by simp only[go_sem]) (by rw[<-hX0];exact lX0) (hpF p hpm) hMn hMF) ?_;simp (disch:=omega) only[go_sem];refine hN1 _ _ (h++ [.mem 1 26 [.str x.sec,strs x.sig,qm x.tok,qo x.col],.emp 1,.emp 2,.mem 1 29 [.osl (h.length+15) (vb+(i+1)) 7 0 (M++ [(⟨p,-1,-1⟩:Rw)]).length],.mem 1 121 [.fn (.func 80) [] [.op (h.length+3) 1 0]],O5,.emp 0,P7,P8,(.mem (qn (some A)+1) 120 (pcC p)),O10,O11,O12,.emp 0,.mem 2 64 MC,zz (vb+(i+1)) 36 (jL (bsW (M++ [(⟨p,-1,-1⟩:Rw)])))]) ?_ ?_ ⟨_,rfl,?_,by rw[hS]⟩
   ·simp[pcC,tkC,Nat.add_assoc]
   ·simp
   ·intro n c hc;simp[pcC,tkC]at hc;rcases hc with rfl|rfl|rfl|rfl|rfl|rfl|rfl<;>rfl
 ·rintro hh ⟨A,sA,lA,rfl⟩;rw[List.length_map,List.take_length];obtain⟨L1,hL1⟩:=wg (L0++rwM ps (-1) (-1))
  rw[<-hL1]
  by_cases hkl:k<0
  case neg=>
   have hke:k=0:=by omega
   obtain⟨b1,b2⟩:f=x.col.length∧t'=x.col.length:=⟨hf,ht'⟩
   have q4:((k:Int)=0)=True:=wr;rw[hP7,hP8];simp (disch:=omega) only[q4,go_sem]
   repeat' first|with_reducible apply aiA|exact clz|fail
   rw[<-hP7,<-hP8];have e1:rwK x [] [] S (k+1)=L1:=by
    unfold rwK;rw[ine (by simp),hL1,hL0,hps,b1,hke];rfl
   have e2:nxT x [] (k+1)=t':=by unfold nxT;rw[ine (by simp),b2]
   refine hK _ _ ⟨k+1,vb+ps.length,P7,P8,A,O10,O11,O12⟩ ⟨by simp only;omega,λO hO=> ?_⟩ (by simp only;omega) ?_
   ·simp only[List.mem_cons,List.not_mem_nil,or_false]at hO;rcases hO with rfl|rfl|rfl|rfl|rfl|rfl
    ·exact hP7l
    ·exact hP8l
    ·exact⟨sA,lA⟩
    ·exact⟨s10,l10⟩
    ·exact⟨s11,l11⟩
    ·exact⟨s12,l12⟩
   ·simp only[e1,e2];refine Wk.temps ?_
    (simp only[go_sem,qf,qc,qb,qe];try exact we)
  exact absurd hkl (nnz k)
 ·intro e hh hf;exact hf.elim
theorem qdI(x:Co)(l:List Un)(d:List Dc)(s:Int)(h:wh)(hz:aP x)(hu:cC l)(hp:kS SG h)(hg:jf h frmN frmC)(hd:d.length<=1000000)(ht: ∀o∈d,o.txt.length<=1000)(hN0:vaE x l=0->(rwA x l d s.toNat).length<=1000000000):
  ACalls Tryz.prog 25 [.agg (coC x),zH l,jT d,.int .i64 s] h (.tup [jl (esR x l d s),.int .i64 (esE x l d s)]) h:=by
 cases l with
 |nil=>exact ACalls.sl0 (pre:= [.agg (coC x)]) (post:= [jT d,.int .i64 s]) (qbg x d s h hz hp hg hd ht hN0) (qbh x d s h hz hp hg hd ht hN0)
 |cons u r=>exact qdJ x (u::r) d s h hz hu hp hg (List.cons_ne_nil _ _) hd ht hN0
end RC
end
section
open Go Go.Proofs AF
end
section
open Go Go.Proofs AF
end
section
open Go Go.Proofs AF HY LN
namespace RC
def qb3:Str:= [118,101,114,101]
def qA:List Wd:= [⟨mI,0,-1,-1,false,false,[]⟩,⟨qas,1,0,-1,false,false,[]⟩,⟨Z6,2,-1,-1,false,false,[]⟩]
def qB:List Wd:= [⟨mI,0,-1,-1,false,false,[]⟩,⟨Z6,2,-1,-1,false,false,[]⟩]
def qC:List Wd:= [⟨mI,0,-1,-1,false,false,[]⟩,⟨qb3,1,0,0,false,false,[]⟩,⟨[44],1,0,0,true,false,[]⟩,⟨[101,116],1,0,0,false,false,[]⟩,⟨Z6,2,-1,-1,false,false,[]⟩]
structure Ld where
 s:Int
 t:Str
 k:Int
theorem CX{x:Co}{l:List Un}{b:List Wd}(h:yb x l=true){k:Nat}(hk:k<l.length){t:Nat}(ht:t<x.sig.length):
  (t:Int)∈hsK l b k↔owG b (k:Int) b.length=rdG x t (frN l k) (toN l k-frN l k):=by
 obtain⟨_,_,_,_,e⟩:=j9 h hk;have hi:=yz x (frN l k) (toN l k);have hh:=fw x (frN l k) (toN l k);obtain⟨L,hL⟩:=wg (cY x (frN l k) (toN l k))
 rw[<-hL]at e hi hh;obtain⟨j,h1,h2,h3,h4,h5⟩:=ZM hh hi ht;unfold hsK brK;rw[e];rcases zC (λr=>decide ((L.getD r default).words=owG b (k:Int) b.length)) L.length with⟨i,g1,g2,_,g4⟩|⟨g1,g2⟩
 ·rw[g4,ipo om,itn];have g2:=of_decide_eq_true g2;rw[h5 i g1];constructor
  ·intro e;rw[<-g2,e,h4]
  ·intro e;rcases Nat.lt_trichotomy i j with q|q|q
   ·exact absurd (by rw[g2,e,h4]) (hi.ne i j q h2)
   ·exact q
   ·exact absurd (by rw[g2,e,h4]) (hi.ne j i q g1)
 ·rw[g2,ine om];constructor
  ·intro e;cases e
  ·intro e
   have:=of_decide_eq_false (g1 j h2)
   exact absurd (h4.trans e.symm) this
theorem A3{L:List Rw}{i:Nat}(hi:i<L.length):((bsW L).getD i default).unit=(L.getD i default).u:=by rw[xI hi];rfl
theorem YE{L:List Rw}{i:Nat}(hi:i<L.length):((bsW L).getD i default).dec=(L.getD i default).d:=by rw[xI hi];rfl
theorem ua{L:List Rw}{i:Nat}(hi:i<L.length):((bsW L).getD i default).col=(L.getD i default).p.c:=by rw[xI hi];rfl
theorem lV{L:List Rw}{i:Nat}(hi:i<L.length):((bsW L).getD i default).text=(L.getD i default).p.t.text:=by rw[xI hi];rfl
theorem Gx{x:Co}{l:List Un}{d:List Dc}{s a:Nat}(h:yP x l d s)(ha:a<x.sig.length){k:Nat}(hk:k<l.length):agB l (bsW (rwA x l d s)) a k=decide (rdG x a (frN l k) (toN l k-frN l k)=(rwU x l d s k).map rwT):=by
 obtain⟨j,h1,h2,h3,_⟩:=Og h.us hk ha;have hR:cX (l.getD k default).rds (a:Int)=j:=by unfold cX;rw[h1,ine om]
 unfold agB;rw[hR,itn,h3,An h hk]
structure FoI (x:Co) (a:Nat) (V:Nat->Nat->Prop) (o:Fo):Prop where
 k1:o.k=1-> ∃c,V c a∧pcB x a c=true∧o.g=x.sig.getD a []∧o.t=(x.col.getD c []).getD a 0
 k3:o.k≠1->o.k=3∧(∀c,V c a->pcB x a c=false)∧(o.g= []-> ∀c s,V c s->pcB x s c=false)∧(o.g≠ []-> ∃c s,V c s∧s<x.sig.length∧pcB x s c=true∧o.g=x.sig.getD s []∧o.t=(x.col.getD c []).getD s 0)
theorem yP.esE{x:Co}{l:List Un}{d:List Dc}{s:Nat}(h:yP x l d s):esE x l d s=0:=by
 have h1:vaE x l=0:=by
  unfold vaE;rw[ine (λhc=>hc h.ca),ine];unfold rgB;rw[h.us,h.cv];simp
 have h2:ae x l d=0:=by
  unfold ae;rw[ine (by have:=h.dl;omega)];exact jJ.2 h.pl
 have:=h.sl
 have:=h.ln
 unfold RC.esE;rw[h1,h2,ine (by simp),ine om,ine (by simp),ine (by rw[itn];omega)]
theorem eZ{x:Co}{l:List Un}{d:List Dc}{s:Nat}(h:yP x l d s){i:Nat}(hi:i<(rwA x l d s).length){w:Wd}(hw:w=(bsW (rwA x l d s)).getD i default):
  (0<=w.col∧w.col<x.col.length)∧(w.text≠ []∧w.text.length<=64)∧(-1<=w.dec∧w.dec<d.length)∧fnU l w.col=w.unit∧(w.unit<0->w.dec= -1)∧(i≠0->((bsW (rwA x l d s)).getD (i-1) default).col<=w.col∧((bsW (rwA x l d s)).getD (i-1) default).text.length<=64):=by
 subst hw;obtain⟨g1,g2⟩:=Aw h;have g:=g1 _ (zX (a:=default) hi);rw[lV hi,ua hi,YE hi,A3 hi];refine⟨g.c,g.tx,g.d,g.u,λe=>(g.n e).2,λh0=> ?_⟩;have hj:i-1<(rwA x l d s).length:=by omega
 rw[ua hj,lV hj];refine⟨?_,(g1 _ (zX (a:=default) hj)).tx.2⟩
 have:=List.pairwise_iff_getElem.1 g2 (i-1) i hj hi om
 rw[gdqA,zB hj,gdqA,zB hi];exact this
end RC
end
section
open Go Go.Proofs AF
def nY:List Nat:= []
def Gg:C:=
 (vU [O1 3 (.box 0 26) 0,ON 6 (.nilo 1 3 64) [],ON 7 (.nilo 2 7 36) [],vO 8 0,MC 9 (.bool false)] ((vU [O1 15 (.load (some 4)) 3,O1 16 (.call 28 true) 15,MV 17 16,vQ 18 17 (.load
 (some 4)) 3,vQ 19 17 (.call 29 true) 18,vT 20 17 (.bin .neq) 19 (i6 0),PT 21 17 20,MV 22 21,vS 23 22 1,vQ 24 22 (.call 110 true) 23,PT 25 22 24,MV 26 25,v7 27 26 1 3,v8 28 26
 27,vQ 29 26 .len 28,vT 30 26 (.bin .eql) 29 (i6 0),PT 31 26 30] (vV 31 (vX [ON 6 (.nilo 1 3 64) [],ON 7 (.nilo 2 7 36) [],vO 8 0,MC 9 (.bool false)]))).seq (vU [MV 32 2,O1 33
 (.conv .i64) 32,vN 34 1 3,LD 35 34,O1 36 .len 35,BI 37 .rem 33 36,MV 10 37] (vU [O1 39 (.load (some 4)) 3,O1 40 (.call 31 true) 39,MV 38 40,O1 41 (.ext 0) 38,O1 42 (.ext 1)
 38,MV 11 41,MV 12 42] (vU [O1 44 (.load (some 4)) 3,MV 45 11,MV 46 1,MV 47 10,ON 48 (.call 25 true) [.t 44,.t 45,.t 46,.t 47],MV 43 48,O1 49 (.ext 0) 43,O1 50 (.ext 1) 43,MV 13
 49,MV 14 50] (vX [MV 51 11,MV 52 13,MV 53 10,MV 54 12,vP 55 .eql 54 0,MV 56 55,MG 57 56 true 14,PC 58 56 true (.bin .eql) 57 (i6 0),PF 59 56 58,MV 6 51,MV 7 52,MV 8 53,MV 9
 59]))))))
theorem Qr:qO Tryz.prog 55 60 3 [RV.tmp 6,RV.tmp 7,RV.tmp 8,RV.tmp 9] Gg:=fi Tryz.f55 [3,6,7] nY []
def c8s:C:=
 (vU [O1 3 (.box 0 26) 0,MC 6 (.bool false)] (vU [O1 15 (.load (some 4)) 3,MV 16 1,MV 17 2,ON 18 (.call 55 true) [.t 15,.t 16,.t 17],MV 14 18,O1 19 (.ext 0) 14,O1 20 (.ext 1)
 14,O1 21 (.ext 2) 14,O1 22 (.ext 3) 14,MV 7 19,MV 8 20,MV 9 21,MV 10 22] ((vU [MV 23 10,O1 24 (.un UnOp.not) 23] (vV 24 (vX [ON 25 (.call 56 true) [],MV 6 25]))).seq ((vU [O1
 26 (.load (some 4)) 3,MV 27 7,MV 28 8,ON 29 (.call 17 true) [.t 26,.t 27,.t 28],vP 30 .neq 29 0] (vV 30 (vX [MC 6 (.bool false)]))).seq ((vU [MV 31 8,O1 32 .len 31,vO 33 0]
 (C.block 0 (vU [BI 34 .lss 33 32] ((vW 34 0).seq ((C.block 1 (vU [MV 35 33,MV 11 35] (vU [MV 37 8,MV 38 11,O2 39 (.call 18 true) 37 38,MV 36 39,O1 40 (.ext 0) 36,O1 41 (.ext 1)
 36,MV 12 40,MV 13 41] (vU [MV 42 13,vP 43 .neq 42 0,MV 44 43,vS 45 44 12,vT 46 44 (.bin .lss) 45 (i6 (-1)),PT 47 44 46,MV 48 47,vS 49 48 12,vS 50 48 1,vQ 51 48 .len 50,vR 52 48
 (.bin .geq) 49 51,PT 53 48 52] (vV 53 (vX [MC 6 (.bool false)])))))).seq (vY [vP 54 .add 33 1,MV 33 54])))).loop)).seq (vX [ON 55 (.call 56 true) [],MV 6 55]))))))
theorem qc3:qO Tryz.prog 8 56 1 [RV.tmp 6] c8s:=fi Tryz.f8 [3] nY []
end
section
open Go Go.Proofs AF HY LN
namespace RC
def gDe(d:List Dc)(i:Nat):Bool:=decide (80<(d.getD i default).txt.length)||decide (20<(d.getD i default).sig.length)
def CQ(d:List Dc):Bool:=jB (gDe d) d.length||decide (8<d.length)
theorem qbH(b:List Dc)(h:wh)(hn:b.length<=9223372036854775807):ACalls Tryz.prog 110 [jT b] h (.bool (CQ b)) h:=by
 obtain⟨R,hR⟩:=wg (CQ b)
 rw[<-hR];unfold CQ at hR;have zb:jT b= .sl b.length λi=>dcC (b.getD i default):=rfl
 refine acO IR ?_;simp (disch:=omega) only[GU,go_sem];refine qt (T:=λi:Nat=>zk 29 [(0,jT b),(3,.int .i64 i)]) (H:=λ_=>h) (inv:=λi=>i<=b.length∧ ∀j,j<i->gDe b j=false) (m:=λi=>b.length-i) 0 ⟨nzl _,λj hj=>absurd hj (nnz j)⟩ (Wk.temps ?_) ?_
 ·(simp only[go_sem,qf,qc,qb,qe];try exact we)
 rintro i ⟨i1,i2⟩ K hK
 by_cases hi:i<b.length
 ·have k1:((i:Int)<b.length)=True:=wr;have k0:(0<=(i:Int))=True:=wr;have hit:gDe b i=true->R=true:=λhc=>by rw[hR,qY.2 ⟨i,hi,hc⟩];rfl
  have i3:=λhc=>xp (p:=gDe b) i2 hc
  have hG:gDe b i=(decide (80<(b.getD i default).txt.length)||decide (20<(b.getD i default).sig.length)):=rfl;obtain⟨w,hw⟩:=wg (b.getD i default)
  have ew:=hw.symm;rw[ew]at hG
  by_cases g1:80<w.txt.length
  ·have q1:((80:Int)<w.txt.length)=True:=wr;rw[hit (by rw[hG,dqt g1];rfl)];simp (disch:=omega) only[zb,dcC,k0,k1,ew,q1,go_sem]
   repeat' first|exact wc|with_reducible apply aiA|exact clz|fail
  have q1:((80:Int)<w.txt.length)=False:=wD
  by_cases g2:20<w.sig.length
  ·have q2:((20:Int)<w.sig.length)=True:=wr;rw[hit (by rw[hG,dqt g2,Bool.or_true])];simp (disch:=omega) only[zb,dcC,k0,k1,ew,q1,q2,go_sem]
   repeat' first|exact wc|with_reducible apply aiA|exact clz|fail
  have q2:((20:Int)<w.sig.length)=False:=wD;simp (disch:=omega) only[zb,dcC,k0,k1,ew,q1,q2,go_sem]
  repeat' first|with_reducible apply aiA|exact clz|fail
  refine hK _ _ (i+1) ⟨hi,i3 (by rw[hG,dqf g1,dqf g2];rfl)⟩ om (Wk.temps ?_)
  (simp only[zb,dcC,go_sem,qf,qc,qb,qe];try exact we)
 obtain rfl:i=b.length:=by omega
 have k1:((b.length:Int)<b.length)=False:=wD;rw[qu.2 (λj hj=>i2 j hj),Bool.false_or]at hR
 by_cases g:8<b.length
 ·have q:((8:Int)<b.length)=True:=wr;rw[dqt g]at hR;rw[hR];simp (disch:=omega) only[zb,k1,q,go_sem]
  repeat' first|exact wc|fail
 ·have q:((8:Int)<b.length)=False:=wD;rw[dqf g]at hR;rw[hR];simp (disch:=omega) only[zb,k1,q,go_sem]
  repeat' first|exact wc|fail
theorem Nu{d:List Dc}(h:CQ d=false):d.length<=8∧(∀j,(d.getD j default).sig.length<=1000000)∧ ∀o∈d,o.txt.length<=1000:=by
 unfold CQ at h;rw[Bool.or_eq_false_iff,decide_eq_false_iff_not]at h;have key: ∀i,i<d.length-> ¬80<(d.getD i default).txt.length∧ ¬20<(d.getD i default).sig.length:=λi hi=>by
  have:=qu.1 h.1 i hi
  unfold gDe at this;rw[Bool.or_eq_false_iff,decide_eq_false_iff_not,decide_eq_false_iff_not]at this;exact this
 refine⟨om,ja d (λd=>d.sig.length<=1000000) (by decide) λi hi=>by have:=(key i hi).2;omega,λo ho=> ?_⟩;obtain⟨i,hi,rfl⟩:=List.getElem_of_mem ho
 have:=(key i hi).1
 rw[gdqA,zB hi]at this;simp only[Option.getD_some]at this;omega
theorem JU{x:Co}(hc:x.col.length<=1000000)(hs:x.sig.length<=1000000):cC (x9 x):=by
 have hl:(x9 x).length<=x.col.length:=by
  have h1:=mH (s:=0) (fZ x) (d:= []) (by simp) (x9 x).length (nlr _);have h2:=ci (fZ x) (nlr (x9 x).length);omega
 have key: ∀i,Yv ((x9 x).getD i default).rds:=λi=>by
  by_cases hi:i<(rnL x).length
  ·rw[fX hi];obtain⟨h1,h2,_⟩:=ZT hi;exact ZN x (rnL x)[i].1 ((rnL x)[i].2-(rnL x)[i].1) om x.sig.length om
  ·rw[gdqA,List.getElem?_eq_none (by rw[fY];omega)];have e0:(none.getD default:Un).rds= []:=rfl;exact⟨nzl _,λj=>by rw[e0,List.getD_nil];decide,λj=>by rw[e0,List.getD_nil];decide⟩
 exact⟨om,λi=>(key i).1,λi j=>(key i).2 j,λi j=>(key i).3 j⟩
def Gt(x:Co)(d:List Dc):Bool:= !Y9 x&&(decide (coE x=0)&& !CQ d)
def nL(x:Co)(q:Nat):Nat:=q%x.sig.length
def BU(x:Co)(d:List Dc):List Un:=if Gt x d=true then x9 x else []
def BW(x:Co)(d:List Dc)(q:Nat):List Wd:=if Gt x d=true then esR x (x9 x) d (nL x q) else []
def BV(x:Co)(d:List Dc)(q:Nat):Int:=if Gt x d=true then (nL x q:Int) else 0
def BS(x:Co)(d:List Dc)(q:Nat):Bool:=Gt x d&&decide (esE x (x9 x) d (nL x q)=0)
theorem B8(x:Co)(d:List Dc)(q:Nat)(h:wh)(hq:q<=255)(hp:kS SG h)(hg:jf h frmN frmC)(h1:CoB x)(h2:d.length<=9223372036854775807):
  ACalls Tryz.prog 55 [.agg (coC x),jT d,.int .u8 (q:Int)] h (.tup [zH (BU x d),jl (BW x d q),.int .i64 (BV x d q),.bool (BS x d q)]) h:=by
 have c1:=λh=>qdP x h h1
 have c3:=λh=>qbH d h h2
 unfold BU BW BV BS Gt;cases e1:Y9 x with
 |true=>
  rw[e1]at c1;unfold coC at c1;refine acO Qr ?_;simp (disch:=omega) only[Gg,coC,go_sem]
  repeat' first|(refine qj ( .int .i64 0) ?_;simp (disch:=omega) only[go_sem])|(refine cA (c1 _) flk ?_;simp (disch:=omega) only[go_sem])|(apply qa;exact rvk;simp only[go_sem])
  exact VLe.tup ⟨zh,zh,qi,qi,trivial⟩
 |false=>
 obtain⟨o1,o2,o3⟩:=Qx e1;have c2:=λl'=>coR x (h++l') o1 (hp.app l')
 rw[e1]at c1
 by_cases e2:coE x=0
 case neg=>
  have k2:(coE x=0)=False:=eqf e2;rw[dqf e2];obtain⟨E,hE⟩:=wg (coE x)
  simp only[<-hE]at c2 k2;unfold coC at c1 c2;refine acO Qr ?_;simp (disch:=omega) only[Gg,coC,go_sem]
  repeat' first|(refine qj ( .bool false) ?_;simp (disch:=omega) only[go_sem])|((first|refine cA (c1 _) ?_ ?_|refine cG (λe=>c2 _) ?_ ?_);exact flk;simp (disch:=omega) only[k2,go_sem])|(apply qa;exact rvk;simp only[go_sem])
  exact VLe.tup ⟨zh,zh,qi,qi,trivial⟩
 rw[dqt e2];simp only[e2]at c2;cases e3:CQ d with
 |true=>
  rw[e3]at c3;unfold coC at c1 c2;refine acO Qr ?_;simp (disch:=omega) only[Gg,coC,go_sem]
  repeat' first|((first|refine cA (c1 _) ?_ ?_|refine cG (λe=>c2 _) ?_ ?_|refine cG (λe=>c3 _) ?_ ?_);exact flk;simp (disch:=omega) only[go_sem])|(apply qa;exact rvk;simp only[go_sem])
  exact VLe.tup ⟨zh,zh,qi,qi,trivial⟩
 |false=>
 rw[e3]at c3;obtain⟨d1,d2,d3⟩:=Nu e3;have ho:=wX e2;have hsg:=ho.sg;have zu:=JU (x:=x) om om;have c4:=λl'=>qce x (h++l') o1 (hp.app l')
 have u1:utR x=x9 x:=by unfold utR;rw[ipo e2]
 have u2:utE x=0:=by unfold utE;rw[ipo e2]
 rw[u1,u2]at c4;have c5:=λl'=>qdI x (x9 x) d (nL x q) (h++l') o1 zu (hp.app l') hg.app om d3 (λg=>EC om d3 g)
 have hnl:nL x q<x.sig.length:=Nat.mod_lt _ hsg.1;have hn1:(q:Int)%(x.sig.length:Int)=(nL x q:Int):=by unfold nL;omega
 have k1:((x.sig.length:Int)=0)=False:=wD;have zg1: ∀g,valL g .len [strs x.sig]= .int .i64 x.sig.length:=λ_=>rfl
 have zg2: ∀g,okL g .len [strs x.sig]=True:=λ_=>eqt trivial
 obtain⟨E,hE⟩:=wg (esE x (x9 x) d (nL x q))
 obtain⟨b,hb⟩:=wg (esR x (x9 x) d (nL x q))
 obtain⟨l,hl⟩:=wg (x9 x)
 obtain⟨n,hn⟩:=wg (nL x q)
 simp only[<-hE,<-hb]at c5;simp only[<-hl,<-hn]at c4 c5 hn1 ⊢;rw[<-hn]at hE hb hnl;rw[<-hl]at hE hb;simp only[<-hE,<-hb,Bool.not_false,Bool.true_and,Bool.and_true,if_true];unfold coC at c1 c2 c4 c5
 by_cases e4:E=0
 ·have k3:(E=0)=True:=eqt e4;rw[dqt e4];refine acO Qr ?_;simp (disch:=omega) only[Gg,coC,go_sem]
  repeat' first|((first|refine cA (c1 _) ?_ ?_|refine cG (λe=>c2 _) ?_ ?_|refine cG (λe=>c3 _) ?_ ?_|refine cA (c4 _) ?_ ?_|refine cA (c5 _) ?_ ?_);exact flk;simp (disch:=omega) only[zg1,zg2,k1,k3,hn1,go_sem])|exact wa|with_reducible apply aiA|exact clz|fail
 ·have k3:(E=0)=False:=eqf e4;rw[dqf e4];refine acO Qr ?_;simp (disch:=omega) only[Gg,coC,go_sem]
  repeat' first|((first|refine cA (c1 _) ?_ ?_|refine cG (λe=>c2 _) ?_ ?_|refine cG (λe=>c3 _) ?_ ?_|refine cA (c4 _) ?_ ?_|refine cA (c5 _) ?_ ?_);exact flk;simp (disch:=omega) only[zg1,zg2,k1,k3,hn1,go_sem])|exact wa|with_reducible apply aiA|exact clz|fail
theorem B9{x:Co}{d:List Dc}{q:Nat}(h:BS x d q=true):aP x∧(x.col.length<=24∧x.sig.length<=36)∧cC (x9 x)∧d.length<=8∧(∀j,(d.getD j default).sig.length<=1000000)∧(∀o∈d,o.txt.length<=1000)∧yP x (x9 x) d (nL x q)∧
  BU x d=x9 x∧BW x d q=bsW (rwA x (x9 x) d (nL x q))∧BV x d q=(nL x q:Int):=by
 unfold BS at h;rw[Bool.and_eq_true,decide_eq_true_iff]at h;obtain⟨h1,h2⟩:=h;have h3:=h1;unfold Gt at h3;rw[Bool.and_eq_true,Bool.and_eq_true,Bool.not_eq_true',Bool.not_eq_true',decide_eq_true_iff]at h3;obtain⟨a1,a2,a3⟩:=h3;obtain⟨o1,o2,o3⟩:=Qx a1;obtain⟨d1,d2,d3⟩:=Nu a3;obtain⟨_,E⟩:=IL h2;rw[itn]at E;refine⟨o1,⟨o2,o3⟩,JU om om,d1,d2,d3,E,?_,?_,?_⟩
 ·unfold BU;rw[ipo h1]
 ·unfold BW;rw[ipo h1];unfold esR;rw[ipo h2,itn]
 ·unfold BV;rw[ipo h1]
theorem NL(x:Co)(d:List Dc)(q:Nat)(h:wh)(hq:q<=255)(hp:kS SG h)(hg:jf h frmN frmC)(h1:CoB x)(h2:d.length<=9223372036854775807):
  ACalls Tryz.prog 8 [.agg (coC x),jT d,.int .u8 (q:Int)] h (.bool true) h:=by
 have c1:=λl'=>B8 x d q (h++l') hq (hp.app l') hg.app h1 h2
 have c2:=λl'=>AX (h++l') (hp.app l')
 obtain⟨B,hB⟩:=wg (BS x d q)
 obtain⟨l,hl⟩:=wg (BU x d)
 obtain⟨b,hb⟩:=wg (BW x d q)
 obtain⟨n,hn⟩:=wg (BV x d q)
 simp only[<-hB,<-hl,<-hb,<-hn]at c1;unfold coC at c1;cases B with
 |false=>
  refine acO qc3 ?_;simp (disch:=omega) only[c8s,coC,go_sem]
  repeat' first|((first|refine cA (c1 _) ?_ ?_|refine cA (c2 _) ?_ ?_);exact flk;simp (disch:=omega) only[go_sem])|exact wa|with_reducible apply aiA|exact clz|fail
 |true=>
 obtain⟨o1,⟨o2,o3⟩,zu,d1,d2,d3,E,e1,e2,e3⟩:=B9 hB.symm;rw[<-hl]at e1;rw[<-hb]at e2;have hln:=E.ln;have hlen:b.length=(rwA x (x9 x) d (nL x q)).length:=by rw[e2,jH]
 have hpv:=B7 E;rw[<-e1]at hpv zu;rw[e1,<-e2,<-e1]at hpv;have F:=λi (hi:i<(rwA x (x9 x) d (nL x q)).length)=>eZ E hi rfl
 rw[<-e2]at F;have ht: ∀i,(b.getD i default).text.length<=1000000000:=ja b (λw=>w.text.length<=1000000000) (by decide) λi hi=>by have:=(F i om).2.1.2;omega
 have c3:=λl'=>pvP x l b (h++l') o1 zu om ht (hp.app l')
 rw[hpv]at c3;have zb1: ∀g,valL g .len [jl b]= .int .i64 b.length:=λ_=>rfl
 have zb2: ∀g,okL g .len [jl b]=True:=λ_=>eqt trivial
 have zd1: ∀g,valL g .len [jT d]= .int .i64 d.length:=λ_=>rfl
 have zd2: ∀g,okL g .len [jT d]=True:=λ_=>eqt trivial
 unfold coC at c3;refine acO qc3 ?_;simp (disch:=omega) only[c8s,coC,go_sem]
 repeat' first|((first|refine cA (c1 _) ?_ ?_|refine cA (c3 _) ?_ ?_);exact flk;simp (disch:=omega) only[zb1,zb2,go_sem])|with_reducible apply aiA|exact clz|fail
 refine qt (T:=λi:Nat=>zk 56 [(1,jT d),(8,jl b),(32,.int .i64 b.length),(33,.int .i64 i)]) (H:=λ_=>h++ [.mem 1 26 (coC x)])
  (inv:=λi=>i<=b.length) (m:=λi=>b.length-i) 0 (nzl _) (Wk.temps ?_) ?_
 ·(simp only[go_sem,qf,qc,qb,qe];try exact we)
 rintro i i1 K hK
 by_cases hi:i<b.length
 ·have k1:((i:Int)<b.length)=True:=wr;have c4:=λh=>qa6 b i h
  obtain⟨_,_,⟨f5,f6⟩,_⟩:=F i om;have eE:deE b i=0:=by unfold deE;rw[ine om]
  have eR:deR b i=(b.getD i default).dec:=by unfold deR;rw[ipo eE,itn]
  rw[eE,eR]at c4;obtain⟨y,hy⟩:=wg ((b.getD i default).dec)
  rw[<-hy]at f5 f6;simp only[<-hy]at c4;have q1:(y< -1)=False:=wD;have q2:((d.length:Int)<=y)=False:=wD;simp (disch:=omega) only[k1,go_sem]
  repeat' first|(refine cA (c4 _) flk ?_;simp (disch:=omega) only[zd1,zd2,q1,q2,go_sem])|with_reducible apply aiA|exact clz|fail
  refine hK _ _ (i+1) hi om (Wk.temps ?_)
  (simp only[go_sem,qf,qc,qb,qe];try exact we)
 have k1:((i:Int)<b.length)=False:=wD;simp (disch:=omega) only[k1,go_sem]
 repeat' first|(refine cA (c2 _) flk ?_;simp (disch:=omega) only[go_sem])|exact wa|fail
end RC
end
section
open Go Go.Proofs AF HY Go.ChangeShapes Go.RowKit
namespace LN
theorem qbE : Tryz.prog.globalNamed "internal/strconv.uint64pow10" = some 3 := by kernel_rfl
theorem qbG : Tryz.prog.globalNamed "strconv.ErrSyntax" = some 7 := by kernel_rfl
theorem qbF : Tryz.prog.globalNamed "strconv.ErrRange" = some 8 := by kernel_rfl
theorem qc5 : Tryz.prog.globalNamed "apograph/transcript.forms" = some 4 := by kernel_rfl
theorem Xa{w w':World}(h:AI w)(e:w'.heap[3]? =w.heap[3]?):AI w':=by
 unfold AI Lib.TabIs at*;rw[gf qbE e];exact h
theorem mT : "*" ++ "errors.errorString" = "*errors.errorString" := by decide
theorem Au (u : TypeId) (h : Tryz.prog.typeName? 3 u = some "*errors.errorString") : u = 348 :=
 typeName_ptr_named (nm := "errors.errorString") (by rw [mT]; kernel_rfl) (by kernel_rfl) (by decide) u (by rw [mT]; exact h)
structure Fr where
 s:List UInt8
 a:Bool
 b:Bool
 c:Bool
def Fr.av(r:Fr):wi:= [.str r.s,.bool r.a,.bool r.b,.bool r.c]
def Fr.vl(r:Fr):List Value:= [.string ⟨r.s.toArray⟩,.bool r.a,.bool r.b,.bool r.c]
def Fr.da{H:Type}(r:Fr):DataW H:= .agg [.lit (.string r.s),.lit (.bool r.a),.lit (.bool r.b),.lit (.bool r.c)]
def frL:List Fr:= [⟨[],false,false,false⟩,⟨[],true,false,false⟩,⟨[108,98],false,false,false⟩,⟨[112,98],true,false,false⟩,⟨[115,101,99],true,false,false⟩,⟨[118],false,false,false⟩,
 ⟨[103,97,112],false,true,false⟩,⟨[117,110,99,108,101,97,114],false,false,true⟩,⟨[97,100,100],false,true,true⟩,⟨[100,101,108],false,true,true⟩,⟨[97,98],true,false,true⟩,⟨[110,97,109,101],true,false,true⟩]
theorem Ni:RC.frmC=frL.flatMap Fr.av:=rfl
theorem Nj:(YtiiegfkjmnoijaaGreatDoor.Rows.laid_apograph_transcript_forms:DataW Unit)= .agg (frL.map Fr.da):=rfl
theorem qbk{α β:Type}{f:α->List β}(hf: ∀a,(f a).length=4): ∀(l:List α) (i j:Nat),j<4->(l.flatMap f)[i*4+j]? =(l[i]?).bind λa=>(f a)[j]? :=by
 intro l
 induction l with
 |nil=>intro i j _;simp
 |cons a l ih=>
  intro i j hj;rw[List.flatMap_cons];cases i with
  |zero=>
   rw[Nat.zero_mul,Nat.zero_add,List.getElem?_append_left (by rw[hf];exact hj)];rfl
  |succ i=>
   rw[List.getElem?_append_right (by rw[hf];omega),hf,show (i+1)*4+j-4=i*4+j by omega,ih i j hj];rfl
theorem du:Tryz.prog.cellsOf 324=4:=by kernel_rfl
theorem lZ:Tryz.prog.cellsOf 325=48:=by kernel_rfl
theorem Vw:Tryz.prog.cellsOf 9=1:=by kernel_rfl
theorem Vu:Tryz.prog.cellsOf 4=1:=by kernel_rfl
theorem Ou{H:Type}{enc:TypeId×Value->H}{w:World}{base fuel:Nat}{spare:Nat->Bool}{held:Bool}{cs:List Value}{x:DataW H×List MemPlace}{r:Fr}
  (h:DataW.trod enc Tryz.prog w base spare held fuel 324 cs=some x) (hx:x.1=r.da):cs=r.vl:=by
 obtain⟨xs,n,_,hxe,hl,hxl,hf⟩:=DataW.trod_struct Tryz.underlying324 h;rw[du]at hl
 match cs,hl with
 | [v0,v1,v2,v3],_=>
 match xs,hxl with
 | [y0,y1,y2,y3],_=>
  have h0:DataW.trod enc Tryz.prog w base spare held n 9 (([v0,v1,v2,v3].drop 0).take (Tryz.prog.cellsOf 9))= [y0,y1,y2,y3][0]? :=hf 0 _ rfl;have h1:DataW.trod enc Tryz.prog w base spare held n 4 (([v0,v1,v2,v3].drop 1).take (Tryz.prog.cellsOf 4))= [y0,y1,y2,y3][1]? :=hf 1 _ rfl;have h2:DataW.trod enc Tryz.prog w base spare held n 4 (([v0,v1,v2,v3].drop 2).take (Tryz.prog.cellsOf 4))= [y0,y1,y2,y3][2]? :=hf 2 _ rfl;have h3:DataW.trod enc Tryz.prog w base spare held n 4 (([v0,v1,v2,v3].drop 3).take (Tryz.prog.cellsOf 4))= [y0,y1,y2,y3][3]? :=hf 3 _ rfl;rw[Vw]at h0;rw[Vu]at h1 h2 h3;obtain⟨s,e0,x0,_⟩:=DataW.trod_string Tryz.underlying9 h0;obtain⟨b1,e1,x1⟩:=DataW.trod_bool Tryz.underlying4 h1;obtain⟨b2,e2,x2⟩:=DataW.trod_bool Tryz.underlying4 h2;obtain⟨b3,e3,x3⟩:=DataW.trod_bool Tryz.underlying4 h3;have hy:([y0,y1,y2,y3]:List (DataW H×List MemPlace)).map (·.1)= [.lit (.string r.s),.lit (.bool r.a),.lit (.bool r.b),.lit (.bool r.c)]:=by
   have hx:=hxe▸hx;exact DataW.agg.inj hx
  rw[x0,x1,x2,x3]at hy;simp at hy e0 e1 e2 e3;obtain⟨g0,g1,g2,g3⟩:=hy;unfold Fr.vl;subst e0 e1 e2 e3;rw[<-g0,g1,g2,g3]
theorem qbB {W : World} {rest : List (String × DataW Unit)} (h : laidMet Tryz.prog (("apograph/transcript.forms", YtiiegfkjmnoijaaGreatDoor.Rows.laid_apograph_transcript_forms) :: rest) W) : oY 4 RC.frmC W := by
 obtain⟨ps,⟨g',t',cs,fuel,p,q,hg',ht',hvar,hd,_,_⟩,_⟩:=h;obtain rfl:=Option.some.inj (qc5.symm.trans hg');obtain rfl:325=t':=Option.some.inj ((show (Tryz.prog.globals[4]?).map (·.type)=some 325 by kernel_rfl).symm.trans ht');obtain⟨xs,m,_,hxe,hl,hxl,hr⟩:=DataW.trod_array Tryz.underlying325 hd;rw[lZ]at hl;have hxm:xs.map (·.1)=frL.map Fr.da:=by
  have:=congrArg Prod.fst hxe
  rw[Nj]at this;exact (DataW.agg.inj this).symm
 have rows: ∀i r,frL[i]? =some r->(cs.toList.drop (i*4)).take 4=r.vl:=λi r hi=>by
  have hil:i<12:=(lgs.1 hi).1;have e1:(xs.map (·.1))[i]? =some r.da:=by rw[hxm,List.getElem?_map,hi];rfl
  rw[List.getElem?_map,Option.map_eq_some_iff]at e1;obtain⟨y,hy,hy1⟩:=e1;have h1:=hr i hil;rw[hy,du]at h1;exact Ou h1 hy1
 have hv: ∃T fz,W.heap[4]? =some (.cells cs T fz):=by
  unfold World.var? at hvar;rw[qc5]at hvar;simp only[Option.bind_some]at hvar;split at hvar
  ·rename_i c T fz hc;cases hvar;exact⟨_,_,hc⟩
  ·cases hvar
 obtain⟨T,fz,hc⟩:=hv;refine⟨cs,T,fz,hc,?_,?_⟩
 ·have:cs.size=48:=by simpa using hl
  rw[this];exact Nat.le_of_eq rfl
 intro i c x hi hx;have hij:i=i/4*4+i%4:=by omega
 rw[Ni,hij,qbk (λ_=>rfl) frL _ _ (Nat.mod_lt _ (by decide)),Option.bind_eq_some_iff]at hi;obtain⟨r,hr1,hr2⟩:=hi;have h2:=rows _ _ hr1;have h3:r.vl[i%4]? =some x:=by
  rw[<-h2,List.getElem?_take,ipo (Nat.mod_lt _ (by decide)),List.getElem?_drop,<-hij];simpa using hx
 have h4:i%4<4:=Nat.mod_lt _ (by decide);obtain⟨j,hj⟩:=wg (i%4)
 rw[<-hj]at hr2 h3 h4
 match j,h4 with
 |0,_=>cases hr2;cases h3;exact⟨rfl,λ_ _=> .str⟩
 |1,_=>cases hr2;cases h3;exact⟨rfl,λ_ _=> .bool⟩
 |2,_=>cases hr2;cases h3;exact⟨rfl,λ_ _=> .bool⟩
 |3,_=>cases hr2;cases h3;exact⟨rfl,λ_ _=> .bool⟩
theorem CN{w w':World}(h:oY 4 RC.frmC w)(e:w'.heap[4]? =w.heap[4]?):oY 4 RC.frmC w':=by
 obtain⟨arr,T,fz,h1,h2⟩:=h;exact⟨arr,T,fz,e.trans h1,h2⟩
def xE:List Nat:= [4,3,7,8]
def XD(w:World):Prop:=RC.SG w∧oY 4 RC.frmC w
theorem OM{W:World}(h:laidMet Tryz.prog YtiiegfkjmnoijaaGreatDoor.Rows.topBaseWordsRow.laid W):AI W∧qai W∧oY 4 RC.frmC W:=by
 have h2:=laidMet.tail (laidMet.tail h);have h3:=laidMet.tail h2;have h4:=laidMet.tail h3;have h5:=laidMet.tail h4;obtain⟨a,s,e1,_⟩:=laid_sentinel (g:=8) (ti:=166) (tp:=348) (te:=350) (ts:=9) h3 qbF (by kernel_rfl) Tryz.underlying166 Au Tryz.underlying348 Tryz.underlying350 rfl rfl Tryz.underlying9 (by kernel_rfl) (by kernel_rfl);obtain⟨b,t,e2,_⟩:=laid_sentinel (g:=7) (ti:=166) (tp:=348) (te:=350) (ts:=9) h4 qbG (by kernel_rfl) Tryz.underlying166 Au Tryz.underlying348 Tryz.underlying350 rfl rfl Tryz.underlying9 (by kernel_rfl) (by kernel_rfl);exact⟨Lib.tabIs_of_head (t:=315) (e:=218) (n:=20) qbE (by kernel_rfl) Tryz.underlying315 Tryz.underlying218 (by kernel_rfl) (by kernel_rfl) h2,⟨⟨_,_,e2⟩,_,_,e1⟩,qbB h5⟩
theorem fG{W:World}(h:laidMet Tryz.prog YtiiegfkjmnoijaaGreatDoor.Rows.topBaseWordsRow.laid W): ∀b,b∈xE-> ∃arr T fz,W.heap[b]? =some (.cells arr T fz):=by
 intro b hb;obtain⟨h1,⟨⟨_,_,h2⟩,_,_,h3⟩,arr,T,fz,h4,_⟩:=OM h;have e:b=4∨b=3∨b=7∨b=8:=by simpa[xE] using hb
 rcases e with rfl|rfl|rfl|rfl
 ·exact⟨_,_,_,h4⟩
 ·exact cu qbE h1
 ·exact cu qbG h2
 ·exact cu qbF h3
theorem mL{W:World}(h:laidMet Tryz.prog YtiiegfkjmnoijaaGreatDoor.Rows.topBaseWordsRow.laid W): ∀w':World,(∀b,b∈xE->w'.heap[b]? =W.heap[b]?)->XD w':=by
 intro w' hs;obtain⟨h1,⟨⟨t1,p1,h2⟩,t2,p2,h3⟩,h4⟩:=OM h;refine⟨⟨Xa h1 (hs 3 (by simp[xE])),⟨t1,p1,?_⟩,t2,p2,?_⟩,CN h4 (hs 4 (by simp[xE]))⟩
 ·rw[gf qbG (hs 7 (by simp[xE]))];exact h2
 ·rw[gf qbF (hs 8 (by simp[xE]))];exact h3
theorem mK:kS RC.SG [.pin xE XD]:=⟨0,_,_,rfl,λ_ h=>h.1⟩
theorem mJ:jf [.pin xE XD] RC.frmN RC.frmC:=⟨0,_,_,rfl,by simp[xE],λ_ h=>h.2⟩
end LN
end
