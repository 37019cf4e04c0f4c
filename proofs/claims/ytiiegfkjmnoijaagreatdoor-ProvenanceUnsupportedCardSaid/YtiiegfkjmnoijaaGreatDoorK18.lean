import Derived.Test.YtiiegfkjmnoijaaGreatDoorK17
import Derived.Test.YtiiegfkjmnoijaaGreatDoorK12
import Derived.Test.YtiiegfkjmnoijaaGreatDoorK3
import Derived.Test.YtiiegfkjmnoijaaGreatDoorK5
import Derived.Test.YtiiegfkjmnoijaaGreatDoorK8
import Derived.Test.YtiiegfkjmnoijaaGreatDoorProg
import Derived.Lib.ItoaLen
import Derived.Test.YtiiegfkjmnoijaaGreatDoorK14
import Derived.Test.YtiiegfkjmnoijaaGreatDoorK16
set_option linter.all false
set_option maxHeartbeats 256000000
set_option maxRecDepth 100000
section
open Go Go.Proofs AF HY LN
namespace RC
theorem qdG{b:List Wd}{u:Nat}{x:Int}: ∀n,x∈wdN b u n↔ ∃j:Nat,j<n∧(b.getD j default).unit=(u:Int)∧x=(j:Int):=by
 intro n
 induction n with
 |zero=>exact⟨λh=>(nomatch h),λ⟨_,h,_⟩=>absurd h (nnz _)⟩
 |succ n ih=>
  have e:wdN b u (n+1)=wdN b u n++if inU b (u:Int) n=true then [(n:Int)] else []:=rfl
  have ei:inU b (u:Int) n=decide ((b.getD n default).unit=(u:Int)):=rfl;rw[e,List.mem_append,ih,ei];constructor
  ·rintro (⟨j,h1,h2,h3⟩|h)
   ·exact⟨j,om,h2,h3⟩
   ·split at h
    ·rename_i hd;exact⟨n,om,of_decide_eq_true hd,List.mem_singleton.1 h⟩
    ·cases h
  ·rintro⟨j,h1,h2,h3⟩
   by_cases ej:j=n
   ·subst ej;rw[ipo (dqt h2)];exact .inr (List.mem_singleton.2 h3)
   ·exact .inl ⟨j,om,h2,h3⟩
theorem qCT(b:List Wd)(u:Nat): ∀n,(wdN b u n).Nodup:=by
 intro n
 induction n with
 |zero=>exact List.nodup_nil
 |succ n ih=>
  have e:wdN b u (n+1)=wdN b u n++if inU b (u:Int) n=true then [(n:Int)] else []:=rfl
  rw[e];split
  ·refine List.nodup_append.2 ⟨ih,by simp,λx hx y hy=> ?_⟩;obtain⟨j,h1,_,h3⟩:=(qdG n).1 hx
   have:=List.mem_singleton.1 hy
   omega
  ·rw[lan];exact ih
theorem qfR{l:List Un}{b:List Wd}{x:Int}: ∀n,x∈usG l b n↔ ∃u:Nat,u<n∧brK l b u<0∧ ∃j:Nat,j<b.length∧(b.getD j default).unit=(u:Int)∧x=(j:Int):=by
 intro n
 induction n with
 |zero=>exact⟨λh=>(nomatch h),λ⟨_,h,_⟩=>absurd h (nnz _)⟩
 |succ n ih=>
  have e:usG l b (n+1)=usG l b n++if brK l b n<0 then wdN b n b.length else []:=rfl
  rw[e,List.mem_append,ih];constructor
  ·rintro (⟨u,h1,h2,h3⟩|h)
   ·exact⟨u,om,h2,h3⟩
   ·split at h
    ·rename_i hd;exact⟨n,om,hd,(qdG _).1 h⟩
    ·cases h
  ·rintro⟨u,h1,h2,h3⟩
   by_cases eu:u=n
   ·subst eu;rw[ipo h2];exact .inr ((qdG _).2 h3)
   ·exact .inl ⟨u,om,h2,h3⟩
theorem qsi(l:List Un)(b:List Wd): ∀n,(usG l b n).Nodup:=by
 intro n
 induction n with
 |zero=>exact List.nodup_nil
 |succ n ih=>
  have e:usG l b (n+1)=usG l b n++if brK l b n<0 then wdN b n b.length else []:=rfl
  rw[e];split
  ·refine List.nodup_append.2 ⟨ih,qCT _ _ _,λx hx y hy=> ?_⟩;obtain⟨u,h1,_,j,_,h2,h3⟩:=(qfR n).1 hx;obtain⟨i,_,h4,h5⟩:=(qdG _).1 hy;intro exy
   have:j=i:=by omega
   subst this;omega
  ·rw[lan];exact ih
theorem qsf{n:Nat}{L:List Int}(hn:L.Nodup)(h: ∀x∈L,0<=x∧x<n):qgQ L=qbB (λk=>decide ((k:Int)∈L)) n:=by
 have hsrt:(qgQ L).Pairwise (· <= ·):=by
  refine (List.pairwise_mergeSort (le:=λx y:Int=>decide (x<=y)) (λa b c h1 h2=> ?_) (λa b=> ?_) L).imp λh=>of_decide_eq_true h
  ·exact dqt (Int.le_trans (of_decide_eq_true h1) (of_decide_eq_true h2))
  ·rw[Bool.or_eq_true,decide_eq_true_iff,decide_eq_true_iff];omega
 have hnd:(qgQ L).Nodup:=(List.mergeSort_perm L _).nodup_iff.2 hn;have hlt:(qgQ L).Pairwise (· < ·):=(hsrt.and hnd).imp λ{a b} hab=>by
  have h1:=hab.1;have h2:a≠b:=hab.2;omega
 refine qEU hlt (que _ _) λx=> ?_
 have hm:x∈qgQ L↔x∈L:=List.mem_mergeSort;rw[hm,qgv];constructor
 ·intro hx;obtain⟨x0,x1⟩:=h x hx;exact⟨x.toNat,om,dqt (by rw[show ((x.toNat:Nat):Int)=x by omega];exact hx),om⟩
 ·rintro⟨k,_,hb,rfl⟩;exact of_decide_eq_true hb
theorem qpw{n:Nat}{L:List Int}(hn:L.Nodup)(h: ∀x∈L,0<=x∧x<n):L.length<=n:=by
 have e:qgQ L=qbB (λk=>decide ((k:Int)∈L)) n:=qsf hn h
 have:=qgu (λk=>decide ((k:Int)∈L)) n
 rw[<-e,UL]at this;exact this
theorem qne{l:List Un}{b:List Wd}: ∀x∈usG l b l.length,0<=x∧x<b.length:=λx hx=>by
 obtain⟨u,_,_,j,h1,_,h3⟩:=(qfR _).1 hx;omega
theorem qvB(l:List Un)(b:List Wd):(usG l b l.length).length<=b.length:=qpw (qsi _ _ _) qne
theorem qkZ{x:Co}{l:List Un}{b:List Wd}(ho:qDo x l){u:Nat}(hul:u<l.length):hsK l b u= []↔brK l b u<0:=by
 have hmem:l.getD u default∈l:=by rw[gdqA,zC hul];exact List.getElem_mem hul
 have hrh:=qa0 x (l.getD u default).frm.toNat (l.getD u default).to.toNat;rw[<-(ho.rg _ hmem).2.2.2]at hrh;have hlt:=qcF l b u;unfold hsK;split
 ·rename_i h0
  have:=hrh.nn (brK l b u).toNat om
  exact⟨λe=>absurd e this,λe=>by omega⟩
 ·exact⟨λ_=>by omega,λ_=>rfl⟩
theorem qCs(x:Co)(l:List Un)(b:List Wd):(if pvE x l b=0 then qgQ (usG l b l.length) else [])=unK x l b:=by
 unfold unK;split
 ·rename_i g1;have hok:=qem g1;have huo:=Tq hok.un;rw[qsf (qsi _ _ _) qne];refine qhH λi hi=> ?_
  rw[decide_eq_decide,qfR];obtain⟨p1,p2⟩:=qc1 g1 hi;constructor
  ·rintro⟨u,h1,h2,j,h3,h4,h5⟩
   have:i=j:=by omega
   subst this;unfold soK;rw[ine om,h4,itn];exact (qkZ huo h1).2 h2
  ·intro h0;unfold soK at h0;split at h0
   ·have hs:=(SV hok.co).sg.1
    have:=qaP x.sig.length
    rw[h0]at this;simp only[lnl]at this;omega
   ·rename_i hneg;have hul:(b.getD i default).unit.toNat<l.length:=by omega
    exact⟨(b.getD i default).unit.toNat,hul,(qkZ huo hul).1 h0,i,hi,om,rfl⟩
 ·rfl
end RC
end
section
open Go Go.Proofs AF
def qtU:List Nat:= [114,116]
def qw8:C:=
 (vU [O1 5 (.box 0 26) 0,MC 10 (.str []),vO 11 0] ((vU [O1 19 (.load (some 4)) 5,MV 20 1,MV 21 3,ON 22 (.call 17 true) [.t 19,.t 20,.t 21],MV 12 22] (vU [MV 23 12,vP 24 .neq 23
 0] (vV 24 (vX [MV 25 12,MC 10 (.str []),MV 11 25])))).seq ((vU [MV 26 4,vP 27 .lss 26 0,MV 28 27,vS 29 28 4,vS 30 28 3,vQ 31 28 .len 30,vR 32 28 (.bin .geq) 29 31,PT 33 28 32]
 (vV 33 (vX [MC 10 (.str []),vO 11 2]))).seq (vU [MV 34 3,MV 35 4,O2 36 (.idxA 7) 34 35,O1 37 (.load (some 7)) 36,⟨some 13,none,.alloc 1 36 [.str [],i6 0,i6 0,i6 0,.bool
 false,.bool false,.str []],[]⟩,ST 7 13 37] ((vU [vN 38 3 13,LD 39 38,MV 40 2,O1 41 .len 40,BI 42 .geq 39 41] (vV 42 (vX [MC 10 (.str []),vO 11 6]))).seq (vU [⟨some
 43,none,.build [.nilp,.nl] [],[]⟩,O1 44 (.box 2 160) 43,MV 14 44] ((C.wk.seq (vY [MV 45 14,O1 46 (.mkfn (Fn.func 114) 1) 45,MV 15 46])).seq (vU [MV 47 15,vN 48 0 13,LD 49
 48,⟨some 50,none,.bslc 3 1 2 9 [.str []] [(0,1),(1,1)],[.t 49,.c (.str [58,32])]⟩,O2 51 .callv 47 50] (vU [⟨some 52,none,.bslc 4 1 0 9 [.str []] [],[]⟩,MV 16 52] ((vU [O1 53
 (.load (some 4)) 5,MV 54 1,MV 55 3,MV 56 4,ON 57 (.call 74 true) [.t 53,.t 54,.t 55,.t 56],O1 58 .len 57,vO 59 0] (C.block 0 (vU [BI 60 .lss 59 58] ((vW 60 0).seq ((C.block 1
 (vU [O2 61 (.idxA 1) 57 59,LD 62 61,MV 18 62] (vY [MV 63 16,vN 64 1 5,LD 65 64,MV 66 18,O2 67 (.idxA 1) 65 66,LD 68 67,⟨some 69,none,.bslc 5 1 1 9 [.str []] [(0,1)],[.t 68]⟩,O2
 70 (.app 6 1 9 16) 63 69,MV 16 70]))).seq (vY [vP 71 .add 59 1,MV 59 71])))).loop)).seq ((vU [MV 72 16,O1 73 .len 72,vP 74 .eql 73 0] (vV 74 (vY [MV 75 16,⟨some 76,none,.bslc 7
 1 1 9 [.str []] [(0,1)],[.c (.str [110,111,32,115,111,117,114,99,101])]⟩,O2 77 (.app 8 1 9 16) 75 76,MV 16 77]))).seq (vU [MV 78 15,MV 79 16,OC 80 (.call 61 true) 79 (.str
 [32]),⟨some 81,none,.bslc 9 1 2 9 [.str []] [(0,1),(1,1)],[.t 80,.c (.str [59,32])]⟩,O2 82 .callv 78 81] ((C.block 2 (vU [vN 90 2 13,LD 91 90,vP 92 .lss 91 0,MV 89 92] (C.cond
 (.t 89) (vY [MV 93 15,⟨some 94,none,.bslc 10 1 1 9 [.str []] [(0,1)],[.c (.str [99,111,109,109,111,110])]⟩,O2 95 .callv 93 94]) (vU [vN 97 3 13,LD 98 97,vP 99 .lss 98 0,MV 96
 99] (C.cond (.t 96) (vY [MV 100 15,⟨some 101,none,.bslc 11 1 1 9 [.str []] [(0,1)],[.c (.str [108,101,97,100,105,110,103,32,115,111,117,114,99,101])]⟩,O2 102 .callv 100 101])
 (vU [MV 104 2,vN 105 3 13,LD 106 105,O2 107 (.idxA 4) 104 106,vN 108 0 107,LD 109 108,vP 110 .eql 109 1,MV 103 110] (C.cond (.t 103) (vY [MV 111 15,vN 112 3 13,LD 113 112,O1
 114 (.call 115 true) 113,MV 115 2,vN 116 3 13,LD 117 116,O2 118 (.idxA 4) 115 117,vN 119 1 118,LD 120 119,⟨some 121,none,.bslc 12 1 4 9 [.str []] [(0,1),(1,1),(2,1),(3,1)],[.c
 (.str [100,101,99,105,115,105,111,110,32]),.t 114,.c (.str [44,32,99,104,111,105,99,101,32,111,102,32]),.t 120]⟩,O2 122 .callv 111 121]) (vY [MV 83 15,vN 84 3 13,LD 85 84,O1 86
 (.call 115 true) 85,⟨some 87,none,.bslc 13 1 3 9 [.str []] [(0,1),(1,1),(2,1)],[.c (.str [100,101,99,105,115,105,111,110,32]),.t 86,.c (.str
 [44,32,99,111,110,106,101,99,116,117,114,101])]⟩,O2 88 .callv 83 87])))))))).seq (vX [MV 123 14,O1 124 .nilchk 123,vN 125 0 124,O1 126 (.call 116 false) 125,MV 10 126,vO 11
 0]))))))))))))))
theorem qkP:qP Tryz.prog 60 127 15 [RV.tmp 10,RV.tmp 11] qw8:=fi Tryz.f60 [5,13,44,50,52,69,70,76,77,81,94,101,121,87,43] qtU [10]
end
section
open Go Go.Proofs AF HY LN
namespace RC
def exE(x:Co)(l:List Un)(d:List Dc)(b:List Wd)(i:Int):Int:=if pvE x l b≠0 then pvE x l b else if i<0∨(b.length:Int)<=i then 2 else if (d.length:Int)<=(b.getD i.toNat default).dec then 6 else 0
def joN(x:Co)(S:List Int):List Str:=S.map λs=>x.sig.getD s.toNat []
def nmN(x:Co)(S:List Int):List Str:=if S= [] then [[110,111,32,115,111,117,114,99,101]] else joN x S
def tlL(d:List Dc)(w:Wd):List Str:=
 if w.unit<0 then [[99,111,109,109,111,110]] else if w.dec<0 then [[108,101,97,100,105,110,103,32,115,111,117,114,99,101]] else
  if (d.getD w.dec.toNat default).kind=1 then [[100,101,99,105,115,105,111,110,32],Lib.itoa w.dec,[44,32,99,104,111,105,99,101,32,111,102,32],(d.getD w.dec.toNat default).sig]
  else [[100,101,99,105,115,105,111,110,32],Lib.itoa w.dec,[44,32,99,111,110,106,101,99,116,117,114,101]]
def qtq(x:Co)(d:List Dc)(w:Wd)(S:List Int):Str:=(([]++ [w.text,[58,32]].flatten)++ [Lib.join (nmN x S) [32],[59,32]].flatten)++(tlL d w).flatten
def exR(x:Co)(l:List Un)(d:List Dc)(b:List Wd)(i:Int):Str:=if exE x l d b i=0 then qtq x d (b.getD i.toNat default) (soK x l b i.toNat) else []
theorem qvo(sep:Str)(B:Nat): ∀(L:List Str),(∀s∈L,s.length<=B)->(Lib.joinTail sep L).length<=L.length*(sep.length+B):=by
 intro L
 induction L with
 |nil=>intro _;simp[Lib.joinTail]
 |cons a L ih=>
  intro h;have e:Lib.joinTail sep (a::L)=(sep++a)++Lib.joinTail sep L:=by simp[Lib.joinTail]
  rw[e,lap,lap,lco,Nat.succ_mul];have h1:=ih (λs hs=>h s (List.mem_cons_of_mem _ hs));have h2:=h a (List.mem_cons_self ..);omega
theorem qfe(sep:Str)(B:Nat)(L:List Str)(h: ∀s∈L,s.length<=B):(Lib.join L sep).length<=L.length*(sep.length+B):=by
 cases L with
 |nil=>simp[Lib.join_nil]
 |cons a L=>
  rw[Lib.join_cons,lap,lco,Nat.succ_mul];have h1:=qvo sep B L (λs hs=>h s (List.mem_cons_of_mem _ hs));have h2:=h a (List.mem_cons_self ..);omega
theorem qfy{x:Co}{l:List Un}{b:List Wd}(g:pvE x l b=0){i:Nat}(hi:i<b.length):(soK x l b i).length<=x.sig.length∧ ∀s∈soK x l b i,0<=s∧s<x.sig.length:=by
 have hok:=qem g;have huo:=Tq hok.un;obtain⟨p1,p2⟩:=qc1 g hi;unfold soK;split
 ·refine⟨Nat.le_of_eq (qaP _),λs hs=> ?_⟩;unfold qiK at hs;obtain⟨k,hk,rfl⟩:=List.mem_map.1 hs
  have:=List.mem_range.1 hk
  omega
 ·have hul:(b.getD i default).unit.toNat<l.length:=by omega
  refine⟨qk0 huo hul,λs hs=> ?_⟩;have hmem:l.getD (b.getD i default).unit.toNat default∈l:=by rw[gdqA,zC hul];exact List.getElem_mem hul
  have hri:qdK (l.getD (b.getD i default).unit.toNat default).rds x.sig.length:=by rw[(huo.rg _ hmem).2.2.2];exact qa1 _ _ _
  have hlt:=qcF l b (b.getD i default).unit.toNat;unfold hsK at hs;split at hs
  ·exact (hri.src _ (qrS om)).2 s hs
  ·cases hs
theorem qcj{n:Int}(h0:0<=n)(h1:n<=1000000000):(Lib.itoa n).length<=1000:=by
 have:=Lib.itoa_length_le n om om
 omega
structure XZ where
 i:Nat
 v:Nat
 O:AObj
theorem qku(x:Co)(l:List Un)(d:List Dc)(b:List Wd)(i:Int)(h:wh)(hz:UW x)(hu:qaH l)(hb:b.length<=1000000)(ht: ∀i,(b.getD i default).text.length<=1000000000)(hn:x.sig.length<=1000)
  (hsl: ∀s,(x.sig.getD s []).length<=1000) (hdl:d.length<=1000000) (hds: ∀j,(d.getD j default).sig.length<=1000000) (hp:kv SG h):
  ACalls Tryz.prog 60 [.agg (coC x),zn l,jO d,jd b,.int .i64 i] h (.tup [.str (exR x l d b i),.int .i64 (exE x l d b i)]) h:=by
 have c38:=λl'=>pvP x l b (h++l') hz hu om ht (hp.app l')
 have z1: ∀g,valL g .len [jd b]= .int .i64 b.length:=λ_=>rfl
 have z2: ∀g,okL g .len [jd b]=True:=λ_=>eqt trivial
 have z3: ∀g,valL g .len [jO d]= .int .i64 d.length:=λ_=>rfl
 have z4: ∀g,okL g .len [jO d]=True:=λ_=>eqt trivial
 obtain⟨E,hE⟩:=wg (exE x l d b i)
 have hR:exR x l d b i=if E=0 then qtq x d (b.getD i.toNat default) (soK x l b i.toNat) else []:=by rw[hE];rfl
 rw[hR,<-hE];unfold exE at hE;unfold coC at c38
 by_cases g1:pvE x l b=0
 case neg=>
  rw[ipo g1]at hE;rw[hE,ine g1];have k1:(pvE x l b=0)=False:=eqf g1;refine acO qkP ?_;simp (disch:=omega) only[qw8,coC,go_sem]
  repeat' first|(refine cA (c38 _) flk ?_;simp (disch:=omega) only[k1,go_sem])|exact wa|fail
 rw[ine (λhc=>hc g1)]at hE;simp only[g1]at c38
 by_cases g2:i<0
 ·have k2:(i<0)=True:=eqt g2;rw[ipo (.inl g2)]at hE;rw[hE,ine (by decide)];refine acO qkP ?_;simp (disch:=omega) only[qw8,coC,go_sem]
  repeat' first|(refine cA (c38 _) flk ?_;simp (disch:=omega) only[z1,z2,k2,go_sem])|exact wa|fail
 have k2:(i<0)=False:=eqf g2
 by_cases g3:(b.length:Int)<=i
 ·have k3:((b.length:Int)<=i)=True:=eqt g3;rw[ipo (.inr g3)]at hE;rw[hE,ine (by decide)];refine acO qkP ?_;simp (disch:=omega) only[qw8,coC,go_sem]
  repeat' first|(refine cA (c38 _) flk ?_;simp (disch:=omega) only[z1,z2,k2,k3,go_sem])|exact wa|fail
 have k3:((b.length:Int)<=i)=False:=eqf g3;rw[ine (λhc=>hc.elim g2 g3)]at hE;obtain⟨j,rfl⟩: ∃j:Nat,i=(j:Int):=⟨i.toNat,om⟩
 rw[itn]at hE ⊢;have hjl:j<b.length:=by omega
 have k0:(0<=(j:Int))=True:=wj;have k5:((j:Int)<b.length)=True:=wj;have zb:jd b= .sl b.length λi=>wdC (b.getD i default):=rfl
 have hpu:=qc1 g1 hjl;obtain⟨hSl,hSr⟩:=qfy g1 hjl;have htx:=(qem g1).tx j hjl;have c84:=λh=>qse x l b j h hu hb hjl om hpu.2
 obtain⟨S,hS⟩:=wg (soK x l b j)
 rw[<-hS]at hSl hSr;rw[<-hS];simp only[<-hS]at c84;unfold coC at c84;obtain⟨w,hw⟩:=wg (b.getD j default)
 have ew:=hw.symm;rw[ew]at hE hpu htx;rw[ew]
 by_cases g4:(d.length:Int)<=w.dec
 ·have k4:((d.length:Int)<=w.dec)=True:=eqt g4;rw[ipo g4]at hE;rw[hE,ine (by decide)];refine acO qkP ?_;simp (disch:=omega) only[qw8,coC,zb,wdC,go_sem]
  repeat' first|(refine cA (c38 _) flk ?_;simp (disch:=omega) only[z3,z4,k2,k3,k0,k5,ew,k4,go_sem])|exact wa|fail
 have k4:((d.length:Int)<=w.dec)=False:=eqf g4;rw[ine g4]at hE;rw[hE,ipo rfl];clear hE hR;refine acO qkP ?_;simp (disch:=omega) only[qw8,coC,zb,wdC,go_sem]
 repeat' first|(refine cA (c38 _) flk ?_;simp (disch:=omega) only[z3,z4,k2,k3,k0,k5,ew,k4,go_sem])
 refine⟨_,_,Wk.ownNil (j:=h.length+2) (i:=1) (k:=h.length+14) (v:=1) (ty:=160) (cs:= [.nilp,.nl]) (ve:=0) (sz:=1) ?m1 rfl ?m2,?_⟩
 case m1=>simp only[go_sem]
 case m2=>simp only[go_sem]
 simp (disch:=omega) only[List.set_cons_zero,List.set_cons_succ,go_sem];have hb1:w.text.length<=64:=htx.2;obtain⟨s1,hs1⟩: ∃s,s= []++ [w.text,[58,32]].flatten:=⟨_,rfl⟩
 have hl1:s1.length<=66:=by rw[hs1];simp;omega
 unfold qtq;rw[<-hs1];have hNl:(nmN x S).length<=1001∧ ∀s∈nmN x S,s.length<=1000:=by
  unfold nmN joN;split
  ·exact⟨by simp,λs hs=>by rw[List.mem_singleton.1 hs];simp⟩
  ·refine⟨by rw[List.length_map];omega,λs hs=> ?_⟩;obtain⟨y,_,rfl⟩:=List.mem_map.1 hs;exact hsl _
 have hNM0:nmN x S=if S= [] then [[110,111,32,115,111,117,114,99,101]] else joN x S:=rfl
 obtain⟨NM,hNM⟩: ∃N,N=nmN x S:=⟨_,rfl⟩
 rw[<-hNM]at hNl hNM0 ⊢;have hjn:=qfe [32] 1000 NM hNl.2;obtain⟨J,hJ⟩:=wg (Lib.join NM [32])
 have hJl:(Lib.join NM [32]).length<=1002001:=by
  have e:NM.length*(([32]:Str).length+1000)<=1001*1001:=Nat.mul_le_mul hNl.1 (nlr _);omega
 have hNl1:=hNl.1;have hJ2:J.length<=1002001:=by rw[hJ];exact hJl
 obtain⟨s2,hs2⟩: ∃s,s=s1++ [J,[59,32]].flatten:=⟨_,rfl⟩
 have hl2:s2.length<=1002100:=by rw[hs2];simp;omega
 rw[<-hJ,<-hs2];refine qT (S5 (h.length+2) 1 (h.length+14) 0 (h.length+3) 1 .nilp [] [w.text,[58,32]] _ om om om (by simp only[go_sem];try rfl) (by simp only[go_sem];try rfl) (.inl rfl) (by simp only[go_sem];try rfl) (by simp) (by simp) (by simp;omega)) ?_;rw[<-hs1];simp (disch:=omega) only[wrO,go_sem];have y1: ∀g,valL g .len [qw S]= .int .i64 S.length:=λ_=>rfl
 have y2: ∀g,okL g .len [qw S]=True:=λ_=>eqt trivial
 repeat' first|(refine cA (c84 _) flk ?_;simp (disch:=omega) only[y1,y2,go_sem])
 obtain⟨O3,hO3⟩: ∃O:AObj,O=AObj.mem 1 9 (AV.str w.text::AV.str [58,32]::List.drop 1 (List.drop 1 (ja [AV.str []] 2))):=⟨_,rfl⟩
 rw[<-hO3];have eM:ja [AV.str []] 0=jv (joN x (S.take 0)):=rfl;rw[eM];have hjl0: ∀k,k<=S.length->(joN x (S.take k)).length=k:=λk hk=>by unfold joN;rw[List.length_map,List.length_take];omega
 have zS:qw S= .sl S.length λi=> [.int .i64 (S.getD i 0)]:=rfl
 have zG:strs x.sig= .sl x.sig.length λi=> [.str (x.sig.getD i [])]:=rfl
 refine qt (T:=λs:XZ=>zw 127 [(2,jO d),(5,.op h.length 1 0),(13,.op (h.length+1) 1 0),(14,.op (h.length+2) 1 0),(15,.fn (.func 114) [.op (h.length+2) 1 0] []),(16,.osl (h.length+4) s.v 1 0 s.i),(57,qw S),(58,.int .i64 S.length),(59,.int .i64 s.i)])
  (H:=λs=>h++ [.mem 1 26 [.str x.sec,strs x.sig,qm x.tok,qo x.col],.mem 1 36 [AV.str w.text,AV.int .i64 w.col,AV.int .i64 w.unit,AV.int .i64 w.dec,AV.bool w.joined,AV.bool w.verse,AV.str w.name],.mem 1 160 [.op (h.length+2) 1 0,.osl (h.length+14) 2 1 0 s1.length],O3,.mem s.v 9 (jv (joN x (S.take s.i))),s.O,.emp 0,.emp 0,.emp 0,.emp 0,.emp 0,.emp 0,.emp 0,.emp 0,T8 2 s1])
  (inv:=λs=>s.i<=S.length∧qK [s.O] 0=true) (m:=λs=>S.length-s.i) ⟨0,1,.emp 0⟩ ⟨nzl _,rfl⟩ (Wk.temps ?_) ?_
 ·(simp only[go_sem,qf,qc,qb,qe];try exact we)
 rintro⟨k,v,O⟩ ⟨q1,q2⟩ K hK;simp only at q1 q2 hK;have q2': ∀m,qK (O::m) 0=true:=λ_=>q2
 have hjk:=hjl0 k q1
 by_cases hk:k<S.length
 ·have r1:((k:Int)<S.length)=True:=wj;have r0:(0<=(k:Int))=True:=wj;have hmm:S.getD k 0∈S:=by rw[gdqA,zC hk];exact List.getElem_mem hk
  obtain⟨y1,y2⟩:=hSr _ hmm;have hst:joN x (S.take (k+1))=joN x (S.take k)++ [x.sig.getD (S.getD k 0).toNat []]:=by
   unfold joN;rw[List.take_add_one,List.map_append,zC hk,gdqA (l:=S),zC hk];rfl
  obtain⟨y,hy⟩: ∃y:Nat,S.getD k 0=(y:Int):=⟨(S.getD k 0).toNat,om⟩
  rw[hy,itn]at hst;rw[hy]at y1 y2;have t1:((y:Int)<x.sig.length)=True:=eqt y2;have t0:(0<=(y:Int))=True:=eqt y1;obtain⟨u,hu'⟩:=wg (x.sig.getD y [])
  have eu:=hu'.symm;rw[eu]at hst;obtain⟨M,hM⟩:=wg (joN x (S.take k))
  rw[<-hM]at hst hjk;rw[<-hM];have eC:=jE M;rw[hjk]at eC;have eT:List.take k (jv M)=jv M:=ltl om;simp (disch:=omega) only[zS,zG,r0,r1,hy,t0,t1,eu,q2',eC,eT,Nat.mul_one,go_sem]
  repeat' first|with_reducible apply aiA|exact clz|fail
  have eA:jv M++ [AV.str u]=jv (joN x (S.take (k+1))):=by rw[hst,qdl];rfl
  have eD:(AV.str u::List.drop 1 (ja [AV.str []] 1))= [AV.str u]:=rfl
  try rw[eD]
  rw[eA];refine hK _ _ ⟨k+1,v+1,.mem (qn (some O)+1) 9 [.str u]⟩ ⟨hk,rfl⟩ (by simp only;omega) (Wk.temps ?_)
  (simp only[zS,go_sem,qf,qc,qb,qe];try exact we)
 obtain rfl:k=S.length:=by omega
 clear hK;have r1:((S.length:Int)<S.length)=False:=wm;rw[List.take_length]at hjk ⊢
 by_cases h0:S= []
 ·have r2:((S.length:Int)=0)=True:=eqt (by rw[h0];rfl);rw[ipo h0]at hNM0;have hjz:joN x S= []:=by rw[h0];rfl
  have hSz:S.length=0:=by rw[h0];rfl
  rw[hjz,hSz];have eS0:jv ([]:List Str)= []:=rfl;rw[hSz]at r1 r2;have hNL:NM.length=1:=by rw[hNM0];rfl
  have eNM: [AV.str [110,111,32,115,111,117,114,99,101]]=jv NM:=by rw[hNM0];rfl
  simp (disch:=omega) only[r1,r2,eS0,Nat.mul_one,go_sem]
  repeat' first|with_reducible apply aiA|exact clz|fail
  try rw[eNM]
  refine cA (joB (L:=NM) (sep:= [32]) ?v1 om om) ?v2 ?v3
  case v2=>exact flk
  case v1=>
   simp only[List.map,go_sem]
   first
    |exact⟨qmx (λ_=>rfl) hNL.symm,qi,trivial⟩
    |(rw[ipo (by rw[jE];exact Nat.le_of_eq hNL.symm)];exact⟨qa3 _ (λ_=>rfl) hNL.symm,qi,trivial⟩)
  case v3=>
  rw[<-hJ];simp (disch:=omega) only[List.set_cons_zero,go_sem];unfold tlL
  by_cases u1:w.unit<0
  ·have e1:(w.unit<0)=True:=eqt u1;rw[ipo u1];refine qT (S5 (h.length+2) 1 (h.length+14) 2 (h.length+9) 1 (.op (h.length+2) 1 0) s1 [J,[59,32]] _ om om om (by simp only[go_sem];try rfl) (by simp only[go_sem];try rfl) (.inr rfl) (by simp only[go_sem];try rfl) (by simp) (by simp) (by simp;omega)) ?_;rw[<-hs2];simp (disch:=omega) only[wrO,e1,go_sem];obtain⟨s3,hs3⟩: ∃s,s=s2++([[99,111,109,109,111,110]]:List Str).flatten:=⟨_,rfl⟩
   rw[<-hs3];refine qT (S5 (h.length+2) 1 (h.length+14) 4 (h.length+10) 1 (.op (h.length+2) 1 0) s2 [[99,111,109,109,111,110]] _ om om om (by simp only[go_sem];try rfl) (by simp only[go_sem];try rfl) (.inr rfl) (by simp only[go_sem];try rfl) (by simp) (by simp) (by simp;omega)) ?_;rw[<-hs3];simp (disch:=omega) only[wrO,go_sem];refine qv (qsg (h.length+2) 1 (h.length+14) 5 (.op (h.length+2) 1 0) s3 _ om (by simp only[go_sem];try rfl) (by simp only[go_sem];try rfl)) (by exact flk) ?_;simp (disch:=omega) only[go_sem]
   repeat' first|exact wa|fail
  have e1:(w.unit<0)=False:=eqf u1;rw[ine u1]
  by_cases u2:w.dec<0
  ·have e2:(w.dec<0)=True:=eqt u2;rw[ipo u2];refine qT (S5 (h.length+2) 1 (h.length+14) 2 (h.length+9) 1 (.op (h.length+2) 1 0) s1 [J,[59,32]] _ om om om (by simp only[go_sem];try rfl) (by simp only[go_sem];try rfl) (.inr rfl) (by simp only[go_sem];try rfl) (by simp) (by simp) (by simp;omega)) ?_;rw[<-hs2];simp (disch:=omega) only[wrO,e1,e2,go_sem];obtain⟨s3,hs3⟩: ∃s,s=s2++([[108,101,97,100,105,110,103,32,115,111,117,114,99,101]]:List Str).flatten:=⟨_,rfl⟩
   rw[<-hs3];refine qT (S5 (h.length+2) 1 (h.length+14) 4 (h.length+11) 1 (.op (h.length+2) 1 0) s2 [[108,101,97,100,105,110,103,32,115,111,117,114,99,101]] _ om om om (by simp only[go_sem];try rfl) (by simp only[go_sem];try rfl) (.inr rfl) (by simp only[go_sem];try rfl) (by simp) (by simp) (by simp;omega)) ?_;rw[<-hs3];simp (disch:=omega) only[wrO,go_sem];refine qv (qsg (h.length+2) 1 (h.length+14) 5 (.op (h.length+2) 1 0) s3 _ om (by simp only[go_sem];try rfl) (by simp only[go_sem];try rfl)) (by exact flk) ?_;simp (disch:=omega) only[go_sem]
   repeat' first|exact wa|fail
  have e2:(w.dec<0)=False:=eqf u2;rw[ine u2];have hdc:w.dec<d.length:=by omega
  have c86:=λl'=>t48 w.dec (h++l') (SG.pow (hp.app l')) om om
  have hil:=qcj (n:=w.dec) om om;obtain⟨I,hI⟩:=wg (Lib.itoa w.dec)
  rw[<-hI]at hil;simp only[<-hI]at c86 ⊢;have hsg:=hds w.dec.toNat;obtain⟨D,hD⟩:=wg (d.getD w.dec.toNat default)
  have eD:=hD.symm;rw[eD]at hsg ⊢;have zd:jO d= .sl d.length λi=>dcC (d.getD i default):=rfl
  have e3:(0<=w.dec)=True:=wj;have e4:(w.dec<d.length)=True:=eqt hdc
  by_cases u3:D.kind=1
  ·have e5:(D.kind=1)=True:=eqt u3;rw[ipo u3];refine qT (S5 (h.length+2) 1 (h.length+14) 2 (h.length+9) 1 (.op (h.length+2) 1 0) s1 [J,[59,32]] _ om om om (by simp only[go_sem];try rfl) (by simp only[go_sem];try rfl) (.inr rfl) (by simp only[go_sem];try rfl) (by simp) (by simp) (by simp;omega)) ?_;rw[<-hs2];simp (disch:=omega) only[wrO,e1,e2,e3,e4,e5,zd,dcC,eD,go_sem]
   repeat' first|(refine cA (c86 _) flk ?_;simp (disch:=omega) only[e3,e4,eD,List.set_cons_zero,go_sem])
   obtain⟨s3,hs3⟩: ∃s,s=s2++([[100,101,99,105,115,105,111,110,32],I,[44,32,99,104,111,105,99,101,32,111,102,32],D.sig]:List Str).flatten:=⟨_,rfl⟩
   rw[<-hs3];refine qT (S5 (h.length+2) 1 (h.length+14) 4 (h.length+12) 1 (.op (h.length+2) 1 0) s2 [[100,101,99,105,115,105,111,110,32],I,[44,32,99,104,111,105,99,101,32,111,102,32],D.sig] _ om om om (by simp only[go_sem];try rfl) (by simp only[go_sem];try rfl) (.inr rfl) (by simp only[go_sem];try rfl) (by simp) (by simp) (by simp;omega)) ?_;rw[<-hs3];simp (disch:=omega) only[wrO,go_sem];refine qv (qsg (h.length+2) 1 (h.length+14) 8 (.op (h.length+2) 1 0) s3 _ om (by simp only[go_sem];try rfl) (by simp only[go_sem];try rfl)) (by exact flk) ?_;simp (disch:=omega) only[go_sem]
   repeat' first|exact wa|fail
  have e5:(D.kind=1)=False:=eqf u3;rw[ine u3];refine qT (S5 (h.length+2) 1 (h.length+14) 2 (h.length+9) 1 (.op (h.length+2) 1 0) s1 [J,[59,32]] _ om om om (by simp only[go_sem];try rfl) (by simp only[go_sem];try rfl) (.inr rfl) (by simp only[go_sem];try rfl) (by simp) (by simp) (by simp;omega)) ?_;rw[<-hs2];simp (disch:=omega) only[wrO,e1,e2,e3,e4,e5,zd,dcC,eD,go_sem]
  repeat' first|(refine cA (c86 _) flk ?_;simp (disch:=omega) only[List.set_cons_zero,go_sem])
  obtain⟨s3,hs3⟩: ∃s,s=s2++([[100,101,99,105,115,105,111,110,32],I,[44,32,99,111,110,106,101,99,116,117,114,101]]:List Str).flatten:=⟨_,rfl⟩
  rw[<-hs3];refine qT (S5 (h.length+2) 1 (h.length+14) 4 (h.length+13) 1 (.op (h.length+2) 1 0) s2 [[100,101,99,105,115,105,111,110,32],I,[44,32,99,111,110,106,101,99,116,117,114,101]] _ om om om (by simp only[go_sem];try rfl) (by simp only[go_sem];try rfl) (.inr rfl) (by simp only[go_sem];try rfl) (by simp) (by simp) (by simp;omega)) ?_;rw[<-hs3];simp (disch:=omega) only[wrO,go_sem];refine qv (qsg (h.length+2) 1 (h.length+14) 7 (.op (h.length+2) 1 0) s3 _ om (by simp only[go_sem];try rfl) (by simp only[go_sem];try rfl)) (by exact flk) ?_;simp (disch:=omega) only[go_sem]
  repeat' first|exact wa|fail
 ·have r2:((S.length:Int)=0)=False:=eqf (λhc=>h0 (List.length_eq_zero_iff.1 om));rw[ine h0]at hNM0;have hNL:NM.length=S.length:=by rw[hNM0];exact hjk
  rw[<-hNM0];simp (disch:=omega) only[r1,r2,go_sem];refine cA (joB (L:=NM) (sep:= [32]) ?v1 om om) ?v2 ?v3
  case v2=>exact flk
  case v1=>
   simp only[List.map,go_sem]
   first
    |exact⟨qmx (λ_=>rfl) hNL.symm,qi,trivial⟩
    |(rw[ipo (by rw[jE];exact Nat.le_of_eq hNL.symm)];exact⟨qa3 _ (λ_=>rfl) hNL.symm,qi,trivial⟩)
  case v3=>
  rw[<-hJ];simp (disch:=omega) only[List.set_cons_zero,go_sem];unfold tlL
  by_cases u1:w.unit<0
  ·have e1:(w.unit<0)=True:=eqt u1;rw[ipo u1];refine qT (S5 (h.length+2) 1 (h.length+14) 2 (h.length+9) 1 (.op (h.length+2) 1 0) s1 [J,[59,32]] _ om om om (by simp only[go_sem];try rfl) (by simp only[go_sem];try rfl) (.inr rfl) (by simp only[go_sem];try rfl) (by simp) (by simp) (by simp;omega)) ?_;rw[<-hs2];simp (disch:=omega) only[wrO,e1,go_sem];obtain⟨s3,hs3⟩: ∃s,s=s2++([[99,111,109,109,111,110]]:List Str).flatten:=⟨_,rfl⟩
   rw[<-hs3];refine qT (S5 (h.length+2) 1 (h.length+14) 4 (h.length+10) 1 (.op (h.length+2) 1 0) s2 [[99,111,109,109,111,110]] _ om om om (by simp only[go_sem];try rfl) (by simp only[go_sem];try rfl) (.inr rfl) (by simp only[go_sem];try rfl) (by simp) (by simp) (by simp;omega)) ?_;rw[<-hs3];simp (disch:=omega) only[wrO,go_sem];refine qv (qsg (h.length+2) 1 (h.length+14) 5 (.op (h.length+2) 1 0) s3 _ om (by simp only[go_sem];try rfl) (by simp only[go_sem];try rfl)) (by exact flk) ?_;simp (disch:=omega) only[go_sem]
   repeat' first|exact wa|fail
  have e1:(w.unit<0)=False:=eqf u1;rw[ine u1]
  by_cases u2:w.dec<0
  ·have e2:(w.dec<0)=True:=eqt u2;rw[ipo u2];refine qT (S5 (h.length+2) 1 (h.length+14) 2 (h.length+9) 1 (.op (h.length+2) 1 0) s1 [J,[59,32]] _ om om om (by simp only[go_sem];try rfl) (by simp only[go_sem];try rfl) (.inr rfl) (by simp only[go_sem];try rfl) (by simp) (by simp) (by simp;omega)) ?_;rw[<-hs2];simp (disch:=omega) only[wrO,e1,e2,go_sem];obtain⟨s3,hs3⟩: ∃s,s=s2++([[108,101,97,100,105,110,103,32,115,111,117,114,99,101]]:List Str).flatten:=⟨_,rfl⟩
   rw[<-hs3];refine qT (S5 (h.length+2) 1 (h.length+14) 4 (h.length+11) 1 (.op (h.length+2) 1 0) s2 [[108,101,97,100,105,110,103,32,115,111,117,114,99,101]] _ om om om (by simp only[go_sem];try rfl) (by simp only[go_sem];try rfl) (.inr rfl) (by simp only[go_sem];try rfl) (by simp) (by simp) (by simp;omega)) ?_;rw[<-hs3];simp (disch:=omega) only[wrO,go_sem];refine qv (qsg (h.length+2) 1 (h.length+14) 5 (.op (h.length+2) 1 0) s3 _ om (by simp only[go_sem];try rfl) (by simp only[go_sem];try rfl)) (by exact flk) ?_;simp (disch:=omega) only[go_sem]
   repeat' first|exact wa|fail
  have e2:(w.dec<0)=False:=eqf u2;rw[ine u2];have hdc:w.dec<d.length:=by omega
  have c86:=λl'=>t48 w.dec (h++l') (SG.pow (hp.app l')) om om
  have hil:=qcj (n:=w.dec) om om;obtain⟨I,hI⟩:=wg (Lib.itoa w.dec)
  rw[<-hI]at hil;simp only[<-hI]at c86 ⊢;have hsg:=hds w.dec.toNat;obtain⟨D,hD⟩:=wg (d.getD w.dec.toNat default)
  have eD:=hD.symm;rw[eD]at hsg ⊢;have zd:jO d= .sl d.length λi=>dcC (d.getD i default):=rfl
  have e3:(0<=w.dec)=True:=wj;have e4:(w.dec<d.length)=True:=eqt hdc
  by_cases u3:D.kind=1
  ·have e5:(D.kind=1)=True:=eqt u3;rw[ipo u3];refine qT (S5 (h.length+2) 1 (h.length+14) 2 (h.length+9) 1 (.op (h.length+2) 1 0) s1 [J,[59,32]] _ om om om (by simp only[go_sem];try rfl) (by simp only[go_sem];try rfl) (.inr rfl) (by simp only[go_sem];try rfl) (by simp) (by simp) (by simp;omega)) ?_;rw[<-hs2];simp (disch:=omega) only[wrO,e1,e2,e3,e4,e5,zd,dcC,eD,go_sem]
   repeat' first|(refine cA (c86 _) flk ?_;simp (disch:=omega) only[e3,e4,eD,List.set_cons_zero,go_sem])
   obtain⟨s3,hs3⟩: ∃s,s=s2++([[100,101,99,105,115,105,111,110,32],I,[44,32,99,104,111,105,99,101,32,111,102,32],D.sig]:List Str).flatten:=⟨_,rfl⟩
   rw[<-hs3];refine qT (S5 (h.length+2) 1 (h.length+14) 4 (h.length+12) 1 (.op (h.length+2) 1 0) s2 [[100,101,99,105,115,105,111,110,32],I,[44,32,99,104,111,105,99,101,32,111,102,32],D.sig] _ om om om (by simp only[go_sem];try rfl) (by simp only[go_sem];try rfl) (.inr rfl) (by simp only[go_sem];try rfl) (by simp) (by simp) (by simp;omega)) ?_;rw[<-hs3];simp (disch:=omega) only[wrO,go_sem];refine qv (qsg (h.length+2) 1 (h.length+14) 8 (.op (h.length+2) 1 0) s3 _ om (by simp only[go_sem];try rfl) (by simp only[go_sem];try rfl)) (by exact flk) ?_;simp (disch:=omega) only[go_sem]
   repeat' first|exact wa|fail
  have e5:(D.kind=1)=False:=eqf u3;rw[ine u3];refine qT (S5 (h.length+2) 1 (h.length+14) 2 (h.length+9) 1 (.op (h.length+2) 1 0) s1 [J,[59,32]] _ om om om (by simp only[go_sem];try rfl) (by simp only[go_sem];try rfl) (.inr rfl) (by simp only[go_sem];try rfl) (by simp) (by simp) (by simp;omega)) ?_;rw[<-hs2];simp (disch:=omega) only[wrO,e1,e2,e3,e4,e5,zd,dcC,eD,go_sem]
  repeat' first|(refine cA (c86 _) flk ?_;simp (disch:=omega) only[List.set_cons_zero,go_sem])
  obtain⟨s3,hs3⟩: ∃s,s=s2++([[100,101,99,105,115,105,111,110,32],I,[44,32,99,111,110,106,101,99,116,117,114,101]]:List Str).flatten:=⟨_,rfl⟩
  rw[<-hs3];refine qT (S5 (h.length+2) 1 (h.length+14) 4 (h.length+13) 1 (.op (h.length+2) 1 0) s2 [[100,101,99,105,115,105,111,110,32],I,[44,32,99,111,110,106,101,99,116,117,114,101]] _ om om om (by simp only[go_sem];try rfl) (by simp only[go_sem];try rfl) (.inr rfl) (by simp only[go_sem];try rfl) (by simp) (by simp) (by simp;omega)) ?_;rw[<-hs3];simp (disch:=omega) only[wrO,go_sem];refine qv (qsg (h.length+2) 1 (h.length+14) 7 (.op (h.length+2) 1 0) s3 _ om (by simp only[go_sem];try rfl) (by simp only[go_sem];try rfl)) (by exact flk) ?_;simp (disch:=omega) only[go_sem]
  repeat' first|exact wa|fail
def qqo:Str:= [101,114,97,116]
def yC:Co:=⟨[73],[[65],[66]],[[tkS qfu,tkS qDt],[tkS qfu,tkS qqo]],[[0,0],[1,1]]⟩
def yL:List Un:= [⟨1,2,[⟨[qDt],[0]⟩,⟨[qqo],[1]⟩]⟩]
def yD:List Dc:= [⟨1,[66],1,[]⟩]
def yB:List Wd:= [⟨qfu,0,-1,-1,false,false,[]⟩,⟨qqo,1,0,0,false,false,[]⟩]
theorem qGf:soE yC yL yB 1=0∧soL yC yL yB 1= [1]:=by decide+kernel
theorem qGg:exE yC yL yD yB 0=0∧exR yC yL yD yB 0= [100,101,117,115,58,32,65,32,66,59,32,99,111,109,109,111,110]:=by decide+kernel
theorem qGh:exE yC yL yD yB 1=0∧exR yC yL yD yB 1= [101,114,97,116,58,32,66,59,32,100,101,99,105,115,105,111,110,32,48,44,32,99,104,111,105,99,101,32,111,102,32,66]:=by decide+kernel
theorem qFh(s:Str)(h:wh):ACalls Tryz.prog 156 [.str s] h (.agg (tkC (tkS s))) h:=by
 unfold tkS tkC;refine acO qzL ?_;simp (disch:=omega) only[qxY,go_sem]
 repeat' first|exact wa|fail
theorem qGI(h:wh):ACalls Tryz.prog 111 [] h (.tup [.agg (coC yC),zn yL,jO yD,jd yB]) h:=by
 have c1:=λs h=>qFh s h
 unfold tkS tkC at c1;refine acO qzm ?_;simp (disch:=omega) only[qxD,go_sem]
 repeat' first|(refine qI (c1 qfu _) ?_;simp (disch:=omega) only[go_sem])|(refine qI (c1 qDt _) ?_;simp (disch:=omega) only[go_sem])|(refine qI (c1 qqo _) ?_;simp (disch:=omega) only[go_sem])|(apply qa;exact rvk;simp only[go_sem])
 refine SK ⟨VLe.agg ⟨qi,vl2 ⟨ie rfl,trivial⟩ ⟨ie rfl,trivial⟩,vl2 ⟨?a1,trivial⟩ ⟨?a2,trivial⟩,vl2 ⟨?a3,trivial⟩ ⟨?a4,trivial⟩,trivial⟩,vl1 ⟨ie rfl,ie rfl,?b1,trivial⟩,vl1 ⟨ie rfl,ie rfl,ie rfl,ie rfl,trivial⟩,
  vl2 ⟨ie rfl,ie rfl,ie rfl,ie rfl,ie rfl,ie rfl,ie rfl,trivial⟩ ⟨ie rfl,ie rfl,ie rfl,ie rfl,ie rfl,ie rfl,ie rfl,trivial⟩,trivial⟩
 case a1=>simp only[go_sem];exact il2 rfl rfl
 case a2=>simp only[go_sem];exact il2 rfl rfl
 case a3=>simp only[go_sem];exact il2 rfl rfl
 case a4=>simp only[go_sem];exact il2 rfl rfl
 case b1=>
  simp only[go_sem];refine im2 ⟨?u1,?u2,trivial⟩ ⟨?u3,?u4,trivial⟩
  all_goals
   simp only[go_sem];exact il1 rfl
def gWb(b:List Wd)(i:Nat):Bool:=decide (66<(b.getD i default).text.length)||decide (20<(b.getD i default).name.length)
def qFZ(b:List Wd):Bool:=jD (gWb b) b.length||decide (12<b.length)
def qEH(x:Co)(l:List Un)(b:List Wd):Bool:=qrQ x||(qEG l||qFZ b)
theorem qA4{x:Co}{l:List Un}{b:List Wd}(h:qEH x l b=false):UW x∧qaH l∧b.length<=12∧(∀i,(b.getD i default).text.length<=66)∧x.sig.length<=36:=by
 unfold qEH qFZ at h;simp only[Bool.or_eq_false_iff,decide_eq_false_iff_not]at h;obtain⟨h1,h2,h3,h4⟩:=h;obtain⟨o1,_,o3⟩:=qkT h1;obtain⟨u1,_⟩:=qA3 h2;refine⟨o1,u1,om,?_,o3⟩;refine je b (λw=>w.text.length<=66) (by decide) λi hi=> ?_
 have:=qu.1 h3 i hi
 unfold gWb at this;rw[Bool.or_eq_false_iff]at this
 have:=of_decide_eq_false this.1
 omega
theorem qHQ:qEH yC yL yB=false:=by decide+kernel
theorem qsv(h:wh)(hp:kv SG h):ACalls Tryz.prog 56 [] h (.bool true) h:=by
 have c1:=λh=>qGI h
 obtain⟨o1,o2,o3,o4,o5⟩:=qA4 qHQ;have o4': ∀i,(yB.getD i default).text.length<=1000000000:=λi=>by have:=o4 i;omega
 have ysg: ∀s,(yC.sig.getD s []).length<=1000:=je yC.sig (λs=>s.length<=1000) (by decide) (by decide);have yds: ∀j,(yD.getD j default).sig.length<=1000000:=je yD (λd=>d.sig.length<=1000000) (by decide) (by decide);have c2:=λl'=>qfF yC yL yB 1 (h++l') o1 o2 om o4' om (hp.app l')
 have c3:=λl'=>qku yC yL yD yB 0 (h++l') o1 o2 om o4' om ysg (by decide) yds (hp.app l')
 have c4:=λl'=>qku yC yL yD yB 1 (h++l') o1 o2 om o4' om ysg (by decide) yds (hp.app l')
 rw[qGf.1,qGf.2]at c2;rw[qGg.1,qGg.2]at c3;rw[qGh.1,qGh.2]at c4;have c5:=λh=>qFX [1] [1] h (by decide) (by decide)
 rw[dqt rfl]at c5;unfold coC at c1 c2 c3 c4;refine acO qEt ?_;simp (disch:=omega) only[qFM,go_sem]
 repeat' first|((first|refine cA (c1 _) ?_ ?_|refine cA (c2 _) ?_ ?_|refine cA (c3 _) ?_ ?_|refine cA (c4 _) ?_ ?_);exact flk;simp (disch:=omega) only[go_sem])|with_reducible apply aiA|exact clz|fail
 refine cG (λ_=>qGD (L:= [1]) ?v1 (by decide)) ?v2 ?v3
 case v2=>exact flk
 case v1=>
  simp only[List.map,go_sem];exact⟨qi,VLe.sl_eq rfl (λi hi=>by
   obtain rfl:i=0:=by omega
   rfl),trivial⟩
 case v3=>
 simp (disch:=omega) only[go_sem]
 repeat' first|exact wa|fail
end RC
end
section
open Go Go.Proofs AF
end
section
open Go Go.Proofs AF HY LN
namespace RC
structure Cq where
 x:Co
 l:List Un
 d:List Dc
 lead:Int
structure CqB (a:Cq):Prop where
 x:CoB a.x
 l:UnB a.l
 d:a.d.length<=9223372036854775807
structure CqS (a:Cq):Prop where
 x:UW a.x
 l:qaH a.l
 cl:a.x.col.length<=24
 sl:a.x.sig.length<=36
 ll:a.l.length<=12
 d:a.d.length<=6
 g: ∀j,(a.d.getD j default).sig.length<=30
 t: ∀o∈a.d,o.txt.length<=30
theorem qD4(h:wh):ACalls Tryz.prog 82 [.nl] h .nl h:=by
 refine acO qtB ?_;simp (disch:=omega) only[qDq,go_sem]
 repeat' first|exact wa|fail
theorem qHh(a:Int)(h:wh):ACalls Tryz.prog 79 [qw [a],.int .i64 0] h (qw []) h:=by
 have s1:=λh=>qa2 h [a]
 have c1:=λh=>qF3 0 h om
 have z1: ∀g,valL g .len [qw [a]]= .int .i64 1:=λ_=>rfl
 have z2: ∀g,okL g .len [qw [a]]=True:=λ_=>eqt trivial
 have e5:IntKind.u64.wrap 1=1:=by decide
 have e6:IntKind.u64.wrap 0=0:=by decide
 rw[show ((0:Nat):Int)=0 from rfl]at c1;refine acO qAT ?_;simp (disch:=omega) only[qDU,z1,z2,e5,e6,go_sem]
 repeat' first|(refine cA (c1 _) flk ?_;simp (disch:=omega) only[s1,go_sem])|(with_reducible first|intro _|apply aiA)|exact clz|fail
 ·rfl
 refine qt (T:=λ_:Unit=>zw 48 [(7,.osl (h.length+1) 1 1 0 0),(8,.int .i64 0)]) (H:=λ_=>h++ [.emp 1,.mem 1 3 []])
  (inv:=λ_=>True) (m:=λ_=>0) () trivial (Wk.temps ?_) ?_
 ·(simp only[go_sem,qf,qc,qb,qe];try exact we)
 rintro⟨⟩-K hK;have q1:((0:Int)<0)=False:=wm;simp (disch:=omega) only[go_sem]
 repeat' first|(apply qa;exact rvk;simp only[go_sem])|(with_reducible first|intro _|apply aiA)|exact clz|fail
 exact VLe.sl_eq rfl (λi hi=>absurd hi (nnz _))
theorem qB0{hh:wh}{j v:Nat}(a:Int)(cs:wi)(hj:qq j hh=some (.mem v 3 (.int .i64 a::cs))):
  ACalls Tryz.prog 79 [.osl j v 1 0 1,.int .i64 0] hh (qw []) (qr j hh (.emp (v+1))):=by
 have hs:qK hh j=true:=by unfold qK;rw[hj]
 have e1:qbW [j] hh=qr j hh (.emp (v+1)):=by show qr j hh (.emp (qn (qq j hh)+1))=_;rw[hj];rfl
 refine ACalls.frzd [j] (by show (qK hh j&&true)=true;rw[hs];rfl) ?_;rw[e1];refine (qHh a _).le ⟨?_,qi,trivial⟩ (qi);have hc:=qJ hj;have e: [j].contains j=true:=by simp
 simp only[go_sem,e,if_true,hc];rw[hj,slOf_mem,ipo ⟨rfl,by simp⟩];refine VLe.sl_eq rfl (λi hi=> ?_);obtain rfl:i=0:=by omega
 rfl
theorem qEj(x:Co)(d:List Dc)(s:Int)(h:wh)(hz:UW x)(hp:kv SG h)(hg:jj h frmN frmC)(hd:d.length<=1000000)(ht: ∀o∈d,o.txt.length<=1000)(hN0:vaE x []=0->(rwA x [] d s.toNat).length<=1000000000):
  ACalls Tryz.prog 25 [.agg (coC x),.nl,jO d,.int .i64 s] h (.tup [jd (esR x [] d s),.int .i64 (esE x [] d s)]) h:=by
 have hu:qaH []:=⟨by simp,λi=>by simp;exact nzl _,λi j=>by simp;exact nzl _,λi j=>by simp;exact nzl _⟩
 have c1:=λl'=>(qsV x [] (h++l') hz hu (hp.app l')).le (args:= [.agg (coC x),.nl]) ⟨qi,zg,trivial⟩ (qi)
 have zu: ∀g l,valL g .len [zn l]= .int .i64 l.length:=λ_ _=>rfl
 have zv: ∀g l,okL g .len [zn l]=True:=λ_ _=>eqt trivial
 have zu1: ∀g l,valL g .len [strs l]= .int .i64 l.length:=λ_ _=>rfl
 have zv1: ∀g l,okL g .len [strs l]=True:=λ_ _=>eqt trivial
 have hE:esE x [] d s=(if vaE x []≠0 then vaE x [] else if s<0∨(x.sig.length:Int)<=s then 2 else if qad x [] d≠0 then qad x [] d else if 1024<(rwA x [] d s.toNat).length then 4 else 0):=rfl;unfold esR
 by_cases g:vaE x []=0
 case neg=>
  have k1:(vaE x []=0)=False:=eqf g;rw[ipo g]at hE;rw[hE,ine g];unfold coC at c1;refine acO T9 ?_;simp (disch:=omega) only[qeL,coC,go_sem]
  repeat' first|(refine cA (c1 _) flk ?_;simp (disch:=omega) only[k1,go_sem])|(apply qa;exact rvk;simp only[go_sem])
  exact VLe.tup ⟨zg,qi,trivial⟩
 rw[ine (by simpa using g)]at hE;have hN:=hN0 g;simp only[g]at c1;obtain⟨hca,hus,hcv⟩:=qeF g;have ho:=SV hca
 by_cases g2:s<0
 ·have k2:(s<0)=True:=eqt g2;rw[ipo (.inl g2)]at hE;rw[hE,ine (by decide)];unfold coC at c1;refine acO T9 ?_;simp (disch:=omega) only[qeL,coC,go_sem]
  repeat' first|(refine cA (c1 _) flk ?_;simp (disch:=omega) only[k2,go_sem])|(apply qa;exact rvk;simp only[go_sem])
  exact VLe.tup ⟨zg,qi,trivial⟩
 have k2:(s<0)=False:=eqf g2
 by_cases g3:(x.sig.length:Int)<=s
 ·have k3:((x.sig.length:Int)<=s)=True:=eqt g3;rw[ipo (.inr g3)]at hE;rw[hE,ine (by decide)];unfold coC at c1;refine acO T9 ?_;simp (disch:=omega) only[qeL,coC,go_sem]
  repeat' first|(refine cA (c1 _) flk ?_;simp (disch:=omega) only[k2,k3,zu1,zv1,go_sem])|(apply qa;exact rvk;simp only[go_sem])
  exact VLe.tup ⟨zg,qi,trivial⟩
 have k3:((x.sig.length:Int)<=s)=False:=eqf g3;rw[ine (λe=>e.elim g2 g3)]at hE;have c2:=λl'=>(qE3 x [] d (h++l') hz hu (hp.app l') hg.app hca hd ht).le (args:= [.agg (coC x),.nl,jO d]) ⟨qi,zg,qi,trivial⟩ (qi)
 unfold qBI at c2
 by_cases g4:qad x [] d=0
 case neg=>
  have k4:(qad x [] d=0)=False:=eqf g4;simp only[ine g4]at c2;rw[ipo g4]at hE;rw[hE,ine g4];unfold coC at c1 c2;refine acO T9 ?_;simp (disch:=omega) only[qeL,coC,go_sem]
  repeat' first|((first|refine cA (c1 _) ?_ ?_|refine cA (c2 _) ?_ ?_);exact flk;simp (disch:=omega) only[k2,k3,k4,zu1,zv1,go_sem])|(apply qa;exact rvk;simp only[go_sem])|with_reducible apply aiA|exact clz|fail
  exact VLe.tup ⟨zg,qi,trivial⟩
 rw[ine (by simpa using g4)]at hE;simp only[g4,if_true]at c2;rw[hE];unfold coC at c1 c2;refine acO T9 ?_;simp (disch:=omega) only[qeL,coC,go_sem]
 repeat' first|((first|refine cA (c1 _) ?_ ?_|refine cA (c2 _) ?_ ?_);exact flk;simp (disch:=omega) only[k2,k3,zu1,zv1,go_sem])|with_reducible apply aiA|exact clz|fail
 have hd0:d= []:=by
  cases d with
  |nil=>rfl
  |cons o r=>
   exfalso
   have:=g4
   unfold qad at this;split at this
   ·cases this
   ·have h0:=jF.1 this 0 (by simp);have h1:=(Sv h0).2.2.2.2.1;have h2:SC x [] ((o::r).getD 0 default)= -1:=rfl;omega
 subst hd0;have zi: ∀g l,valL g .len [qw l]= .int .i64 l.length:=λ_ _=>rfl
 have zj: ∀g l,okL g .len [qw l]=True:=λ_ _=>eqt trivial
 have ePL:(plG x [] [] ([]:List Dc).length).length=0:=rfl;refine qv (qB0 (j:=h.length+2) (-1) (List.drop 1 (ja [.int .i64 0] 1)) ?j1) (by exact flk) ?_
 case j1=>simp only[go_sem]
 simp (disch:=omega) only[zi,zj,go_sem];refine qt (T:=λ_:Unit=>zw 154 [(1,.nl),(3,.int .i64 s),(4,.op h.length 1 0),(13,qw []),(56,.int .i64 0),(57,.int .i64 0)])
  (H:=λ_=>h++ [.mem 1 26 [.str x.sec,strs x.sig,qm x.tok,qo x.col],.emp 1,.emp 2,.emp 0,.emp 0,.emp 0,.emp 0,.emp 0,.emp 0,.emp 0,.emp 0,.emp 0,.emp 0,.emp 0,.emp 0,.emp 0])
  (inv:=λ_=>True) (m:=λ_=>0) () trivial (Wk.temps ?_) ?_
 ·(simp only[go_sem,qf,qc,qb,qe];try exact we)
 rintro⟨⟩-K hK;have q1:((0:Int)<0)=False:=wm;simp (disch:=omega) only[q1,go_sem];refine⟨_,_,Wk.ownNil (j:=h.length+3) (i:=0) (k:=h.length+15) (v:=1) (ty:=29) (cs:= [.nl]) (ve:=0) (sz:=7) ?m1 rfl ?m2,?_⟩
 case m1=>simp only[go_sem]
 case m2=>simp only[go_sem]
 simp (disch:=omega) only[List.set_cons_zero,go_sem];have bne5:(h.length+6 !=h.length+5)=true:=by simp
 have zc: ∀g l,valL g .len [qo l]= .int .i64 l.length:=λ_ _=>rfl
 have zd: ∀g l,okL g .len [qo l]=True:=λ_ _=>eqt trivial
 refine ke ?T ?H ?h1 ?h2
 case h1=>
  simp (disch:=omega) only[zc,zd,go_sem]
  repeat' first|(with_reducible apply aiA)|(refine qv (qD4 _) (by exact flk) ?_;simp (disch:=omega) only[zc,zd,go_sem])
  all_goals first
   |omega
   |rfl
   |exact bne5
 case h2=>
 simp (disch:=omega) only[go_sem];obtain⟨S,hS⟩: ∃S:Nat,s=S:=⟨s.toNat,om⟩
 subst hS;rw[itn]at hN ⊢;have hSl:S<x.sig.length:=by omega
 obtain⟨MC,hMC⟩:=wg ( [AV.int .i64 x.col.length,.int .i64 x.col.length,.nl])
 rw[<-hMC];obtain⟨O5,hO5⟩:=wg (AObj.mem 1 64 (AV.int .i64 x.col.length:: .int .i64 x.col.length:: .nl::List.drop 3 (ja [.int .i64 0,.int .i64 0,.nl] 1)))
 rw[<-hO5];obtain⟨X0,hX0⟩:=wg (AObj.mem 1 26 [.str x.sec,strs x.sig,qm x.tok,qo x.col])
 have lX0: ∀n,lowO n X0:=by
  intro n;rw[hX0];intro c hc;simp at hc;rcases hc with rfl|rfl|rfl|rfl<;>rfl
 refine qt (T:=λi:EsS=>zw 154 [(1,.nl),(3,.int .i64 (S:Int)),(4,.op h.length 1 0),(13,qw []),(16,.op (h.length+3) 1 0),(17,.op (h.length+4) 1 0),(18,.int .i64 (nxT x [] i.k:Int)),(78,.osl (h.length+6) 1 3 0 1),(79,.int .i64 1),(80,.int .i64 i.k)])
  (H:=λi=>h++ [.mem 1 26 [.str x.sec,strs x.sig,qm x.tok,qo x.col],.emp 1,.emp 2,.mem 1 29 [.osl (h.length+15) i.vb 7 0 (rwK x [] [] S i.k).length],.mem 1 121 [.fn (.func 80) [] [.op (h.length+3) 1 0]],O5,.mem 1 64 MC,i.O7,i.O8,i.O9,i.O10,i.O11,i.O12,.emp 0,.emp 0,zf i.vb 36 (jN (bsW (rwK x [] [] S i.k)))])
  (inv:=λi=>i.k<=1∧ ∀O∈ [i.O7,i.O8,i.O9,i.O10,i.O11,i.O12],qK [O] 0=true∧ ∀n,lowO n O) (m:=λi=>1-i.k) ⟨0,0,.emp 0,.emp 0,.emp 0,.emp 0,.emp 0,.emp 0⟩ ⟨nzl _,λO hO=>by
   simp at hO;subst hO;exact⟨rfl,λ_=>trivial⟩⟩ (Wk.temps ?_) ?_
 ·(simp only[go_sem,qf,qc,qb,qe];try (repeat' first|(with_reducible apply aiA)|(apply qg;omega)|(apply qd;rfl)|exact qi))
  done
 rintro⟨k,vb,O7,O8,O9,O10,O11,O12⟩ ⟨i1,i2⟩ K hK;simp only at i1 i2 hK;obtain⟨s7,l7⟩:=i2 O7 (by simp);obtain⟨s8,l8⟩:=i2 O8 (by simp);obtain⟨s9,l9⟩:=i2 O9 (by simp);obtain⟨s10,l10⟩:=i2 O10 (by simp);obtain⟨s11,l11⟩:=i2 O11 (by simp);obtain⟨s12,l12⟩:=i2 O12 (by simp);have s7': ∀m,qK (O7::m) 0=true:=λ_=>s7
 have s8': ∀m,qK (O8::m) 0=true:=λ_=>s8
 by_cases hk:k<=0
 case neg=>
  have q1:((k:Int)<(1:Int))=False:=wm;have eR:rwK x [] [] S k=rwA x [] [] S:=by unfold rwK;rw[lnl,ine hk]
  rw[eR]
  by_cases g5:1024<(rwA x [] [] S).length
  ·have q5:((1024:Int)<(rwA x [] [] S).length)=True:=wj;simp only[ipo g5];simp (disch:=omega) only[q1,q5,go_sem]
   repeat' first|(apply qa;exact rvk;simp only[go_sem])|with_reducible apply aiA|exact clz|fail
   exact VLe.tup ⟨zg,qi,trivial⟩
  ·have q5:((1024:Int)<(rwA x [] [] S).length)=False:=wm;simp only[ine g5];simp (disch:=omega) only[q1,q5,go_sem]
   repeat' first|(apply qa;exact rvk;simp only[go_sem])|with_reducible apply aiA|exact clz|fail
   exact VLe.tup ⟨qdg (jK _).symm,qi,trivial⟩
 have q1:((k:Int)<(1:Int))=True:=wj;have q2:(0<=(k:Int))=True:=wj;have hk0:k=0:=by omega
 have hMl:MC.length=3:=by rw[hMC];rfl
 have q3:(k*3+3<=MC.length)=True:=wj;have eR:rwK x [] [] S k=rwL x [] [] S k:=by unfold rwK;rw[lnl,ipo hk]
 have eN:nxT x [] k=jg [] k:=by unfold nxT;rw[lnl,ipo hk]
 rw[eR,eN];obtain⟨f,hf⟩:=wg x.col.length
 obtain⟨t',ht'⟩:=wg x.col.length
 obtain⟨RV,hRV⟩:=wg AV.nl
 have eM:List.take 3 (List.drop (k*3) MC)= [.int .i64 (f:Int),.int .i64 (t':Int),RV]:=by rw[hk0,hMC,hf,ht',hRV];rfl
 have a5:jg [] k<=f:=by rw[hk0];exact nzl _
 have a6:f<=x.col.length:=by omega
 have lRV: ∀n,qZ n RV=true:=λn=>by rw[hRV];rfl
 have c3:=λh=>qCj x (jg [] k) f S h
 have hit:=itS x S (jg [] k) f hz ho hSl a6 a5;have hpF:=S7 ho hSl (f:=jg [] k) (d:=f-jg [] k) om;obtain⟨ps,hps⟩:=wg (spk x S (jg [] k) (f-jg [] k))
 have hxl:(spX x S (jg [] k) (f-jg [] k))=ps.map λp=> [.agg (pcC p)]:=by unfold spX;rw[hps]
 rw[hxl]at hit;rw[<-hps]at hpF;unfold coC at c3 hit;simp (disch:=omega) only[q1,q2,q3,eM,s7',s8',go_sem]
 repeat' first|(refine cA (c3 _) flk ?_;simp (disch:=omega) only[go_sem])|with_reducible apply aiA|exact clz|fail
 obtain⟨L0,hL0⟩:=wg (rwL x [] [] S k)
 have hLF: ∀r∈L0,PcF r.p:=by rw[hL0];exact qfl ho hus hSl (λi hi=>absurd hi (by simp)) hk
 have hLn:(L0++rwM ps (-1) (-1)).length<=1000000000:=by
  refine Nat.le_trans ?_ hN;rw[hL0,hps,hf,hk0];exact nlr _
 rw[<-hL0];obtain⟨P7,hP7⟩:=wg (AObj.mem (qn (some O7)+1) 3 [.int .i64 (k:Int)])
 obtain⟨P8,hP8⟩:=wg (AObj.mem (qn (some O8)+1) 64 [.int .i64 (f:Int),.int .i64 (t':Int),RV])
 have hP7l:qK [P7] 0=true∧ ∀n,lowO n P7:=by
  rw[hP7];refine⟨rfl,λn c hc=> ?_⟩;rw[List.mem_singleton]at hc;subst hc;rfl
 have hP8l:qK [P8] 0=true∧ ∀n,lowO n P8:=by
  rw[hP8];refine⟨rfl,λn c hc=> ?_⟩;simp only[List.mem_cons,List.not_mem_nil,or_false]at hc;rcases hc with rfl|rfl|rfl
  ·rfl
  ·rfl
  ·exact lRV n
 have cP7: ∀m,cellsOf (P7::m) 0 (qn (some O7)+1)=some [.int .i64 (k:Int)]:=λm=>by rw[hP7];simp only[go_sem]
 rw[<-hP7,<-hP8];have lP: ∀L:List Rw,∀v n,lowO n (zf v 36 (jN (bsW L))):=λL v n=>jc (qa5 _ n)
 have hLow: ∀(L M:List Rw) (v w:Nat) O A,(∀n,lowO n A)->LowI (h++ [.mem 1 26 [.str x.sec,strs x.sig,qm x.tok,qo x.col],.emp 1,.emp 2,.mem 1 29 [.osl (h.length+15) w 7 0 M.length],.mem 1 121 [.fn (.func 80) [] [.op (h.length+3) 1 0]],O5,.mem 1 64 MC,P7,P8,O,O10,O11,O12,.emp 0,.emp 0,zf w 36 (jN (bsW M))])
   (h++ [.mem 1 26 [.str x.sec,strs x.sig,qm x.tok,qo x.col],.emp 1,.emp 2,.mem 1 29 [.osl (h.length+15) v 7 0 L.length],.mem 1 121 [.fn (.func 80) [] [.op (h.length+3) 1 0]],O5,.mem 1 64 MC,P7,P8,A,O10,O11,O12,.emp 0,.emp 0,zf v 36 (jN (bsW L))]):=λL M v w O A lA=>by
  refine⟨by simp,λo ho=> ?_⟩;rcases List.mem_append.1 ho with h1|h1
  ·exact .inl (List.mem_append_left _ h1)
  ·simp only[List.mem_cons,List.not_mem_nil,or_false]at h1;rcases h1 with rfl|rfl|rfl|rfl|rfl|rfl|rfl|rfl|rfl|rfl|rfl|rfl|rfl|rfl|rfl|rfl
   ·left;simp
   ·left;simp
   ·left;simp
   ·right;refine⟨λc hc=> ?_,λc hc=> ?_⟩<;>
    ·rw[List.mem_singleton]at hc;subst hc;simp[qZ]
     try omega
   ·left;simp
   ·left;simp
   ·left;simp
   ·left;simp
   ·left;simp
   ·right;exact⟨lA _,lA _⟩
   ·left;simp
   ·left;simp
   ·left;simp
   ·left;simp
   ·left;simp
   ·right;exact⟨lP _ _ _,lP _ _ _⟩
 refine zB hit (λa ha=> ?_)
  (S:=λi hh=> ∃A,qK [A] 0=true∧(∀n,lowO n A)∧hh=h++ [.mem 1 26 [.str x.sec,strs x.sig,qm x.tok,qo x.col],.emp 1,.emp 2,.mem 1 29 [.osl (h.length+15) (vb+i) 7 0 (L0++rwM (ps.take i) (-1) (-1)).length],.mem 1 121 [.fn (.func 80) [] [.op (h.length+3) 1 0]],O5,.mem 1 64 MC,P7,P8,A,O10,O11,O12,.emp 0,.emp 0,zf (vb+i) 36 (jN (bsW (L0++rwM (ps.take i) (-1) (-1))))]) (E:=λ_ _=>False) ?_ ?_ ?_ ?_ ?_ ?_ ?_
 ·obtain⟨c,_,rfl⟩:=List.mem_map.1 ha;rfl
 ·rintro i hh ⟨A,_,lA,rfl⟩;exact hLow _ _ _ _ _ _ lA
 ·intro s hh hf;exact hf.elim
 ·exact⟨O9,s9,l9,by simp[rwM]⟩
 ·simp[qZ,qZ.lowVs]
  repeat' apply aiA
  all_goals first|rfl|omega|exact lRV _
 ·rintro i hh tl LI TS hi ⟨A,sA,lA,rfl⟩ hlen K1 K2 hK1 hN1 hR1 hX1;have hi':i<ps.length:=by rw[List.length_map]at hi;exact hi
  rw[List.getElem_map];have sA': ∀m,qK (A::m) 0=true:=λ_=>sA
  have hS:L0++rwM (ps.take (i+1)) (-1) (-1)=(L0++rwM (ps.take i) (-1) (-1))++ [⟨ps.getD i default,-1,-1⟩]:=by
   unfold rwM;rw[List.take_add_one,zC hi',List.map_append,gdqA,zC hi',List.append_assoc];rfl
  have eG:ps[i]=ps.getD i default:=by rw[gdqA,zC hi'];rfl
  rw[eG];have hpm:ps.getD i default∈ps:=zI hi';obtain⟨p,hp'⟩:=wg (ps.getD i default)
  rw[<-hp']at hS hpm ⊢;obtain⟨M,hM⟩:=wg (L0++rwM (ps.take i) (-1) (-1))
  have hMF: ∀r∈M,PcF r.p:=λr hr=>by
   rw[hM]at hr;rcases List.mem_append.1 hr with hr|hr
   ·exact hLF r hr
   ·exact hpF _ (List.mem_of_mem_take (zT.1 hr).1)
  have hMn:M.length<=1000000000:=by
   rw[hM,lap,jR,List.length_take];rw[lap,jR]at hLn;omega
  rw[<-hM]at hS ⊢;simp only[km,List.append_assoc,lca,lna];simp (disch:=omega) only[sA',pcC,tkC,go_sem];refine hK1 _ _ (h++ [.mem 1 26 [.str x.sec,strs x.sig,qm x.tok,qo x.col],.emp 1,.emp 2,.mem 1 29 [.osl (h.length+15) (vb+i) 7 0 M.length],.mem 1 121 [.fn (.func 80) [] [.op (h.length+3) 1 0]],O5,.mem 1 64 MC,P7,P8,(.mem (qn (some A)+1) 120 (pcC p)),O10,O11,O12,.emp 0,.emp 0,zf (vb+i) 36 (jN (bsW M))]) ?_ ?_ ?_
  ·simp[pcC,tkC]
  ·simp
  ·simp only[List.append_assoc,lca,lna];simp (disch:=omega) only[pcC,tkC,go_sem]
   repeat' first|with_reducible apply aiA|exact clz|fail
   refine qT (qxk (a:=h.length+3) (b:=h.length+15) (c:=h.length) (va:=1) (vb:=vb+i) (Z:= .mem 1 26 [.str x.sec,strs x.sig,qm x.tok,qo x.col]) ⟨by simp,by simp,by simp,om,om,om⟩ M p (-1) (-1) (by simp only[go_sem]) (by simp only[go_sem]) (by simp only[go_sem]) (by rw[<-hX0];exact lX0) (hpF p hpm) hMn hMF) ?_;simp (disch:=omega) only[go_sem];refine hN1 _ _ (h++ [.mem 1 26 [.str x.sec,strs x.sig,qm x.tok,qo x.col],.emp 1,.emp 2,.mem 1 29 [.osl (h.length+15) (vb+(i+1)) 7 0 (M++ [(⟨p,-1,-1⟩:Rw)]).length],.mem 1 121 [.fn (.func 80) [] [.op (h.length+3) 1 0]],O5,.mem 1 64 MC,P7,P8,(.mem (qn (some A)+1) 120 (pcC p)),O10,O11,O12,.emp 0,.emp 0,zf (vb+(i+1)) 36 (jN (bsW (M++ [(⟨p,-1,-1⟩:Rw)])))]) ?_ ?_ ⟨_,rfl,?_,by rw[hS]⟩
   ·simp[pcC,tkC,Nat.add_assoc]
   ·simp
   ·intro n c hc;simp[pcC,tkC]at hc;rcases hc with rfl|rfl|rfl|rfl|rfl|rfl|rfl<;>rfl
 ·rintro hh ⟨A,sA,lA,rfl⟩;rw[List.length_map,List.take_length];obtain⟨L1,hL1⟩:=wg (L0++rwM ps (-1) (-1))
  rw[<-hL1]
  by_cases hkl:k<0
  case neg=>
   have hke:k=0:=by omega
   obtain⟨b1,b2⟩:f=x.col.length∧t'=x.col.length:=⟨hf,ht'⟩
   have q4:((k:Int)=0)=True:=wj;rw[hP7,hP8];simp (disch:=omega) only[q4,go_sem]
   repeat' first|with_reducible apply aiA|exact clz|fail
   rw[<-hP7,<-hP8];have e1:rwK x [] [] S (k+1)=L1:=by
    unfold rwK;rw[ine (by simp),hL1,hL0,hps,b1,hke];rfl
   have e2:nxT x [] (k+1)=t':=by unfold nxT;rw[ine (by simp),b2]
   refine hK _ _ ⟨k+1,vb+ps.length,P7,P8,A,O10,O11,O12⟩ ⟨by simp only;omega,λO hO=> ?_⟩ (by simp only;omega) ?_
   ·simp only[List.mem_cons,List.not_mem_nil,or_false]at hO;rcases hO with rfl|rfl|rfl|rfl|rfl|rfl
    ·exact hP7l
    ·exact hP8l
    ·exact⟨sA,lA⟩
    ·exact⟨s10,l10⟩
    ·exact⟨s11,l11⟩
    ·exact⟨s12,l12⟩
   ·simp only[e1,e2];refine Wk.temps ?_
    (simp only[go_sem,qf,qc,qb,qe];try exact we)
  exact absurd hkl (nnz k)
 ·intro e hh hf;exact hf.elim
theorem qD5(h:wh)(k:Nat)(hk:qK h k=true):ACalls Tryz.prog 82 [.el] h (.osl k (qn (qq k h)+1) 3 0 0) (qr k h (.mem (qn (qq k h)+1) 64 [])):=by
 refine qcA qtB k (by simp) ?_;simp only[lco,lnl,Nat.reduceAdd,Nat.reduceSub,List.replicate,lca,lna];simp (disch:=omega) only[qDq,go_sem]
 repeat' first|(with_reducible apply aiA)
 all_goals first
  |omega
  |contradiction
  |skip
 all_goals try rfl
 exact⟨h.length+1,2,3,0,0,64,[],_,⟨trivial,trivial⟩,rfl,rfl,om,by simp only[go_sem],(λc hc=>by cases hc),hk,rfl,rfl⟩
theorem qEk(x:Co)(d:List Dc)(s:Int)(h:wh)(hz:UW x)(hp:kv SG h)(hg:jj h frmN frmC)(hd:d.length<=1000000)(ht: ∀o∈d,o.txt.length<=1000)(hN0:vaE x []=0->(rwA x [] d s.toNat).length<=1000000000):
  ACalls Tryz.prog 25 [.agg (coC x),.el,jO d,.int .i64 s] h (.tup [jd (esR x [] d s),.int .i64 (esE x [] d s)]) h:=by
 have hu:qaH []:=⟨by simp,λi=>by simp;exact nzl _,λi j=>by simp;exact nzl _,λi j=>by simp;exact nzl _⟩
 have c1:=λl'=>(qsV x [] (h++l') hz hu (hp.app l')).le (args:= [.agg (coC x),.el]) ⟨qi,qre,trivial⟩ (qi)
 have zu: ∀g l,valL g .len [zn l]= .int .i64 l.length:=λ_ _=>rfl
 have zv: ∀g l,okL g .len [zn l]=True:=λ_ _=>eqt trivial
 have zu1: ∀g l,valL g .len [strs l]= .int .i64 l.length:=λ_ _=>rfl
 have zv1: ∀g l,okL g .len [strs l]=True:=λ_ _=>eqt trivial
 have hE:esE x [] d s=(if vaE x []≠0 then vaE x [] else if s<0∨(x.sig.length:Int)<=s then 2 else if qad x [] d≠0 then qad x [] d else if 1024<(rwA x [] d s.toNat).length then 4 else 0):=rfl;unfold esR
 by_cases g:vaE x []=0
 case neg=>
  have k1:(vaE x []=0)=False:=eqf g;rw[ipo g]at hE;rw[hE,ine g];unfold coC at c1;refine acO T9 ?_;simp (disch:=omega) only[qeL,coC,go_sem]
  repeat' first|(refine cA (c1 _) flk ?_;simp (disch:=omega) only[k1,go_sem])|(apply qa;exact rvk;simp only[go_sem])
  exact VLe.tup ⟨zg,qi,trivial⟩
 rw[ine (by simpa using g)]at hE;have hN:=hN0 g;simp only[g]at c1;obtain⟨hca,hus,hcv⟩:=qeF g;have ho:=SV hca
 by_cases g2:s<0
 ·have k2:(s<0)=True:=eqt g2;rw[ipo (.inl g2)]at hE;rw[hE,ine (by decide)];unfold coC at c1;refine acO T9 ?_;simp (disch:=omega) only[qeL,coC,go_sem]
  repeat' first|(refine cA (c1 _) flk ?_;simp (disch:=omega) only[k2,go_sem])|(apply qa;exact rvk;simp only[go_sem])
  exact VLe.tup ⟨zg,qi,trivial⟩
 have k2:(s<0)=False:=eqf g2
 by_cases g3:(x.sig.length:Int)<=s
 ·have k3:((x.sig.length:Int)<=s)=True:=eqt g3;rw[ipo (.inr g3)]at hE;rw[hE,ine (by decide)];unfold coC at c1;refine acO T9 ?_;simp (disch:=omega) only[qeL,coC,go_sem]
  repeat' first|(refine cA (c1 _) flk ?_;simp (disch:=omega) only[k2,k3,zu1,zv1,go_sem])|(apply qa;exact rvk;simp only[go_sem])
  exact VLe.tup ⟨zg,qi,trivial⟩
 have k3:((x.sig.length:Int)<=s)=False:=eqf g3;rw[ine (λe=>e.elim g2 g3)]at hE;have c2:=λl'=>(qE3 x [] d (h++l') hz hu (hp.app l') hg.app hca hd ht).le (args:= [.agg (coC x),.el,jO d]) ⟨qi,qre,qi,trivial⟩ (qi)
 unfold qBI at c2
 by_cases g4:qad x [] d=0
 case neg=>
  have k4:(qad x [] d=0)=False:=eqf g4;simp only[ine g4]at c2;rw[ipo g4]at hE;rw[hE,ine g4];unfold coC at c1 c2;refine acO T9 ?_;simp (disch:=omega) only[qeL,coC,go_sem]
  repeat' first|((first|refine cA (c1 _) ?_ ?_|refine cA (c2 _) ?_ ?_);exact flk;simp (disch:=omega) only[k2,k3,k4,zu1,zv1,go_sem])|(apply qa;exact rvk;simp only[go_sem])|with_reducible apply aiA|exact clz|fail
  exact VLe.tup ⟨zg,qi,trivial⟩
 rw[ine (by simpa using g4)]at hE;simp only[g4,if_true]at c2;rw[hE];unfold coC at c1 c2;refine acO T9 ?_;simp (disch:=omega) only[qeL,coC,go_sem]
 repeat' first|((first|refine cA (c1 _) ?_ ?_|refine cA (c2 _) ?_ ?_);exact flk;simp (disch:=omega) only[k2,k3,zu1,zv1,go_sem])|with_reducible apply aiA|exact clz|fail
 have hd0:d= []:=by
  cases d with
  |nil=>rfl
  |cons o r=>
   exfalso
   have:=g4
   unfold qad at this;split at this
   ·cases this
   ·have h0:=jF.1 this 0 (by simp);have h1:=(Sv h0).2.2.2.2.1;have h2:SC x [] ((o::r).getD 0 default)= -1:=rfl;omega
 subst hd0;have zi: ∀g l,valL g .len [qw l]= .int .i64 l.length:=λ_ _=>rfl
 have zj: ∀g l,okL g .len [qw l]=True:=λ_ _=>eqt trivial
 have ePL:(plG x [] [] ([]:List Dc).length).length=0:=rfl;refine qv (qB0 (j:=h.length+2) (-1) (List.drop 1 (ja [.int .i64 0] 1)) ?j1) (by exact flk) ?_
 case j1=>simp only[go_sem]
 simp (disch:=omega) only[zi,zj,go_sem];refine qt (T:=λ_:Unit=>zw 154 [(1,.el),(3,.int .i64 s),(4,.op h.length 1 0),(13,qw []),(56,.int .i64 0),(57,.int .i64 0)])
  (H:=λ_=>h++ [.mem 1 26 [.str x.sec,strs x.sig,qm x.tok,qo x.col],.emp 1,.emp 2,.emp 0,.emp 0,.emp 0,.emp 0,.emp 0,.emp 0,.emp 0,.emp 0,.emp 0,.emp 0,.emp 0,.emp 0,.emp 0])
  (inv:=λ_=>True) (m:=λ_=>0) () trivial (Wk.temps ?_) ?_
 ·(simp only[go_sem,qf,qc,qb,qe];try exact we)
 rintro⟨⟩-K hK;have q1:((0:Int)<0)=False:=wm;simp (disch:=omega) only[q1,go_sem];refine⟨_,_,Wk.ownNil (j:=h.length+3) (i:=0) (k:=h.length+15) (v:=1) (ty:=29) (cs:= [.nl]) (ve:=0) (sz:=7) ?m1 rfl ?m2,?_⟩
 case m1=>simp only[go_sem]
 case m2=>simp only[go_sem]
 simp (disch:=omega) only[List.set_cons_zero,go_sem];have bne5:(h.length+14 !=h.length+5)=true:=by simp
 have zc: ∀g l,valL g .len [qo l]= .int .i64 l.length:=λ_ _=>rfl
 have zd: ∀g l,okL g .len [qo l]=True:=λ_ _=>eqt trivial
 refine ke ?T ?H ?h1 ?h2
 case h1=>
  simp (disch:=omega) only[zc,zd,go_sem]
  repeat' first|(with_reducible apply aiA)|(refine qv (qD5 _ (h.length+14) (by simp only[go_sem])) (by exact flk) ?_;simp (disch:=omega) only[zc,zd,go_sem])
  all_goals first
   |omega
   |rfl
   |exact bne5
 case h2=>
 simp (disch:=omega) only[go_sem];obtain⟨S,hS⟩: ∃S:Nat,s=S:=⟨s.toNat,om⟩
 subst hS;rw[itn]at hN ⊢;have hSl:S<x.sig.length:=by omega
 obtain⟨MC,hMC⟩:=wg ( [AV.int .i64 x.col.length,.int .i64 x.col.length,.nl])
 rw[<-hMC];obtain⟨O5,hO5⟩:=wg (AObj.mem 1 64 (AV.int .i64 x.col.length:: .int .i64 x.col.length:: .nl::List.drop 3 (ja [.int .i64 0,.int .i64 0,.nl] 1)))
 rw[<-hO5];obtain⟨X0,hX0⟩:=wg (AObj.mem 1 26 [.str x.sec,strs x.sig,qm x.tok,qo x.col])
 have lX0: ∀n,lowO n X0:=by
  intro n;rw[hX0];intro c hc;simp at hc;rcases hc with rfl|rfl|rfl|rfl<;>rfl
 refine qt (T:=λi:EsS=>zw 154 [(1,.el),(3,.int .i64 (S:Int)),(4,.op h.length 1 0),(13,qw []),(16,.op (h.length+3) 1 0),(17,.op (h.length+4) 1 0),(18,.int .i64 (nxT x [] i.k:Int)),(78,.osl (h.length+14) 2 3 0 1),(79,.int .i64 1),(80,.int .i64 i.k)])
  (H:=λi=>h++ [.mem 1 26 [.str x.sec,strs x.sig,qm x.tok,qo x.col],.emp 1,.emp 2,.mem 1 29 [.osl (h.length+15) i.vb 7 0 (rwK x [] [] S i.k).length],.mem 1 121 [.fn (.func 80) [] [.op (h.length+3) 1 0]],O5,.emp 0,i.O7,i.O8,i.O9,i.O10,i.O11,i.O12,.emp 0,.mem 2 64 MC,zf i.vb 36 (jN (bsW (rwK x [] [] S i.k)))])
  (inv:=λi=>i.k<=1∧ ∀O∈ [i.O7,i.O8,i.O9,i.O10,i.O11,i.O12],qK [O] 0=true∧ ∀n,lowO n O) (m:=λi=>1-i.k) ⟨0,0,.emp 0,.emp 0,.emp 0,.emp 0,.emp 0,.emp 0⟩ ⟨nzl _,λO hO=>by
   simp at hO;subst hO;exact⟨rfl,λ_=>trivial⟩⟩ (Wk.temps ?_) ?_
 ·(simp only[go_sem,qf,qc,qb,qe];try (repeat' first|(with_reducible apply aiA)|(apply qg;omega)|(apply qd;rfl)|exact qi))
  done
 rintro⟨k,vb,O7,O8,O9,O10,O11,O12⟩ ⟨i1,i2⟩ K hK;simp only at i1 i2 hK;obtain⟨s7,l7⟩:=i2 O7 (by simp);obtain⟨s8,l8⟩:=i2 O8 (by simp);obtain⟨s9,l9⟩:=i2 O9 (by simp);obtain⟨s10,l10⟩:=i2 O10 (by simp);obtain⟨s11,l11⟩:=i2 O11 (by simp);obtain⟨s12,l12⟩:=i2 O12 (by simp);have s7': ∀m,qK (O7::m) 0=true:=λ_=>s7
 have s8': ∀m,qK (O8::m) 0=true:=λ_=>s8
 by_cases hk:k<=0
 case neg=>
  have q1:((k:Int)<(1:Int))=False:=wm;have eR:rwK x [] [] S k=rwA x [] [] S:=by unfold rwK;rw[lnl,ine hk]
  rw[eR]
  by_cases g5:1024<(rwA x [] [] S).length
  ·have q5:((1024:Int)<(rwA x [] [] S).length)=True:=wj;simp only[ipo g5];simp (disch:=omega) only[q1,q5,go_sem]
   repeat' first|(apply qa;exact rvk;simp only[go_sem])|with_reducible apply aiA|exact clz|fail
   exact VLe.tup ⟨zg,qi,trivial⟩
  ·have q5:((1024:Int)<(rwA x [] [] S).length)=False:=wm;simp only[ine g5];simp (disch:=omega) only[q1,q5,go_sem]
   repeat' first|(apply qa;exact rvk;simp only[go_sem])|with_reducible apply aiA|exact clz|fail
   exact VLe.tup ⟨qdg (jK _).symm,qi,trivial⟩
 have q1:((k:Int)<(1:Int))=True:=wj;have q2:(0<=(k:Int))=True:=wj;have hk0:k=0:=by omega
 have hMl:MC.length=3:=by rw[hMC];rfl
 have q3:(k*3+3<=MC.length)=True:=wj;have eR:rwK x [] [] S k=rwL x [] [] S k:=by unfold rwK;rw[lnl,ipo hk]
 have eN:nxT x [] k=jg [] k:=by unfold nxT;rw[lnl,ipo hk]
 rw[eR,eN];obtain⟨f,hf⟩:=wg x.col.length
 obtain⟨t',ht'⟩:=wg x.col.length
 obtain⟨RV,hRV⟩:=wg AV.nl
 have eM:List.take 3 (List.drop (k*3) MC)= [.int .i64 (f:Int),.int .i64 (t':Int),RV]:=by rw[hk0,hMC,hf,ht',hRV];rfl
 have a5:jg [] k<=f:=by rw[hk0];exact nzl _
 have a6:f<=x.col.length:=by omega
 have lRV: ∀n,qZ n RV=true:=λn=>by rw[hRV];rfl
 have c3:=λh=>qCj x (jg [] k) f S h
 have hit:=itS x S (jg [] k) f hz ho hSl a6 a5;have hpF:=S7 ho hSl (f:=jg [] k) (d:=f-jg [] k) om;obtain⟨ps,hps⟩:=wg (spk x S (jg [] k) (f-jg [] k))
 have hxl:(spX x S (jg [] k) (f-jg [] k))=ps.map λp=> [.agg (pcC p)]:=by unfold spX;rw[hps]
 rw[hxl]at hit;rw[<-hps]at hpF;unfold coC at c3 hit;simp (disch:=omega) only[q1,q2,q3,eM,s7',s8',go_sem]
 repeat' first|(refine cA (c3 _) flk ?_;simp (disch:=omega) only[go_sem])|with_reducible apply aiA|exact clz|fail
 obtain⟨L0,hL0⟩:=wg (rwL x [] [] S k)
 have hLF: ∀r∈L0,PcF r.p:=by rw[hL0];exact qfl ho hus hSl (λi hi=>absurd hi (by simp)) hk
 have hLn:(L0++rwM ps (-1) (-1)).length<=1000000000:=by
  refine Nat.le_trans ?_ hN;rw[hL0,hps,hf,hk0];exact nlr _
 rw[<-hL0];obtain⟨P7,hP7⟩:=wg (AObj.mem (qn (some O7)+1) 3 [.int .i64 (k:Int)])
 obtain⟨P8,hP8⟩:=wg (AObj.mem (qn (some O8)+1) 64 [.int .i64 (f:Int),.int .i64 (t':Int),RV])
 have hP7l:qK [P7] 0=true∧ ∀n,lowO n P7:=by
  rw[hP7];refine⟨rfl,λn c hc=> ?_⟩;rw[List.mem_singleton]at hc;subst hc;rfl
 have hP8l:qK [P8] 0=true∧ ∀n,lowO n P8:=by
  rw[hP8];refine⟨rfl,λn c hc=> ?_⟩;simp only[List.mem_cons,List.not_mem_nil,or_false]at hc;rcases hc with rfl|rfl|rfl
  ·rfl
  ·rfl
  ·exact lRV n
 have cP7: ∀m,cellsOf (P7::m) 0 (qn (some O7)+1)=some [.int .i64 (k:Int)]:=λm=>by rw[hP7];simp only[go_sem]
 rw[<-hP7,<-hP8];have lP: ∀L:List Rw,∀v n,lowO n (zf v 36 (jN (bsW L))):=λL v n=>jc (qa5 _ n)
 have hLow: ∀(L M:List Rw) (v w:Nat) O A,(∀n,lowO n A)->LowI (h++ [.mem 1 26 [.str x.sec,strs x.sig,qm x.tok,qo x.col],.emp 1,.emp 2,.mem 1 29 [.osl (h.length+15) w 7 0 M.length],.mem 1 121 [.fn (.func 80) [] [.op (h.length+3) 1 0]],O5,.emp 0,P7,P8,O,O10,O11,O12,.emp 0,.mem 2 64 MC,zf w 36 (jN (bsW M))])
   (h++ [.mem 1 26 [.str x.sec,strs x.sig,qm x.tok,qo x.col],.emp 1,.emp 2,.mem 1 29 [.osl (h.length+15) v 7 0 L.length],.mem 1 121 [.fn (.func 80) [] [.op (h.length+3) 1 0]],O5,.emp 0,P7,P8,A,O10,O11,O12,.emp 0,.mem 2 64 MC,zf v 36 (jN (bsW L))]):=λL M v w O A lA=>by
  refine⟨by simp,λo ho=> ?_⟩;rcases List.mem_append.1 ho with h1|h1
  ·exact .inl (List.mem_append_left _ h1)
  ·simp only[List.mem_cons,List.not_mem_nil,or_false]at h1;rcases h1 with rfl|rfl|rfl|rfl|rfl|rfl|rfl|rfl|rfl|rfl|rfl|rfl|rfl|rfl|rfl|rfl
   ·left;simp
   ·left;simp
   ·left;simp
   ·right;refine⟨λc hc=> ?_,λc hc=> ?_⟩<;>
    ·rw[List.mem_singleton]at hc;subst hc;simp[qZ]
     try omega
   ·left;simp
   ·left;simp
   ·left;simp
   ·left;simp
   ·left;simp
   ·right;exact⟨lA _,lA _⟩
   ·left;simp
   ·left;simp
   ·left;simp
   ·left;simp
   ·left;simp
   ·right;exact⟨lP _ _ _,lP _ _ _⟩
 refine zB hit (λa ha=> ?_)
  (S:=λi hh=> ∃A,qK [A] 0=true∧(∀n,lowO n A)∧hh=h++ [.mem 1 26 [.str x.sec,strs x.sig,qm x.tok,qo x.col],.emp 1,.emp 2,.mem 1 29 [.osl (h.length+15) (vb+i) 7 0 (L0++rwM (ps.take i) (-1) (-1)).length],.mem 1 121 [.fn (.func 80) [] [.op (h.length+3) 1 0]],O5,.emp 0,P7,P8,A,O10,O11,O12,.emp 0,.mem 2 64 MC,zf (vb+i) 36 (jN (bsW (L0++rwM (ps.take i) (-1) (-1))))]) (E:=λ_ _=>False) ?_ ?_ ?_ ?_ ?_ ?_ ?_
 ·obtain⟨c,_,rfl⟩:=List.mem_map.1 ha;rfl
 ·rintro i hh ⟨A,_,lA,rfl⟩;exact hLow _ _ _ _ _ _ lA
 ·intro s hh hf;exact hf.elim
 ·exact⟨O9,s9,l9,by simp[rwM]⟩
 ·simp[qZ,qZ.lowVs]
  repeat' apply aiA
  all_goals first|rfl|omega|exact lRV _
 ·rintro i hh tl LI TS hi ⟨A,sA,lA,rfl⟩ hlen K1 K2 hK1 hN1 hR1 hX1;have hi':i<ps.length:=by rw[List.length_map]at hi;exact hi
  rw[List.getElem_map];have sA': ∀m,qK (A::m) 0=true:=λ_=>sA
  have hS:L0++rwM (ps.take (i+1)) (-1) (-1)=(L0++rwM (ps.take i) (-1) (-1))++ [⟨ps.getD i default,-1,-1⟩]:=by
   unfold rwM;rw[List.take_add_one,zC hi',List.map_append,gdqA,zC hi',List.append_assoc];rfl
  have eG:ps[i]=ps.getD i default:=by rw[gdqA,zC hi'];rfl
  rw[eG];have hpm:ps.getD i default∈ps:=zI hi';obtain⟨p,hp'⟩:=wg (ps.getD i default)
  rw[<-hp']at hS hpm ⊢;obtain⟨M,hM⟩:=wg (L0++rwM (ps.take i) (-1) (-1))
  have hMF: ∀r∈M,PcF r.p:=λr hr=>by
   rw[hM]at hr;rcases List.mem_append.1 hr with hr|hr
   ·exact hLF r hr
   ·exact hpF _ (List.mem_of_mem_take (zT.1 hr).1)
  have hMn:M.length<=1000000000:=by
   rw[hM,lap,jR,List.length_take];rw[lap,jR]at hLn;omega
  rw[<-hM]at hS ⊢;simp only[km,List.append_assoc,lca,lna];simp (disch:=omega) only[sA',pcC,tkC,go_sem];refine hK1 _ _ (h++ [.mem 1 26 [.str x.sec,strs x.sig,qm x.tok,qo x.col],.emp 1,.emp 2,.mem 1 29 [.osl (h.length+15) (vb+i) 7 0 M.length],.mem 1 121 [.fn (.func 80) [] [.op (h.length+3) 1 0]],O5,.emp 0,P7,P8,(.mem (qn (some A)+1) 120 (pcC p)),O10,O11,O12,.emp 0,.mem 2 64 MC,zf (vb+i) 36 (jN (bsW M))]) ?_ ?_ ?_
  ·simp[pcC,tkC]
  ·simp
  ·simp only[List.append_assoc,lca,lna];simp (disch:=omega) only[pcC,tkC,go_sem]
   repeat' first|with_reducible apply aiA|exact clz|fail
   refine qT (qxk (a:=h.length+3) (b:=h.length+15) (c:=h.length) (va:=1) (vb:=vb+i) (Z:= .mem 1 26 [.str x.sec,strs x.sig,qm x.tok,qo x.col]) ⟨by simp,by simp,by simp,om,om,om⟩ M p (-1) (-1) (by simp only[go_sem]) (by simp only[go_sem]) (by simp only[go_sem]) (by rw[<-hX0];exact lX0) (hpF p hpm) hMn hMF) ?_;simp (disch:=omega) only[go_sem];refine hN1 _ _ (h++ [.mem 1 26 [.str x.sec,strs x.sig,qm x.tok,qo x.col],.emp 1,.emp 2,.mem 1 29 [.osl (h.length+15) (vb+(i+1)) 7 0 (M++ [(⟨p,-1,-1⟩:Rw)]).length],.mem 1 121 [.fn (.func 80) [] [.op (h.length+3) 1 0]],O5,.emp 0,P7,P8,(.mem (qn (some A)+1) 120 (pcC p)),O10,O11,O12,.emp 0,.mem 2 64 MC,zf (vb+(i+1)) 36 (jN (bsW (M++ [(⟨p,-1,-1⟩:Rw)])))]) ?_ ?_ ⟨_,rfl,?_,by rw[hS]⟩
   ·simp[pcC,tkC,Nat.add_assoc]
   ·simp
   ·intro n c hc;simp[pcC,tkC]at hc;rcases hc with rfl|rfl|rfl|rfl|rfl|rfl|rfl<;>rfl
 ·rintro hh ⟨A,sA,lA,rfl⟩;rw[List.length_map,List.take_length];obtain⟨L1,hL1⟩:=wg (L0++rwM ps (-1) (-1))
  rw[<-hL1]
  by_cases hkl:k<0
  case neg=>
   have hke:k=0:=by omega
   obtain⟨b1,b2⟩:f=x.col.length∧t'=x.col.length:=⟨hf,ht'⟩
   have q4:((k:Int)=0)=True:=wj;rw[hP7,hP8];simp (disch:=omega) only[q4,go_sem]
   repeat' first|with_reducible apply aiA|exact clz|fail
   rw[<-hP7,<-hP8];have e1:rwK x [] [] S (k+1)=L1:=by
    unfold rwK;rw[ine (by simp),hL1,hL0,hps,b1,hke];rfl
   have e2:nxT x [] (k+1)=t':=by unfold nxT;rw[ine (by simp),b2]
   refine hK _ _ ⟨k+1,vb+ps.length,P7,P8,A,O10,O11,O12⟩ ⟨by simp only;omega,λO hO=> ?_⟩ (by simp only;omega) ?_
   ·simp only[List.mem_cons,List.not_mem_nil,or_false]at hO;rcases hO with rfl|rfl|rfl|rfl|rfl|rfl
    ·exact hP7l
    ·exact hP8l
    ·exact⟨sA,lA⟩
    ·exact⟨s10,l10⟩
    ·exact⟨s11,l11⟩
    ·exact⟨s12,l12⟩
   ·simp only[e1,e2];refine Wk.temps ?_
    (simp only[go_sem,qf,qc,qb,qe];try exact we)
  exact absurd hkl (nnz k)
 ·intro e hh hf;exact hf.elim
theorem qGE(x:Co)(l:List Un)(d:List Dc)(s:Int)(h:wh)(hz:UW x)(hu:qaH l)(hp:kv SG h)(hg:jj h frmN frmC)(hd:d.length<=1000000)(ht: ∀o∈d,o.txt.length<=1000)(hN0:vaE x l=0->(rwA x l d s.toNat).length<=1000000000):
  ACalls Tryz.prog 25 [.agg (coC x),zn l,jO d,.int .i64 s] h (.tup [jd (esR x l d s),.int .i64 (esE x l d s)]) h:=by
 cases l with
 |nil=>exact ACalls.sl0 (pre:= [.agg (coC x)]) (post:= [jO d,.int .i64 s]) (qEj x d s h hz hp hg hd ht hN0) (qEk x d s h hz hp hg hd ht hN0)
 |cons u r=>exact qGF x (u::r) d s h hz hu hp hg (List.cons_ne_nil _ _) hd ht hN0
end RC
end
section
open Go Go.Proofs AF
end
section
open Go Go.Proofs AF
end
section
open Go Go.Proofs AF HY LN
namespace RC
def qE6:Str:= [118,101,114,101]
def qA:List Wd:= [⟨qfu,0,-1,-1,false,false,[]⟩,⟨qDt,1,0,-1,false,false,[]⟩,⟨qmr,2,-1,-1,false,false,[]⟩]
def qB:List Wd:= [⟨qfu,0,-1,-1,false,false,[]⟩,⟨qmr,2,-1,-1,false,false,[]⟩]
def qC:List Wd:= [⟨qfu,0,-1,-1,false,false,[]⟩,⟨qE6,1,0,0,false,false,[]⟩,⟨[44],1,0,0,true,false,[]⟩,⟨[101,116],1,0,0,false,false,[]⟩,⟨qmr,2,-1,-1,false,false,[]⟩]
structure Ld where
 s:Int
 t:Str
 k:Int
theorem qtN{x:Co}{l:List Un}{b:List Wd}(h:UT x l=true){k:Nat}(hk:k<l.length){t:Nat}(ht:t<x.sig.length):
  (t:Int)∈hsK l b k↔owG b (k:Int) b.length=rdG x t (frN l k) (toN l k-frN l k):=by
 obtain⟨_,_,_,_,e⟩:=kn h hk;have hi:=qa1 x (frN l k) (toN l k);have hh:=qa0 x (frN l k) (toN l k);obtain⟨L,hL⟩:=wg (qbZ x (frN l k) (toN l k))
 rw[<-hL]at e hi hh;obtain⟨j,h1,h2,h3,h4,h5⟩:=ql5 hh hi ht;unfold hsK brK;rw[e];rcases zE (λr=>decide ((L.getD r default).words=owG b (k:Int) b.length)) L.length with⟨i,g1,g2,_,g4⟩|⟨g1,g2⟩
 ·rw[g4,ipo om,itn];have g2:=of_decide_eq_true g2;rw[h5 i g1];constructor
  ·intro e;rw[<-g2,e,h4]
  ·intro e;rcases Nat.lt_trichotomy i j with q|q|q
   ·exact absurd (by rw[g2,e,h4]) (hi.ne i j q h2)
   ·exact q
   ·exact absurd (by rw[g2,e,h4]) (hi.ne j i q g1)
 ·rw[g2,ine om];constructor
  ·intro e;cases e
  ·intro e
   have:=of_decide_eq_false (g1 j h2)
   exact absurd (h4.trans e.symm) this
theorem qnU{n t:Nat}(h:t<n):(t:Int)∈qiK n:=by
 unfold qiK;exact List.mem_map.2 ⟨t,List.mem_range.2 h,rfl⟩
theorem qjG{L:List Rw}{i:Nat}(hi:i<L.length):((bsW L).getD i default).unit=(L.getD i default).u:=by rw[TQ hi];rfl
theorem qrm{L:List Rw}{i:Nat}(hi:i<L.length):((bsW L).getD i default).dec=(L.getD i default).d:=by rw[TQ hi];rfl
theorem qrl{L:List Rw}{i:Nat}(hi:i<L.length):((bsW L).getD i default).col=(L.getD i default).p.c:=by rw[TQ hi];rfl
theorem qeV{L:List Rw}{i:Nat}(hi:i<L.length):((bsW L).getD i default).text=(L.getD i default).p.t.text:=by rw[TQ hi];rfl
theorem qCh{x:Co}{l:List Un}{d:List Dc}{s:Nat}(h:Uh x l d s){i:Nat}(hi:i<(rwA x l d s).length){t:Nat}(ht:t<x.sig.length):
  (t:Int)∈soK x l (bsW (rwA x l d s)) i↔(((rwA x l d s).getD i default).u<0∨ ∃k:Nat,k<l.length∧((rwA x l d s).getD i default).u=k∧(rwU x l d s k).map rwT=rdG x t (frN l k) (toN l k-frN l k)):=by
 unfold soK;rw[qjG hi];have hg:=((qgH h).1 _ (zI (a:=default) hi)).u;have hr:=U1 l ((rwA x l d s).getD i default).p.c
 by_cases g:((rwA x l d s).getD i default).u<0
 ·rw[ipo g];exact⟨λ_=> .inl g,λ_=>qnU ht⟩
 ·rw[ine g];obtain⟨k,hk⟩: ∃k:Nat,((rwA x l d s).getD i default).u=k:=⟨(((rwA x l d s).getD i default).u).toNat,om⟩
  have hkl:k<l.length:=by omega
  rw[hk,itn,qtN h.us hkl ht,qr3 h hkl];constructor
  ·intro e;exact .inr ⟨k,hkl,rfl,e⟩
  ·rintro (e|⟨k',h1,h2,h3⟩)
   ·omega
   ·have:k'=k:=by omega
    subst this;exact h3
theorem qkr{x:Co}{l:List Un}{d:List Dc}{s:Nat}(h:Uh x l d s){i:Nat}(hi:i<(rwA x l d s).length):
  (((rwA x l d s).getD i default).d<0->(s:Int)∈soK x l (bsW (rwA x l d s)) i)∧
  (0<=((rwA x l d s).getD i default).d->((rwA x l d s).getD i default).d.toNat<d.length∧SC x l (d.getD ((rwA x l d s).getD i default).d.toNat default)=((rwA x l d s).getD i default).u∧
   (d.getD ((rwA x l d s).getD i default).d.toNat default).kind≠3∧((d.getD ((rwA x l d s).getD i default).d.toNat default).kind=1->zU x (d.getD ((rwA x l d s).getD i default).d.toNat default).sig∈soK x l (bsW (rwA x l d s)) i)):=by
 have hm:=zI (a:=default) hi;have hd:=qml hm;have g0:=(qgH h).1 _ hm;have hgd:=g0.d;have hgn:=g0.n;have hsm:=λt ht=>qCh h hi (t:=t) ht
 have hcases:=qmn hm;obtain⟨r,hr⟩:=wg ((rwA x l d s).getD i default)
 rw[<-hr]at hd hgd hgn hcases ⊢;simp only[<-hr]at hsm;rcases hcases with⟨u1,u2⟩|⟨k,hk,hrk⟩
 ·refine⟨λ_=>(hsm s h.sl).2 (.inl om),λe=>by omega⟩
 ·obtain⟨q1,q2⟩:=qr9 hrk;refine⟨λe=>(hsm s h.sl).2 (.inr ⟨k,hk,q1,?_⟩),λe=> ?_⟩
  ·rw[qdc,ipo om]
  ·have hl: ¬TL x l d k d.length<0:=by omega
   obtain⟨c1,c2,c3⟩:=qff h hl;rw[<-q2]at c1 c2 c3;have hx:(rwU x l d s k).map rwT=if (d.getD r.d.toNat default).kind=1 then rdG x (zU x (d.getD r.d.toNat default).sig).toNat (frN l k) (toN l k-frN l k)
    else if (d.getD r.d.toNat default).kind=2 then (qbM (d.getD r.d.toNat default).txt).map Tk.text else []:=by
    rw[qdc,ine hl,<-q2]
   refine⟨c1,by rw[c3,q1],λe3=> ?_,λe1=> ?_⟩
   ·rw[ine om,ine om]at hx
    have:=List.mem_map_of_mem (f:=rwT) hrk
    rw[hx]at this;cases this
   ·obtain⟨_,_,_,p4,_⟩:=Sv c2;obtain⟨t1,t2,_⟩:=qbJ p4;rw[ipo e1]at hx;obtain⟨t,ht⟩: ∃t:Nat,zU x (d.getD r.d.toNat default).sig=t:=⟨(zU x (d.getD r.d.toNat default).sig).toNat,om⟩
    rw[ht]at t2 hx ⊢;rw[itn]at t2 hx;exact (hsm t t2).2 (.inr ⟨k,hk,q1,hx⟩)
def qFH(x:Co)(l:List Un)(d:List Dc)(s a:Nat):Prop:= ∀k,k<l.length->(rwU x l d s k).map rwT=rdG x a (frN l k) (toN l k-frN l k)
theorem qxl{x:Co}{l:List Un}{d:List Dc}{s a:Nat}(h:Uh x l d s)(ha:a<x.sig.length){k:Nat}(hk:k<l.length):agB l (bsW (rwA x l d s)) a k=decide (rdG x a (frN l k) (toN l k-frN l k)=(rwU x l d s k).map rwT):=by
 obtain⟨j,h1,h2,h3,_⟩:=qBQ h.us hk ha;have hR:qaM (l.getD k default).rds (a:Int)=j:=by unfold qaM;rw[h1,ine om]
 unfold agB;rw[hR,itn,h3,qr3 h hk]
theorem qDV{p:Nat->Bool}: ∀ {n:Nat},(∀i,i<n->p i=true)->cP p n=n:=by
 intro n
 induction n with
 |zero=>intro _;rfl
 |succ n ih=>
  intro h;unfold cP;rw[ih λi hi=>h i om,h n (Nat.lt_succ_self n)];rfl
theorem qAX{x:Co}{l:List Un}{d:List Dc}{s a:Nat}(h:Uh x l d s)(ha:a<x.sig.length)(hF:qFH x l d s a):cP (agB l (bsW (rwA x l d s)) a) l.length=l.length:=
 qDV λk hk=>by rw[qxl h ha hk,hF k hk];exact dqt rfl
theorem qtD{x:Co}{l:List Un}{s:Nat}:qFH x l [] s s:=λk _=>by rw[qdc,ipo (by show (-1:Int)<0;omega)]
structure FoI (x:Co) (a:Nat) (V:Nat->Nat->Prop) (o:Fo):Prop where
 k1:o.k=1-> ∃c,V c a∧pcB x a c=true∧o.g=x.sig.getD a []∧o.t=(x.col.getD c []).getD a 0
 k3:o.k≠1->o.k=3∧(∀c,V c a->pcB x a c=false)∧(o.g= []-> ∀c s,V c s->pcB x s c=false)∧(o.g≠ []-> ∃c s,V c s∧s<x.sig.length∧pcB x s c=true∧o.g=x.sig.getD s []∧o.t=(x.col.getD c []).getD s 0)
theorem Uh.esE{x:Co}{l:List Un}{d:List Dc}{s:Nat}(h:Uh x l d s):esE x l d s=0:=by
 have h1:vaE x l=0:=by
  unfold vaE;rw[ine (λhc=>hc h.ca),ine];unfold rgB;rw[h.us,h.cv];simp
 have h2:qad x l d=0:=by
  unfold qad;rw[ine (by have:=h.dl;omega)];exact jF.2 h.pl
 have:=h.sl
 have:=h.ln
 unfold RC.esE;rw[h1,h2,ine (by simp),ine om,ine (by simp),ine (by rw[itn];omega)]
theorem qcO{x:Co}{l:List Un}{d:List Dc}{s:Nat}(h:Uh x l d s){i:Nat}(hi:i<(rwA x l d s).length){w:Wd}(hw:w=(bsW (rwA x l d s)).getD i default):
  (0<=w.col∧w.col<x.col.length)∧(w.text≠ []∧w.text.length<=64)∧(-1<=w.dec∧w.dec<d.length)∧fnU l w.col=w.unit∧(w.unit<0->w.dec= -1)∧(i≠0->((bsW (rwA x l d s)).getD (i-1) default).col<=w.col∧((bsW (rwA x l d s)).getD (i-1) default).text.length<=64):=by
 subst hw;obtain⟨g1,g2⟩:=qgH h;have g:=g1 _ (zI (a:=default) hi);rw[qeV hi,qrl hi,qrm hi,qjG hi];refine⟨g.c,g.tx,g.d,g.u,λe=>(g.n e).2,λh0=> ?_⟩;have hj:i-1<(rwA x l d s).length:=by omega
 rw[qrl hj,qeV hj];refine⟨?_,(g1 _ (zI (a:=default) hj)).tx.2⟩
 have:=List.pairwise_iff_getElem.1 g2 (i-1) i hj hi om
 rw[gdqA,zC hj,gdqA,zC hi];exact this
end RC
end
section
open Go Go.Proofs AF
def qpl:List Nat:= []
def qw7:C:=
 (vU [O1 3 (.box 0 26) 0,ON 6 (.nilo 1 3 64) [],ON 7 (.nilo 2 7 36) [],vO 8 0,MC 9 (.bool false)] ((vU [O1 15 (.load (some 4)) 3,O1 16 (.call 28 true) 15,MV 17 16,vQ 18 17 (.load
 (some 4)) 3,vQ 19 17 (.call 29 true) 18,vT 20 17 (.bin .neq) 19 (i6 0),PT 21 17 20,MV 22 21,vS 23 22 1,vQ 24 22 (.call 110 true) 23,PT 25 22 24,MV 26 25,v7 27 26 1 3,v8 28 26
 27,vQ 29 26 .len 28,vT 30 26 (.bin .eql) 29 (i6 0),PT 31 26 30] (vV 31 (vX [ON 6 (.nilo 1 3 64) [],ON 7 (.nilo 2 7 36) [],vO 8 0,MC 9 (.bool false)]))).seq (vU [MV 32 2,O1 33
 (.conv .i64) 32,vN 34 1 3,LD 35 34,O1 36 .len 35,BI 37 .rem 33 36,MV 10 37] (vU [O1 39 (.load (some 4)) 3,O1 40 (.call 31 true) 39,MV 38 40,O1 41 (.ext 0) 38,O1 42 (.ext 1)
 38,MV 11 41,MV 12 42] (vU [O1 44 (.load (some 4)) 3,MV 45 11,MV 46 1,MV 47 10,ON 48 (.call 25 true) [.t 44,.t 45,.t 46,.t 47],MV 43 48,O1 49 (.ext 0) 43,O1 50 (.ext 1) 43,MV 13
 49,MV 14 50] (vX [MV 51 11,MV 52 13,MV 53 10,MV 54 12,vP 55 .eql 54 0,MV 56 55,MG 57 56 true 14,PC 58 56 true (.bin .eql) 57 (i6 0),PF 59 56 58,MV 6 51,MV 7 52,MV 8 53,MV 9
 59]))))))
theorem qkO:qP Tryz.prog 55 60 3 [RV.tmp 6,RV.tmp 7,RV.tmp 8,RV.tmp 9] qw7:=fi Tryz.f55 [3,6,7] qpl []
end
section
open Go Go.Proofs AF HY LN
namespace RC
def gDe(d:List Dc)(i:Nat):Bool:=decide (80<(d.getD i default).txt.length)||decide (20<(d.getD i default).sig.length)
def qtH(d:List Dc):Bool:=jD (gDe d) d.length||decide (8<d.length)
theorem qEL(b:List Dc)(h:wh)(hn:b.length<=9223372036854775807):ACalls Tryz.prog 110 [jO b] h (.bool (qtH b)) h:=by
 obtain⟨R,hR⟩:=wg (qtH b)
 rw[<-hR];unfold qtH at hR;have zb:jO b= .sl b.length λi=>dcC (b.getD i default):=rfl
 refine acO qzl ?_;simp (disch:=omega) only[qxC,go_sem];refine qt (T:=λi:Nat=>zw 29 [(0,jO b),(3,.int .i64 i)]) (H:=λ_=>h) (inv:=λi=>i<=b.length∧ ∀j,j<i->gDe b j=false) (m:=λi=>b.length-i) 0 ⟨nzl _,λj hj=>absurd hj (nnz j)⟩ (Wk.temps ?_) ?_
 ·(simp only[go_sem,qf,qc,qb,qe];try exact we)
 rintro i ⟨i1,i2⟩ K hK
 by_cases hi:i<b.length
 ·have k1:((i:Int)<b.length)=True:=wj;have k0:(0<=(i:Int))=True:=wj;have hit:gDe b i=true->R=true:=λhc=>by rw[hR,qY.2 ⟨i,hi,hc⟩];rfl
  have i3:=λhc=>Tu (p:=gDe b) i2 hc
  have hG:gDe b i=(decide (80<(b.getD i default).txt.length)||decide (20<(b.getD i default).sig.length)):=rfl;obtain⟨w,hw⟩:=wg (b.getD i default)
  have ew:=hw.symm;rw[ew]at hG
  by_cases g1:80<w.txt.length
  ·have q1:((80:Int)<w.txt.length)=True:=wj;rw[hit (by rw[hG,dqt g1];rfl)];simp (disch:=omega) only[zb,dcC,k0,k1,ew,q1,go_sem]
   repeat' first|exact wc|with_reducible apply aiA|exact clz|fail
  have q1:((80:Int)<w.txt.length)=False:=wm
  by_cases g2:20<w.sig.length
  ·have q2:((20:Int)<w.sig.length)=True:=wj;rw[hit (by rw[hG,dqt g2,Bool.or_true])];simp (disch:=omega) only[zb,dcC,k0,k1,ew,q1,q2,go_sem]
   repeat' first|exact wc|with_reducible apply aiA|exact clz|fail
  have q2:((20:Int)<w.sig.length)=False:=wm;simp (disch:=omega) only[zb,dcC,k0,k1,ew,q1,q2,go_sem]
  repeat' first|with_reducible apply aiA|exact clz|fail
  refine hK _ _ (i+1) ⟨hi,i3 (by rw[hG,dqf g1,dqf g2];rfl)⟩ om (Wk.temps ?_)
  (simp only[zb,dcC,go_sem,qf,qc,qb,qe];try exact we)
 obtain rfl:i=b.length:=by omega
 have k1:((b.length:Int)<b.length)=False:=wm;rw[qu.2 (λj hj=>i2 j hj),Bool.false_or]at hR
 by_cases g:8<b.length
 ·have q:((8:Int)<b.length)=True:=wj;rw[dqt g]at hR;rw[hR];simp (disch:=omega) only[zb,k1,q,go_sem]
  repeat' first|exact wc|fail
 ·have q:((8:Int)<b.length)=False:=wm;rw[dqf g]at hR;rw[hR];simp (disch:=omega) only[zb,k1,q,go_sem]
  repeat' first|exact wc|fail
theorem qA8{d:List Dc}(h:qtH d=false):d.length<=8∧(∀j,(d.getD j default).sig.length<=1000000)∧ ∀o∈d,o.txt.length<=1000:=by
 unfold qtH at h;rw[Bool.or_eq_false_iff,decide_eq_false_iff_not]at h;have key: ∀i,i<d.length-> ¬80<(d.getD i default).txt.length∧ ¬20<(d.getD i default).sig.length:=λi hi=>by
  have:=qu.1 h.1 i hi
  unfold gDe at this;rw[Bool.or_eq_false_iff,decide_eq_false_iff_not,decide_eq_false_iff_not]at this;exact this
 refine⟨om,je d (λd=>d.sig.length<=1000000) (by decide) λi hi=>by have:=(key i hi).2;omega,λo ho=> ?_⟩;obtain⟨i,hi,rfl⟩:=List.getElem_of_mem ho
 have:=(key i hi).1
 rw[gdqA,zC hi]at this;simp only[Option.getD_some]at this;omega
theorem qnc{x:Co}(hc:x.col.length<=1000000)(hs:x.sig.length<=1000000):qaH (UU x):=by
 have hl:(UU x).length<=x.col.length:=by
  have h1:=qft (s:=0) (qdv x) (d:= []) (by simp) (UU x).length (nlr _);have h2:=qbG (qdv x) (nlr (UU x).length);omega
 have key: ∀i,qrc ((UU x).getD i default).rds:=λi=>by
  by_cases hi:i<(rnL x).length
  ·rw[qdt hi];obtain⟨h1,h2,_⟩:=qmc hi;exact ql6 x (rnL x)[i].1 ((rnL x)[i].2-(rnL x)[i].1) om x.sig.length om
  ·rw[gdqA,List.getElem?_eq_none (by rw[qdu];omega)];have e0:(none.getD default:Un).rds= []:=rfl;exact⟨nzl _,λj=>by rw[e0,List.getD_nil];decide,λj=>by rw[e0,List.getD_nil];decide⟩
 exact⟨om,λi=>(key i).1,λi j=>(key i).2 j,λi j=>(key i).3 j⟩
def qxh(x:Co)(d:List Dc):Bool:= !qrQ x&&(decide (coE x=0)&& !qtH d)
def nL(x:Co)(q:Nat):Nat:=q%x.sig.length
def qtc(x:Co)(d:List Dc):List Un:=if qxh x d=true then UU x else []
def qte(x:Co)(d:List Dc)(q:Nat):List Wd:=if qxh x d=true then esR x (UU x) d (nL x q) else []
def qtd(x:Co)(d:List Dc)(q:Nat):Int:=if qxh x d=true then (nL x q:Int) else 0
def qtb(x:Co)(d:List Dc)(q:Nat):Bool:=qxh x d&&decide (esE x (UU x) d (nL x q)=0)
theorem qtn(x:Co)(d:List Dc)(q:Nat)(h:wh)(hq:q<=255)(hp:kv SG h)(hg:jj h frmN frmC)(h1:CoB x)(h2:d.length<=9223372036854775807):
  ACalls Tryz.prog 55 [.agg (coC x),jO d,.int .u8 (q:Int)] h (.tup [zn (qtc x d),jd (qte x d q),.int .i64 (qtd x d q),.bool (qtb x d q)]) h:=by
 have c1:=λh=>qGL x h h1
 have c3:=λh=>qEL d h h2
 unfold qtc qte qtd qtb qxh;cases e1:qrQ x with
 |true=>
  rw[e1]at c1;unfold coC at c1;refine acO qkO ?_;simp (disch:=omega) only[qw7,coC,go_sem]
  repeat' first|(refine qj ( .int .i64 0) ?_;simp (disch:=omega) only[go_sem])|(refine cA (c1 _) flk ?_;simp (disch:=omega) only[go_sem])|(apply qa;exact rvk;simp only[go_sem])
  exact VLe.tup ⟨zg,zg,qi,qi,trivial⟩
 |false=>
 obtain⟨o1,o2,o3⟩:=qkT e1;have c2:=λl'=>coR x (h++l') o1 (hp.app l')
 rw[e1]at c1
 by_cases e2:coE x=0
 case neg=>
  have k2:(coE x=0)=False:=eqf e2;rw[dqf e2];obtain⟨E,hE⟩:=wg (coE x)
  simp only[<-hE]at c2 k2;unfold coC at c1 c2;refine acO qkO ?_;simp (disch:=omega) only[qw7,coC,go_sem]
  repeat' first|(refine qj ( .bool false) ?_;simp (disch:=omega) only[go_sem])|((first|refine cA (c1 _) ?_ ?_|refine cG (λe=>c2 _) ?_ ?_);exact flk;simp (disch:=omega) only[k2,go_sem])|(apply qa;exact rvk;simp only[go_sem])
  exact VLe.tup ⟨zg,zg,qi,qi,trivial⟩
 rw[dqt e2];simp only[e2]at c2;cases e3:qtH d with
 |true=>
  rw[e3]at c3;unfold coC at c1 c2;refine acO qkO ?_;simp (disch:=omega) only[qw7,coC,go_sem]
  repeat' first|((first|refine cA (c1 _) ?_ ?_|refine cG (λe=>c2 _) ?_ ?_|refine cG (λe=>c3 _) ?_ ?_);exact flk;simp (disch:=omega) only[go_sem])|(apply qa;exact rvk;simp only[go_sem])
  exact VLe.tup ⟨zg,zg,qi,qi,trivial⟩
 |false=>
 rw[e3]at c3;obtain⟨d1,d2,d3⟩:=qA8 e3;have ho:=SV e2;have hsg:=ho.sg;have zu:=qnc (x:=x) om om;have c4:=λl'=>qFj x (h++l') o1 (hp.app l')
 have u1:utR x=UU x:=by unfold utR;rw[ipo e2]
 have u2:utE x=0:=by unfold utE;rw[ipo e2]
 rw[u1,u2]at c4;have c5:=λl'=>qGE x (UU x) d (nL x q) (h++l') o1 zu (hp.app l') hg.app om d3 (λg=>qu8 om d3 g)
 have hnl:nL x q<x.sig.length:=Nat.mod_lt _ hsg.1;have hn1:(q:Int)%(x.sig.length:Int)=(nL x q:Int):=by unfold nL;omega
 have k1:((x.sig.length:Int)=0)=False:=wm;have zg1: ∀g,valL g .len [strs x.sig]= .int .i64 x.sig.length:=λ_=>rfl
 have zg2: ∀g,okL g .len [strs x.sig]=True:=λ_=>eqt trivial
 obtain⟨E,hE⟩:=wg (esE x (UU x) d (nL x q))
 obtain⟨b,hb⟩:=wg (esR x (UU x) d (nL x q))
 obtain⟨l,hl⟩:=wg (UU x)
 obtain⟨n,hn⟩:=wg (nL x q)
 simp only[<-hE,<-hb]at c5;simp only[<-hl,<-hn]at c4 c5 hn1 ⊢;rw[<-hn]at hE hb hnl;rw[<-hl]at hE hb;simp only[<-hE,<-hb,Bool.not_false,Bool.true_and,Bool.and_true,if_true];unfold coC at c1 c2 c4 c5
 by_cases e4:E=0
 ·have k3:(E=0)=True:=eqt e4;rw[dqt e4];refine acO qkO ?_;simp (disch:=omega) only[qw7,coC,go_sem]
  repeat' first|((first|refine cA (c1 _) ?_ ?_|refine cG (λe=>c2 _) ?_ ?_|refine cG (λe=>c3 _) ?_ ?_|refine cA (c4 _) ?_ ?_|refine cA (c5 _) ?_ ?_);exact flk;simp (disch:=omega) only[zg1,zg2,k1,k3,hn1,go_sem])|exact wa|with_reducible apply aiA|exact clz|fail
 ·have k3:(E=0)=False:=eqf e4;rw[dqf e4];refine acO qkO ?_;simp (disch:=omega) only[qw7,coC,go_sem]
  repeat' first|((first|refine cA (c1 _) ?_ ?_|refine cG (λe=>c2 _) ?_ ?_|refine cG (λe=>c3 _) ?_ ?_|refine cA (c4 _) ?_ ?_|refine cA (c5 _) ?_ ?_);exact flk;simp (disch:=omega) only[zg1,zg2,k1,k3,hn1,go_sem])|exact wa|with_reducible apply aiA|exact clz|fail
theorem qto{x:Co}{d:List Dc}{q:Nat}(h:qtb x d q=true):UW x∧(x.col.length<=24∧x.sig.length<=36)∧qaH (UU x)∧d.length<=8∧(∀j,(d.getD j default).sig.length<=1000000)∧(∀o∈d,o.txt.length<=1000)∧Uh x (UU x) d (nL x q)∧
  qtc x d=UU x∧qte x d q=bsW (rwA x (UU x) d (nL x q))∧qtd x d q=(nL x q:Int):=by
 unfold qtb at h;rw[Bool.and_eq_true,decide_eq_true_iff]at h;obtain⟨h1,h2⟩:=h;have h3:=h1;unfold qxh at h3;rw[Bool.and_eq_true,Bool.and_eq_true,Bool.not_eq_true',Bool.not_eq_true',decide_eq_true_iff]at h3;obtain⟨a1,a2,a3⟩:=h3;obtain⟨o1,o2,o3⟩:=qkT a1;obtain⟨d1,d2,d3⟩:=qA8 a3;obtain⟨_,E⟩:=qzh h2;rw[itn]at E;refine⟨o1,⟨o2,o3⟩,qnc om om,d1,d2,d3,E,?_,?_,?_⟩
 ·unfold qtc;rw[ipo h1]
 ·unfold qte;rw[ipo h1];unfold esR;rw[ipo h2,itn]
 ·unfold qtd;rw[ipo h1]
theorem qCt{x:Co}{l:List Un}{b:List Wd}(hp:pvE x l b=0){i:Nat}(hi:i<b.length):(i:Int)∈unK x l b↔soK x l b i= []:=by
 unfold unK;rw[ipo hp];unfold qbB;constructor
 ·intro e;obtain⟨k,h1,h2⟩:=List.mem_map.1 e;obtain⟨_,h3⟩:=List.mem_filter.1 h1;have h2:(k:Int)=(i:Int):=h2
  have:k=i:=by omega
  subst this;exact of_decide_eq_true h3
 ·intro e;exact List.mem_map.2 ⟨i,List.mem_filter.2 ⟨List.mem_range.2 hi,dqt e⟩,rfl⟩
theorem qvA{x:Co}{l:List Un}{s:Nat}(h:Uh x l [] s)(hp:pvE x l (bsW (rwA x l [] s))=0):unK x l (bsW (rwA x l [] s))= []:=by
 refine List.eq_nil_iff_forall_not_mem.2 λy hy=> ?_
 have hy0:=hy;unfold unK at hy;rw[ipo hp]at hy;unfold qbB at hy;obtain⟨k,h1,h2⟩:=List.mem_map.1 hy;obtain⟨h3,h4⟩:=List.mem_filter.1 h1;have hk:k<(rwA x l [] s).length:=by have:=List.mem_range.1 h3;rwa [jK]at this
 have hd:=qpr _ (zI (a:=default) hk)
 have:=(qkr h hk).1 om
 rw[of_decide_eq_true h4]at this;cases this
end RC
end
