import Derived.Test.YtmieflnoheifbaaGreatDoorK3
import Derived.Test.YtmieflnoheifbaaGreatDoorK5
import Derived.Test.YtmieflnoheifbaaGreatDoorK8
import Derived.Test.YtmieflnoheifbaaGreatDoorProg
import Derived.Test.YtmieflnoheifbaaGreatDoorK13
import Derived.Test.YtmieflnoheifbaaGreatDoorK12
import Derived.Test.YtmieflnoheifbaaGreatDoorK11
set_option linter.all false
set_option maxHeartbeats 128000000
set_option maxRecDepth 100000
section
open Go Go.Proofs AF
def qtp:List Nat:= [277,278,377,347,287,344,288,345,290]
def qv8:C:=
 (vU [O1 3 (.box 0 117) 0,ON 6 (.nilo 1 6 119) [],vO 7 0] ((vU [MV 14 1,O1 15 (.call 283 true) 14,vP 16 .neq 15 0,MV 17 16,vS 18 17 2,vQ 19 17 (.call 284 true) 18,vT 20 17 (.bin
 .neq) 19 (i6 0),PT 21 17 20] (vV 21 (vX [ON 6 (.nilo 1 6 119) [],vO 7 1]))).seq ((vU [vN 22 1 3,LD 23 22,vP 24 .lss 23 0,MV 25 24,v7 26 25 1 3,v8 27 25 26,vT 28 25 (.bin .gtr)
 27 (i6 4096),PT 29 25 28] (vV 29 (vX [ON 6 (.nilo 1 6 119) [],vO 7 2]))).seq ((vU [vN 30 0 3,LD 31 30,O1 32 (.call 260 true) 31,O1 33 (.un UnOp.not) 32] (vV 33 (vX [ON 6 (.nilo
 1 6 119) [],vO 7 14]))).seq (vU [MV 35 1,OC 36 (.call 285 true) 35 (i6 8),MV 34 36,O1 37 (.ext 0) 34,O1 38 (.ext 1) 34,MV 8 37,MV 9 38] (vU [MV 40 1,OC 41 (.call 285 true) 40
 (i6 9),MV 39 41,O1 42 (.ext 0) 39,O1 43 (.ext 1) 39,MV 10 42,MV 11 43] ((vU [MV 44 8,MV 45 10,BI 46 .add 44 45,vP 47 .gtr 46 0] (vV 47 (vX [ON 6 (.nilo 1 6 119) [],vO 7
 13]))).seq (vU [⟨some 12,none,.alloc 2 343 [.nl,.nilp,.nl,.bool false,.bool false,.bool false],[]⟩] (((C.wk.seq (vY [O1 48 (.load (some 2)) 3,MV 49 1,O2 50 (.call 286 true) 48
 49])).seq (C.block 0 (C.range (.t 50) [51] (vY [⟨some 13,none,.alloc 3 348 [i6 0,.int .u8 0,i6 0,.str [],i6 0,.bool false,.str []],[]⟩,ST 7 13 51]) (C.block 1 (vY [O1 52 (.load
 (some 7)) 13,O2 53 (.call 287 false) 12 52]))))).seq (vU [O1 54 (.call 288 false) 12] ((vU [vN 55 0 12,LD 56 55,O1 57 .len 56,vP 58 .gtr 57 1024,MV 59 58,v7 60 59 0 12,v8 61 59
 60,vT 62 59 (.call 183 true) 61 (.fn (Fn.func 289) [] []),PT 63 59 62] (vV 63 (vX [ON 6 (.nilo 1 6 119) [],vO 7 4]))).seq (vX [MV 64 2,vN 65 0 12,LD 66 65,O2 67 (.call 290
 false) 64 66,O1 68 (.ext 0) 67,O1 69 (.ext 1) 67,MV 6 68,MV 7 69]))))))))))))
theorem qxW:qI Tryz.prog 224 70 6 [RV.tmp 6,RV.tmp 7] qv8:=fi Tryz.f224 [3,6,12,13,9,11] qtp [12]
end
section
open Go Go.Proofs AF HY LN
namespace RC
theorem qqx{t:Tk}(h:TkG t)(hl:t.text.length<=64):(qhN t.flags=false∧mkB t.flags=false∧ ∀i,i<t.text.length->kY (ch t.text i)=true)∨(qhN t.flags=false∧mkB t.flags=true):=by
 rcases h.2 with⟨hf,c,r,e,hb,hr⟩|⟨hf,_⟩
 ·refine .inl ⟨by rcases hf with e|e<;>rw[e]<;>rfl,by rcases hf with e|e<;>rw[e]<;>rfl,λi hi=> ?_⟩;rw[e]at hi ⊢;cases i with
  |zero=>exact qaq hb
  |succ i=>
   simp only[lco]at hi
   have:ch (c::r) (i+1)=r[i]'(by omega):=by simp[ch,gdqA,show i<r.length by omega]
   rw[this];exact hr _ (List.getElem_mem _)
 ·exact .inr ⟨by rcases hf with e|e<;>rw[e]<;>rfl,by rcases hf with e|e<;>rw[e]<;>rfl⟩
theorem qqw{t:Tk}(h:TkG t): ∃f:Nat,t.flags=f∧f<32:=by
 rcases h.2 with⟨hf|hf,_⟩|⟨hf|hf,_⟩
 ·exact⟨0,hf,om⟩
 ·exact⟨16,hf,om⟩
 ·exact⟨8,hf,om⟩
 ·exact⟨24,hf,om⟩
theorem qCT(L:List Tk)(b v:Nat)(h:wh)(hb:qt b h=some (zg v 119 (zW L)))(hg: ∀t∈L,TkG t)(hl: ∀t∈L,t.text.length<=64)(hn:L.length<=1000000):
  ACalls Tryz.prog 290 [.nl,.osl b v 6 0 L.length] h (.tup [.osl b v 6 0 L.length,.int .i64 0]) (qr b h (zg v 119 (zW (L.map tkN)))):=by
 have hbl:=zK hb;have hlv: ∀l,qF (h++l) b v=true:=λl=>by rw[jk,zH hbl,hb,qZ];simp
 refine acO qyl ?_;simp (disch:=omega) only[qww,hlv,go_sem];refine qn (T:=λi:Nat=>qO 49 [(0,.nl),(1,.osl b v 6 0 L.length),(10,.int .i64 L.length),(11,.int .i64 i)]) (H:=λi=>qr b h (zg v 119 (zW (nmL L i)))++ [.emp 1]) (inv:=λi=>i<=L.length) (m:=λi=>L.length-i) 0 (nzl _) ?_ ?_
 ·rw[qpf,jN hb];refine Wk.temps ?_
  (simp only[go_sem,qf,qc,qa,qe];try exact we)
 rintro i i1 K hK;have hML:=qcj L i
 by_cases hi:i<L.length
 ·have k1:((i:Int)<L.length)=True:=wl;have hne:zW (nmL L i)≠ []:=λe=>by
   have:=congrArg List.length e
   rw[jz,hML,lnl]at this;omega
  have ho:zg v 119 (zW (nmL L i))= .mem v 119 (zW (nmL L i)):=by unfold zg;rw[ine hne]
  rw[ho];have hM:=jz (nmL L i);rw[hML]at hM;obtain⟨t,ht⟩:=wg (L.getD i default)
  have hmem:t∈L:=by rw[ht];exact jf hi
  have gt:=hg t hmem;have lt:=hl t hmem;have hat:=qzp hi;rw[<-ht]at hat;have hsucc:=qpe hi;rw[<-ht]at hsucc;obtain⟨M,hMe⟩:=wg (nmL L i)
  rw[<-hMe]at hM hat hsucc hML ⊢;have s1: ∀ {l w cs z},cellsOf (qr b h (.mem w 119 cs)++l) b z=if w=z then some cs else none:=gF hbl
  have s2: ∀ {l o o'},qr b (qr b h o++l) o'=qr b h o'++l:=qdL hbl;have s4: ∀ {l o},qt b (qr b h o++l)=some o:=qbP hbl;have s3: ∀ {l o w},qF (qr b h o++l) b w=qH (some o) w:=λ{l o w}=>by rw[jk,s4]
  have g0:(zW M)[i*6]? =some (.str t.text):=by
   have:=qdT (L:=M) (i:=i) (k:=0) om om
   rw[Nat.add_zero]at this;rw[this,hat];rfl
  have b1:(i*6<L.length*6)=True:=wl;have b2:(i*6+1+1<=L.length*6)=True:=wl;have b3:(i*6+6<=L.length*6)=True:=wl;have hset:=qg5 (L:=M) (i:=i) (tkN t) om;rw[<-hsucc]at hset;have hcut:=qaN (L:=M) (i:=i) om;rw[hat]at hcut;have hS:List.take (i*6+1) (zW M)++ [AV.str t.text]++List.drop (i*6+1+1) (zW M)=zW (nmL L (i+1)):=by
   rw[<-hset];have e1:List.take (i*6+1) (zW M)=List.take (i*6) (zW M)++ [.str t.text]:=by
    rw[List.take_add_one,g0];rfl
   have e2:List.drop (i*6+1+1) (zW M)=(tkC t).drop 2++(zW M).drop (i*6+6):=by
    rw[<-hcut,List.drop_take,List.drop_drop]
    have:List.drop (i*6+6) (zW M)=List.drop 4 (List.drop (i*6+2) (zW M)):=by rw[List.drop_drop]
    rw[this,show i*6+1+1=i*6+2 by omega];exact (List.take_append_drop 4 _).symm
   rw[e1,e2];simp[tkC,tkN]
  have hL2:=jz (nmL L (i+1));rw[qcj]at hL2;have hat2:(nmL L (i+1)).getD i default=tkN t:=by rw[hsucc];exact qdq om
  have hcut2:=qaN (L:=nmL L (i+1)) (i:=i) (by rw[qcj];exact hi);rw[hat2]at hcut2;have h0':(zW (nmL L (i+1)))[i*6]? =some (.str t.text):=by
   have:=qdT (L:=nmL L (i+1)) (i:=i) (k:=0) (by rw[qcj];exact hi) om
   rw[hat2]at this;exact this
  have hS2:List.take (i*6+1) (zW (nmL L (i+1)))++ [AV.str t.text]++List.drop (i*6+1+1) (zW (nmL L (i+1)))=zW (nmL L (i+1)):=by
   refine qeV ?_;rw[qdT (by rw[qcj];exact hi) om,hat2];rfl
  obtain⟨f,hf,hf2⟩:=qqw gt;have c1:=λh=>qDW (tkN t) f h hf hf2
  have ho2:zg v 119 (zW (nmL L (i+1)))= .mem v 119 (zW (nmL L (i+1))):=by
   unfold zg;rw[ine λe=> ?_]
   have:=congrArg List.length e
   rw[hL2,lnl]at this;omega
  rcases qqx gt lt with⟨q1,q2,q3⟩|⟨q1,q2⟩
  ·have hiw:(!qhN (tkN t).flags&& !mkB (tkN t).flags)=true:=by rw[show (tkN t).flags=t.flags from rfl,q1,q2];rfl
   rw[hiw]at c1;have c2:=λh=>qCS t.text h lt q3
   simp (disch:=omega) only[k1,s1,s2,s4,hM,g0,b1,b2,b3,hS,hL2,hcut2,go_sem]
   repeat' first|((first|refine cA (c1 _) ?_ ?_|refine cA (c2 _) ?_ ?_);exact flk;simp (disch:=omega) only[k1,s1,s2,s4,b1,b2,hL2,h0',hS2,go_sem])|with_reducible apply aiA|exact clz|fail
   refine hK _ _ (i+1) hi om ?_;rw[ho2];refine Wk.temps ?_
   (simp only[go_sem,qf,qc,qa,qe];try exact we)
  ·have hiw:(!qhN (tkN t).flags&& !mkB (tkN t).flags)=false:=by rw[show (tkN t).flags=t.flags from rfl,q1,q2];rfl
   rw[hiw]at c1;simp (disch:=omega) only[k1,s1,s2,s4,hM,g0,b1,b2,b3,hS,hL2,hcut2,go_sem]
   repeat' first|(refine cA (c1 _) flk ?_;simp (disch:=omega) only[k1,s1,b1,hL2,go_sem])|with_reducible apply aiA|exact clz|fail
   refine hK _ _ (i+1) hi om ?_;rw[ho2];refine Wk.temps ?_
   (simp only[go_sem,qf,qc,qa,qe];try exact we)
 have k1:((i:Int)<L.length)=False:=wm;obtain rfl:i=L.length:=by omega
 simp (disch:=omega) only[k1,go_sem];rw[qtM];refine gL ⟨trivial,trivial,trivial⟩ qL (λo ho=>(jo ho).imp id (λe=>by rw[e];exact jy (kr _ _))) ⟨rfl,rfl⟩ ?_;simp only[go_sem];rw[ine om];exact qi
end RC
end
section
open Go Go.Proofs AF HY LN
namespace AF
theorem quK{h:wh}{a b c:Nat}{X Y Z o:AObj}(ho:o∈tri h a b c X Y Z):o∈h∨o=X∨o=Y∨o=Z:=by
 unfold tri at ho;rcases jo ho with h1|rfl
 ·rcases jo h1 with h1|rfl
  ·rcases jo h1 with h1|rfl
   ·exact .inl h1
   ·exact .inr (.inl rfl)
  ·exact .inr (.inr (.inl rfl))
 ·exact .inr (.inr (.inr rfl))
theorem qAj{h l:wh}{a b c k:Nat}{X Y Z:AObj}(hk:k<h.length)(ha:k≠a)(hb:k≠b)(hc:k≠c):qt k (tri h a b c X Y Z++l)=qt k h:=by
 rw[zH (by rw[tri_len];exact hk)];unfold tri;rw[qN hc,qN hb,qN ha]
theorem qAk{h l:wh}{a b c k:Nat}{X Y Z o:AObj}(hk:k<h.length)(ha:k≠a)(hb:k≠b)(hc:k≠c):qr k (tri h a b c X Y Z++l) o=tri (qr k h o) a b c X Y Z++l:=by
 rw[zI (by rw[tri_len];exact hk)];unfold tri;rw[kJ hc,kJ hb,kJ ha]
theorem qrN{h:wh}{a b c:Nat}{X Y Z:AObj}(ha:qt a h=some X)(hb:qt b h=some Y)(hc:qt c h=some Z):tri h a b c X Y Z=h:=by
 unfold tri;rw[jN ha,jN hb,jN hc]
end AF
namespace RC
theorem qbV{v n:Nat}{L:List Tk}{ty:TypeId}{fz:Nat->Bool}{h:wh}{d:Nat}(hn:n=L.length):VLe (qe9 (some (zg v ty (zW L))) v 6 0 n (rei fz h (d+1))) (zJ L):=by
 subst hn;unfold zg;split
 ·rename_i e
  have:L= []:=by
   cases L with
   |nil=>rfl
   |cons a r=>exact absurd e (by simp[zW,tkC])
  subst this;rw[slOf_emp,ipo rfl];exact qP
 ·rw[slOf_mem,ipo ⟨rfl,by rw[jz];omega⟩];refine VLe.sl_eq rfl (λi hi=> ?_);simp only[Nat.zero_add];rw[qaN hi];rfl
theorem qFx(t:Tk)(h:wh):ACalls Tryz.prog 289 [.agg (tkC t)] h (.bool (decide (64<t.text.length))) h:=by
 by_cases g:64<t.text.length
 ·have k1:((64:Int)<t.text.length)=True:=wl;rw[dqt g];refine acO qrk ?_;simp (disch:=omega) only[qsk,tkC,k1,go_sem]
  repeat' first|exact wa|fail
 ·have k1:((64:Int)<t.text.length)=False:=wm;rw[dqf g];refine acO qrk ?_;simp (disch:=omega) only[qsk,tkC,k1,go_sem]
  repeat' first|exact wa|fail
theorem qE0(L:List Tk)(h:wh)(hl:L.length<=1000000000):ACalls Tryz.prog 183 [zJ L,.fn (.func 289) [] []] h (.bool (qgE L)) h:=
 qw6 qra ⟨rfl,rfl⟩ ⟨rfl,rfl⟩ (qfs qrh L.length (λj=>tkC (L.getD j default)) (λj=> .agg (tkC (L.getD j default))) 289 [] [] (λj=>decide (64<(L.getD j default).text.length)) h (λi _=>⟨rfl,by simp[kA,tkC],rfl,rfl,rfl⟩) (λi _=>qFx _ _) om)
end RC
end
section
open Go Go.Proofs AF HY LN
namespace RC
def qg6(s:Str):List Tk:=if qd8 s=0 then qbX s else []
theorem qC6(s:Str)(h:wh)(hl:s.length<=1000)(hs:s≠ [])(hc:zN s=0)(hg:zT h frmN frmC):ACalls Tryz.prog 224 [.agg [.str [],.int .i64 0],jQ s,.nl] h (.tup [zJ (qg6 s),.int .i64 (qd8 s)]) h:=by
 have c1:=λl=>qBR s (h++l) om om hs hc hg.app
 have c2:=λh=>qD3 h
 have c3:=λh=>qCQ [] h (by simp)
 rw[show qlh []=true from rfl]at c3;have c4:=λl=>qDR s 8 (h++l) om om (λl'=>qBR s (h++l++l') om om hs hc hg.app.app)
 have c9:=λl=>qDR s 9 (h++l) om om (λl'=>qBR s (h++l++l') om om hs hc hg.app.app)
 have c5:=λh=>qEo s h
 unfold jQ at c1 c4 c5 c9;refine acO qxW ?_;simp (disch:=omega) only[qv8,jQ,go_sem]
 repeat' first|((first|refine cA (c1 _) ?_ ?_|refine cG (λe=>c2 _) ?_ ?_|refine cA (c3 _) ?_ ?_|refine cA (c4 _) ?_ ?_|refine cA (c9 _) ?_ ?_);exact flk;simp (disch:=omega) only[go_sem])|(apply qb;exact rvk;simp only[go_sem])|(with_reducible first|intro _|apply aiA)|exact clz|fail
 refine⟨_,_,(Wk.ownNil (j:=h.length+2) (i:=0) (k:=h.length+4) (v:=1) (ty:=343) (cs:= [.nl,.nilp,.nl,.bool false,.bool false,.bool false]) (ve:=0) (sz:=6) ?m1 rfl ?m2).trans
  (Wk.ownNil (j:=h.length+2) (i:=2) (k:=h.length+5) (v:=1) (ty:=343) (cs:= [.osl (h.length+4) 0 6 0 0,.nilp,.nl,.bool false,.bool false,.bool false]) (ve:=0) (sz:=1) ?m3 rfl ?m4),?_⟩
 case m1=>simp only[go_sem]
 case m2=>simp only[go_sem]
 case m3=>
  simp only[List.set_cons_zero,go_sem]
 case m4=>simp only[List.set_cons_zero,go_sem]
 simp (disch:=omega) only[List.set_cons_zero,List.set_cons_succ,go_sem]
 repeat' first|(refine cA (c5 _) flk ?_;simp (disch:=omega) only[go_sem])
 obtain⟨base,hbase⟩: ∃base:AObj->wh,base=λO=>h++ [.mem 1 117 [.str [],.int .i64 0],.emp 1,.mem 1 343 [.osl (h.length+4) 0 6 0 0,.nilp,.osl (h.length+5) 0 1 0 0,.bool false,.bool false,.bool false],O,.emp 0,.emp 0]:=⟨_,rfl⟩
 have hbl: ∀O,(base O).length=h.length+6:=λO=>by rw[hbase];simp
 have hT: ∀O,T3 (base O) (h.length+2) (h.length+4) (h.length+5):=λO=>⟨by rw[hbl];omega,by rw[hbl];omega,by rw[hbl];omega,om,om,om⟩
 have f1: ∀ {O X Y Z l},qt (h.length+3) (tri (base O) (h.length+2) (h.length+4) (h.length+5) X Y Z++l)=some O:=λ{O X Y Z l}=>by
  rw[qAj (by rw[hbl];omega) om om om,hbase];simp only[go_sem]
 have f2: ∀ {O O' X Y Z l},qr (h.length+3) (tri (base O) (h.length+2) (h.length+4) (h.length+5) X Y Z++l) O'=tri (base O') (h.length+2) (h.length+4) (h.length+5) X Y Z++l:=λ{O O' X Y Z l}=>by
  rw[qAk (by rw[hbl];omega) om om om,hbase];simp only[go_sem]
 have f4: ∀ {v w ty cs X Y Z l},cellsOf (tri (base (.mem v ty cs)) (h.length+2) (h.length+4) (h.length+5) X Y Z++l) (h.length+3) w=if v=w then some cs else none:=λ{v w ty cs X Y Z l}=>by rw[zC,f1];rfl
 have eT: ∀ {O X Y Z},tri (base O) (h.length+2) (h.length+4) (h.length+5) X Y Z=h++ [.mem 1 117 [.str [],.int .i64 0],.emp 1,X,O,Y,Z]:=λ{O X Y Z}=>by
  rw[hbase];unfold tri;simp only[go_sem]
 have hst:base (.emp 0)=brO (base (.emp 0)) (h.length+2) (h.length+4) (h.length+5) 1 (brI 0 0 (s.take 0)):=by
  refine (qrN ?_ ?_ ?_).symm
  ·rw[hbase];simp only[go_sem];rfl
  ·rw[hbase];simp only[go_sem];rfl
  ·rw[hbase];simp only[go_sem];rfl
 have hLow: ∀(q:Br) O,(∀n,lowO n O)->LowI (base (.emp 0)) (brO (base O) (h.length+2) (h.length+4) (h.length+5) 1 q):=λq O lO=>by
  refine⟨by rw[qdi,hbl,hbl],λo ho=> ?_⟩;rcases quK ho with h1|rfl|rfl|rfl
  ·rw[hbase]at h1 ⊢;rcases List.mem_append.1 h1 with h1|h1
   ·exact .inl (List.mem_append_left _ h1)
   ·simp only[List.mem_cons,List.not_mem_nil,or_false]at h1;rcases h1 with rfl|rfl|rfl|rfl|rfl|rfl
    ·left;simp
    ·left;simp
    ·left;simp
    ·right;exact⟨lO _,lO _⟩
    ·left;simp
    ·left;simp
  ·right
   have:=jR (hT O) 1 q
   rw[hbl]at this ⊢;exact⟨this,lowO_mono om this⟩
  ·right;exact⟨gz _ _,gz _ _⟩
  ·right;exact⟨je _ _ _,je _ _ _⟩
 have e0:h++ [.mem 1 117 [.str [],.int .i64 0],.emp 1,.mem 1 343 [.osl (h.length+4) 0 6 0 0,.nilp,.osl (h.length+5) 0 1 0 0,.bool false,.bool false,.bool false],.emp 0,.emp 0,.emp 0]=base (.emp 0):=by rw[hbase]
 rw[e0];refine zE (xs:=atX s) (itA s om) (λa ha=> ?_)
  (S:=λi hh=> ∃O,qy [O] 0=true∧(∀n,lowO n O)∧hh=brO (base O) (h.length+2) (h.length+4) (h.length+5) 1 (brI 0 0 (s.take i))) (E:=λ_ _=>False) ?_ ?_ ?_ ?_ ?_ ?_ ?_
 ·obtain⟨c,_,rfl⟩:=List.mem_map.1 (show a∈s.map _ from ha);rfl
 ·rintro i hh ⟨O,_,l1,rfl⟩;exact hLow _ _ l1
 ·intro s hh hf;exact hf.elim
 ·exact⟨.emp 0,rfl,λ_=>trivial,hst⟩
 ·rw[hbl];simp[qT,qT.lowVs]
  try omega
 ·rintro i hh tl LI TS hi ⟨O,s1,l1,rfl⟩ hlen K K2 hK hN hR' hX;have hi':i<s.length:=by rw[qb4]at hi;exact hi
  rw[qqV hi];have t:=hT O;have f3: ∀ {X Y Z l},qy (tri (base O) (h.length+2) (h.length+4) (h.length+5) X Y Z++l) (h.length+3)=true:=λ{X Y Z l}=>by unfold qy;rw[f1];exact s1
  simp only[kK];unfold brO;simp (disch:=omega) only[f1,f2,f3,f4,atC,go_sem];refine hK _ _ (brO (base (.mem (qo (some O)+1) 348 (atC 1 (ch s i)))) (h.length+2) (h.length+4) (h.length+5) 1 (brI 0 0 (s.take i))) ?_ ?_ ?_
  ·rfl
  ·rw[qdi,hbl,hbl]
  ·have cA:=qjY (va:=1) (λh' t'=>qBw (va:=1) t' (brI 0 0 (s.take i)) (ch s i) (qqX 0 0 s om om)) (hT (.mem (qo (some O)+1) 348 (atC 1 (ch s i)))) (.lp .busy TS LI::tl);unfold brO atC at cA;unfold brO;simp (disch:=omega) only[f4,atC,go_sem];refine qz cA (by exact flk) ?_;simp (disch:=omega) only[go_sem];refine hN _ _ (brO (base (.mem (qo (some O)+1) 348 (atC 1 (ch s i)))) (h.length+2) (h.length+4) (h.length+5) 1 ((brI 0 0 (s.take i)).pt (ch s i))) rfl (by rw[qdi,hbl,hbl]) ⟨_,?_,?_,by rw[qnP 0 0 s hi']⟩
   ·rfl
   ·intro n d hd;simp[atC]at hd;rcases hd with rfl|rfl|rfl|rfl|rfl|rfl|rfl<;>rfl
 ·rintro hh ⟨O,s1,l1,rfl⟩;have t:=hT O;rw[qb4,List.take_length];have hqo:=qqX 0 0 s om (nlr s.length);have hqb:=qvD 0 0 s s.length (nlr _);rw[List.take_length]at hqo hqb;obtain⟨q,hq⟩:=wg (brI 0 0 s)
  rw[<-hq]at hqo hqb ⊢;obtain⟨n1,n2,n3,n4⟩:=qrz hqb (qcJ s);have n1:q.nd.out=qbk s:=n1;have cE:=qr4 (va:=1) t q (λe=>(hqo.op e).1) hqo.cl (by have:=hqo.n;omega) (by have:=hqo.w;omega);simp (disch:=omega) only[go_sem];refine qz cE (by exact flk) ?_;obtain⟨r,hr⟩:=wg q.nd
  rw[<-hr]at n1 ⊢;have zga: ∀ {X Y Z l},qt (h.length+2) (tri (base O) (h.length+2) (h.length+4) (h.length+5) X Y Z++l)=some X:=DV (t);have yga: ∀ {X Y Z},qt (h.length+2) (tri (base O) (h.length+2) (h.length+4) (h.length+5) X Y Z)=some X:=λ{X Y Z}=>by have:=zga (X:=X) (Y:=Y) (Z:=Z) (l:= []);simpa only[lan] using this
  have zgb: ∀ {X Y Z l},qt (h.length+4) (tri (base O) (h.length+2) (h.length+4) (h.length+5) X Y Z++l)=some Y:=UR (t);have ygb: ∀ {X Y Z},qt (h.length+4) (tri (base O) (h.length+2) (h.length+4) (h.length+5) X Y Z)=some Y:=λ{X Y Z}=>by have:=zgb (X:=X) (Y:=Y) (Z:=Z) (l:= []);simpa only[lan] using this
  have zgc: ∀ {X Y Z l},qt (h.length+5) (tri (base O) (h.length+2) (h.length+4) (h.length+5) X Y Z++l)=some Z:=Ux (t);have ygc: ∀ {X Y Z},qt (h.length+5) (tri (base O) (h.length+2) (h.length+4) (h.length+5) X Y Z)=some Z:=λ{X Y Z}=>by have:=zgc (X:=X) (Y:=Y) (Z:=Z) (l:= []);simpa only[lan] using this
  have zsa: ∀ {X Y Z o l},qr (h.length+2) (tri (base O) (h.length+2) (h.length+4) (h.length+5) X Y Z++l) o=tri (base O) (h.length+2) (h.length+4) (h.length+5) o Y Z++l:=US (t);have ysa: ∀ {X Y Z o},qr (h.length+2) (tri (base O) (h.length+2) (h.length+4) (h.length+5) X Y Z) o=tri (base O) (h.length+2) (h.length+4) (h.length+5) o Y Z:=λ{X Y Z o}=>by have:=zsa (X:=X) (Y:=Y) (Z:=Z) (o:=o) (l:= []);simpa only[lan] using this
  have zsb: ∀ {X Y Z o l},qr (h.length+4) (tri (base O) (h.length+2) (h.length+4) (h.length+5) X Y Z++l) o=tri (base O) (h.length+2) (h.length+4) (h.length+5) X o Z++l:=qab (t);have ysb: ∀ {X Y Z o},qr (h.length+4) (tri (base O) (h.length+2) (h.length+4) (h.length+5) X Y Z) o=tri (base O) (h.length+2) (h.length+4) (h.length+5) X o Z:=λ{X Y Z o}=>by have:=zsb (X:=X) (Y:=Y) (Z:=Z) (o:=o) (l:= []);simpa only[lan] using this
  have zsc: ∀ {X Y Z o l},qr (h.length+5) (tri (base O) (h.length+2) (h.length+4) (h.length+5) X Y Z++l) o=tri (base O) (h.length+2) (h.length+4) (h.length+5) X Y o++l:=qac (t);have ysc: ∀ {X Y Z o},qr (h.length+5) (tri (base O) (h.length+2) (h.length+4) (h.length+5) X Y Z) o=tri (base O) (h.length+2) (h.length+4) (h.length+5) X Y o:=λ{X Y Z o}=>by have:=zsc (X:=X) (Y:=Y) (Z:=Z) (o:=o) (l:= []);simpa only[lan] using this
  have zca: ∀ {X Y Z v l},cellsOf (tri (base O) (h.length+2) (h.length+4) (h.length+5) X Y Z++l) (h.length+2) v=qw (some X) v:=qaQ (t);have yca: ∀ {X Y Z v},cellsOf (tri (base O) (h.length+2) (h.length+4) (h.length+5) X Y Z) (h.length+2) v=qw (some X) v:=λ{X Y Z v}=>by have:=zca (X:=X) (Y:=Y) (Z:=Z) (v:=v) (l:= []);simpa only[lan] using this
  have zcb: ∀ {X Y Z v l},cellsOf (tri (base O) (h.length+2) (h.length+4) (h.length+5) X Y Z++l) (h.length+4) v=qw (some Y) v:=qaR (t);have ycb: ∀ {X Y Z v},cellsOf (tri (base O) (h.length+2) (h.length+4) (h.length+5) X Y Z) (h.length+4) v=qw (some Y) v:=λ{X Y Z v}=>by have:=zcb (X:=X) (Y:=Y) (Z:=Z) (v:=v) (l:= []);simpa only[lan] using this
  have zcc: ∀ {X Y Z v l},cellsOf (tri (base O) (h.length+2) (h.length+4) (h.length+5) X Y Z++l) (h.length+5) v=qw (some Z) v:=qaS (t);have ycc: ∀ {X Y Z v},cellsOf (tri (base O) (h.length+2) (h.length+4) (h.length+5) X Y Z) (h.length+5) v=qw (some Z) v:=λ{X Y Z v}=>by have:=zcc (X:=X) (Y:=Y) (Z:=Z) (v:=v) (l:= []);simpa only[lan] using this
  have zla: ∀ {X Y Z v l},qF (tri (base O) (h.length+2) (h.length+4) (h.length+5) X Y Z++l) (h.length+2) v=qH (some X) v:=qaT (t);have yla: ∀ {X Y Z v},qF (tri (base O) (h.length+2) (h.length+4) (h.length+5) X Y Z) (h.length+2) v=qH (some X) v:=λ{X Y Z v}=>by have:=zla (X:=X) (Y:=Y) (Z:=Z) (v:=v) (l:= []);simpa only[lan] using this
  have zlb: ∀ {X Y Z v l},qF (tri (base O) (h.length+2) (h.length+4) (h.length+5) X Y Z++l) (h.length+4) v=qH (some Y) v:=qaU (t);have ylb: ∀ {X Y Z v},qF (tri (base O) (h.length+2) (h.length+4) (h.length+5) X Y Z) (h.length+4) v=qH (some Y) v:=λ{X Y Z v}=>by have:=zlb (X:=X) (Y:=Y) (Z:=Z) (v:=v) (l:= []);simpa only[lan] using this
  have zlc: ∀ {X Y Z v l},qF (tri (base O) (h.length+2) (h.length+4) (h.length+5) X Y Z++l) (h.length+5) v=qH (some Z) v:=qaV (t);have ylc: ∀ {X Y Z v},qF (tri (base O) (h.length+2) (h.length+4) (h.length+5) X Y Z) (h.length+5) v=qH (some Z) v:=λ{X Y Z v}=>by have:=zlc (X:=X) (Y:=Y) (Z:=Z) (v:=v) (l:= []);simpa only[lan] using this
  have hrl:=qeX s;have hor:r.out.length=(qbk s).length:=by rw[n1]
  have k1:((1024:Int)<r.out.length)=False:=wm;have hcE:=λh=>qE0 (qbk s) h om
  unfold brO brX brY;rw[n1];rw[n1]at k1;have hL:=jz (qbk s);have hb64:=qcW (L:=qbk s);have hTE:qd8 s=if qgE (qbk s)=true then 4 else 0:=rfl
  have hTL:qg6 s=if qd8 s=0 then qbX s else []:=rfl
  cases hB:qgE (qbk s)with
  |true=>
   rw[hB]at hTE hcE;rw[ipo rfl]at hTE;rw[hTE,ine (by decide)]at hTL;rw[hTE,hTL];simp (disch:=omega) only[yca,ylb,ql,qZ,k1,go_sem];refine cG (λ_=>ACalls.borrow (r:= .bool true) ((hcE []).le ?g1 (qi)) rfl) (λ_=>by exact flk) ?_
   case g1=>
    simp only[List.map_cons,List.map_nil,go_sem,if_true];rw[ygb];exact⟨qbV rfl,qi,trivial⟩
   simp (disch:=omega) only[yca,ql,go_sem]
   repeat' first|with_reducible apply aiA
   ·rw[eT];simp only[go_sem]
   ·rw[eT];simp only[go_sem];refine qdp rfl ⟨trivial,trivial,trivial⟩ ⟨rfl,rfl⟩ ?_;simp only[go_sem];exact VLe.tup ⟨qP,qi,trivial⟩
  |false=>
   rw[hB]at hTE hcE;rw[ine (by simp)]at hTE;rw[hTE,ipo rfl]at hTL;rw[hTE,hTL];simp (disch:=omega) only[yca,ylb,ql,qZ,k1,go_sem];refine cG (λ_=>ACalls.borrow (r:= .bool false) ((hcE []).le ?g2 (qi)) rfl) (λ_=>by exact flk) ?_
   case g2=>
    simp only[List.map_cons,List.map_nil,go_sem,if_true];rw[ygb];exact⟨qbV rfl,qi,trivial⟩
   simp (disch:=omega) only[yca,ql,go_sem];refine qz (qCT (qbk s) (h.length+4) r.vo _ ygb (qg7 s) (hb64.1 hB) om) (by exact flk) ?_;simp (disch:=omega) only[ysb,go_sem]
   repeat' first|with_reducible apply aiA|exact clz|fail
   rw[eT];refine qdp rfl ⟨trivial,trivial,trivial⟩ ⟨rfl,rfl⟩ ?_;simp only[go_sem];exact VLe.tup ⟨qbV (by simp[qbX]),qi,trivial⟩
 ·intro e hh hf;exact hf.elim
end RC
end
section
open Go Go.Proofs AF
def qgA:List Nat:= [224]
def qnW:C:=
 (vU [ON 2 (.nilo 0 1 9) [],vO 3 0] ((vU [MV 7 0,O1 8 (.call 219 true) 7,MV 4 8] (vU [MV 9 4,vP 10 .neq 9 0] (vV 10 (vX [MV 11 4,ON 2 (.nilo 0 1 9) [],MV 3 11])))).seq ((vU [MV
 12 0,BC 13 .eql 12 (.str [])] (vV 13 (vX [ON 2 (.nilo 0 1 9) [],vO 3 0]))).seq (vU [⟨some 15,none,.build [.str [],i6 0] [],[]⟩,MV 16 0,⟨some 17,none,.build [i6 0,.str [],i6
 0,.nl] [(0,1),(1,1)],[.c (i6 1),.t 16]⟩,⟨some 18,none,.bslc 1 4 1 234 [i6 0,.str [],i6 0,.nl] [(0,4)],[.t 17]⟩,ON 19 (.call 224 false) [.t 15,.t 18,.c .nl],MV 14 19,O1 20 (.ext
 0) 14,O1 21 (.ext 1) 14,MV 5 20,MV 6 21] (vX [MV 22 5,O1 23 (.call 64 true) 22,MV 24 6,MV 2 23,MV 3 24])))))
theorem qkM:qI Tryz.prog 165 25 2 [RV.tmp 2,RV.tmp 3] qnW:=fi Tryz.f165 [2,18] qgA []
def qvQ:C:=
 (vU [ON 2 (.nilo 0 6 119) []] (vU [⟨some 6,none,.build [.str [],i6 0] [],[]⟩,MV 7 0,⟨some 8,none,.build [i6 0,.str [],i6 0,.nl] [(0,1),(1,1)],[.c (i6 1),.t 7]⟩,⟨some
 9,none,.bslc 1 4 1 234 [i6 0,.str [],i6 0,.nl] [(0,4)],[.t 8]⟩,ON 10 (.call 224 false) [.t 6,.t 9,.c .nl],MV 5 10,O1 11 (.ext 0) 5,O1 12 (.ext 1) 5,MV 3 11,MV 4 12] (vX [MV 13
 3,MV 2 13])))
theorem qxD:qI Tryz.prog 150 14 2 [RV.tmp 2] qvQ:=fi Tryz.f150 [2,9] qgA []
end
section
open Go Go.Proofs AF
def jC:List Nat:= []
def qcL:C:=
 (vU [O1 3 (.box 0 26) 0,O1 5 (.box 1 65) 2,vO 6 0,vO 7 0] ((C.block 0 (vU [vN 15 0 5,LD 16 15,vP 17 .lss 16 1,MV 18 17,v7 19 18 0 5,v8 20 18 19,vT 21 18 (.bin .gtr) 20 (i6 3),PT
 22 18 21,MV 14 22] (C.cond (.t 14) (vX [vO 6 0,vO 7 8]) (vU [vN 24 3 5,LD 25 24,BC 26 .neq 25 (.str []),MV 27 26,P1 28 27 true (.fldA 0) 5,P1 29 27 true (.load none) 28,PC 30
 27 true (.bin .neq) 29 (i6 2),PF 31 27 30,MV 23 31] (vV 23 (vX [vO 6 0,vO 7 1])))))).seq (vU [vN 32 1 3,LD 33 32,vN 34 1 5,LD 35 34,O2 36 (.call 125 true) 33 35,MV 8 36] ((vU
 [MV 37 8,vP 38 .lss 37 0] (vV 38 (vX [vO 6 0,vO 7 6]))).seq (vU [O1 40 (.load (some 4)) 3,MV 41 8,vN 42 2 5,LD 43 42,ON 44 (.call 164 true) [.t 40,.t 41,.t 43],MV 39 44,O1 45
 (.ext 0) 39,O1 46 (.ext 1) 39,MV 9 45,MV 10 46] ((vU [MV 47 10,vP 48 .neq 47 0] (vV 48 (vX [vO 6 0,vO 7 6]))).seq (vU [MV 50 1,MV 51 9,O2 52 (.call 76 true) 50 51,MV 49 52,O1
 53 (.ext 0) 49,O1 54 (.ext 1) 49,MV 11 53,MV 10 54] ((vU [MV 55 10,vP 56 .neq 55 0,MV 57 56,vS 58 57 11,vT 59 57 (.bin .lss) 58 (i6 0),PT 60 57 59] (vV 60 (vX [vO 6 0,vO 7
 20]))).seq ((vU [vN 61 0 5,LD 62 61,vP 63 .eql 62 2] (vV 63 (vU [vN 65 3 5,LD 66 65,O1 67 (.call 165 true) 66,MV 64 67,O1 68 (.ext 0) 64,O1 69 (.ext 1) 64,MV 12 68,MV 13 69]
 ((vU [MV 70 13,vP 71 .neq 70 0] (vV 71 (vX [MV 72 13,vO 6 0,MV 7 72]))).seq (vU [MV 73 12,O1 74 .len 73,vP 75 .eql 74 0] (vV 75 (vX [vO 6 0,vO 7 5]))))))).seq (vX [MV 76 11,MV
 6 76,vO 7 0]))))))))))
theorem gK:qI Tryz.prog 95 77 2 [RV.tmp 6,RV.tmp 7] qcL:=fi Tryz.f95 [3,5] jC []
def qBB:C:=
 (vU [O1 3 (.box 0 26) 0,O1 5 (.box 1 65) 2,vO 6 0,vO 7 0] ((vU [O1 9 (.load (some 4)) 3,MV 10 1,O2 11 (.call 66 true) 9 10,MV 8 11] (vU [MV 12 8,vP 13 .neq 12 0] (vV 13 (vX [MV
 14 8,vO 6 0,MV 7 14])))).seq (vX [O1 15 (.load (some 4)) 3,MV 16 1,O1 17 (.load (some 4)) 5,ON 18 (.call 95 true) [.t 15,.t 16,.t 17],O1 19 (.ext 0) 18,O1 20 (.ext 1) 18,MV 6
 19,MV 7 20])))
theorem qyo:qI Tryz.prog 32 21 2 [RV.tmp 6,RV.tmp 7] qBB:=fi Tryz.f32 [3,5] jC []
def qDA:C:=
 (vU [O1 3 (.box 0 26) 0,O1 5 (.box 1 65) 2,vO 6 0] (vU [O1 10 (.load (some 4)) 3,MV 11 1,O1 12 (.load (some 4)) 5,ON 13 (.call 32 true) [.t 10,.t 11,.t 12],MV 9 13,O1 14 (.ext
 0) 9,O1 15 (.ext 1) 9,MV 7 14,MV 8 15] (vX [MV 16 8,MV 6 16])))
theorem qCi:qI Tryz.prog 36 17 2 [RV.tmp 6] qDA:=fi Tryz.f36 [3,5] jC []
def qBF:C:=
 (vU [O1 3 (.box 0 26) 0,ON 6 (.nilo 1 1 3) [],vO 7 0] ((vU [MV 13 2,O1 14 .len 13,vP 15 .gtr 14 256] (vV 15 (vX [ON 6 (.nilo 1 1 3) [],vO 7 4]))).seq (vU [ON 8 (.nilo 2 1 3) []]
 ((vU [MV 16 2,O1 17 .len 16,vO 18 0] (C.block 0 (vU [BI 19 .lss 18 17] ((vW 19 0).seq ((C.block 1 (vU [O2 20 (.idxA 4) 16 18,O1 21 (.load (some 4)) 20,⟨some 10,none,.alloc 3 65
 [i6 0,.str [],i6 0,.str []],[]⟩,ST 4 10 21] (vU [O1 23 (.load (some 4)) 3,MV 24 1,O1 25 (.load (some 4)) 10,ON 26 (.call 95 true) [.t 23,.t 24,.t 25],MV 22 26,O1 27 (.ext 0)
 22,O1 28 (.ext 1) 22,MV 11 27,MV 12 28] ((vU [MV 29 12,vP 30 .neq 29 0] (vV 30 (vX [MV 31 12,ON 6 (.nilo 1 1 3) [],MV 7 31]))).seq (vY [MV 32 8,MV 33 11,⟨some 34,none,.bslc 4 1
 1 3 [i6 0] [(0,1)],[.t 33]⟩,O2 35 (.app 5 1 3 8) 32 34,MV 8 35]))))).seq (vY [vP 36 .add 18 1,MV 18 36])))).loop)).seq (vX [MV 37 8,MV 6 37,vO 7 0])))))
theorem qyO:qI Tryz.prog 67 38 6 [RV.tmp 6,RV.tmp 7] qBF:=fi Tryz.f67 [3,6,8,10,34,35] jC []
def qwW:C:=
 (vU [MC 4 (.bool false)] ((vU [MV 5 0,O1 6 (.call 145 true) 5] (vV 6 (vX [MV 7 1,O1 8 (.call 145 true) 7,O1 9 (.un UnOp.not) 8,MV 10 9,MG 11 10 true 1,PC 12 10 true (.bin .neq)
 11 (.str [39]),PF 13 10 12,MV 4 13]))).seq (vX [MC 4 (.bool true)])))
theorem qoN:qI Tryz.prog 70 14 0 [RV.tmp 4] qwW:=fi Tryz.f70 [] jC []
def qDI:C:=
 (vU [O1 4 (.box 0 26) 0,O1 5 (.box 1 3) 1,O1 6 (.box 2 3) 2,O1 7 (.box 3 3) 3,MC 8 .nilfn] (vX [ON 9 (.mkfn (Fn.func 146) 0) [.t 5,.t 6,.t 4,.t 7],MV 8 9]))
theorem qCq:qI Tryz.prog 72 10 4 [RV.tmp 8] qDI:=fi Tryz.f72 [4,5,6,7] jC []
def qvM:C:=
 (vU [LD 8 1,MV 6 8] (C.block 0 ((vU [MV 9 6,LD 10 2,BI 11 .lss 9 10] (vW 11 0)).seq ((C.block 1 (vU [vN 14 3 3,LD 15 14,MV 16 6,O2 17 (.idxA 1) 15 16,LD 18 17,LD 19 4,O2 20
 (.idxA 1) 18 19,LD 21 20,MV 7 21] (vU [MV 22 7,vP 23 .geq 22 0,MV 24 23,MG 25 24 true 0,P1 26 24 true (.fldA 2) 3,P1 27 24 true (.load none) 26,P1 28 24 true (.load none) 4,P2
 29 24 true (.idxA 1) 27 28,P1 30 24 true (.load none) 29,MG 31 24 true 7,P2 32 24 true (.idxA 6) 30 31,P1 33 24 true (.load (some 6)) 32,MG 34 24 true 6,⟨some 35,some
 (24,true),.build [.str [],.str [],.str [],i6 0,i6 0,.str [],i6 0] [(0,6),(6,1)],[.t 33,.t 34]⟩,P2 36 24 true .callv 25 35,P1 37 24 true (.un UnOp.not) 36,PF 38 24 37] (vV 38
 C.ret)))).seq (vZ 12 6))).loop))
theorem qxz:qI Tryz.prog 146 39 0 [] qvM:=fi Tryz.f146 [] jC []
def qDJ:C:=
 (vU [⟨some 0,none,.alloc 0 142 [.nilfn,.nilfn,.nilfn,.nilfn],[]⟩] (vX [⟨some 1,none,.build [.nilfn,.nilfn,.nilfn,.nilfn] [(1,1),(2,1),(3,1)],[.c (.fn (Fn.func 147) [] []),.c
 (.fn (Fn.func 149) [] []),.c (.fn (Fn.func 151) [] [])]⟩,ST 4 0 1]))
theorem qCr:qI Tryz.prog 73 2 1 [RV.cell 0 (some 4)] qDJ:=fi Tryz.f73 [0] jC []
def qvN:C:=
 (vU [O1 3 (.box 0 26) 0,O1 4 (.box 1 39) 1,O1 5 (.box 2 65) 2,ON 6 (.nilo 3 7 131) []] (vX [O1 7 (.load (some 4)) 3,vN 8 0 4,LD 9 8,vN 10 1 4,LD 11 10,vN 12 1 3,LD 13 12,vN 14 1
 5,LD 15 14,O2 16 (.call 125 true) 13 15,ON 17 (.call 72 true) [.t 7,.t 9,.t 11,.t 16],O1 18 (.call 148 true) 17,MV 6 18]))
theorem qxA:qI Tryz.prog 147 19 4 [RV.tmp 6] qvN:=fi Tryz.f147 [3,4,5,6] jC []
def qvP:C:=
 (vU [O1 3 (.box 0 26) 0,O1 4 (.box 1 39) 1,O1 5 (.box 2 65) 2,ON 6 (.nilo 3 7 131) []] (vU [ON 7 (.nilo 4 7 131) []] ((vU [vN 10 3 5,LD 11 10,O1 12 (.call 150 true) 11,O1 13
 .len 12,vO 14 0] (C.block 0 (vU [BI 15 .lss 14 13] ((vW 15 0).seq ((C.block 1 (vU [O2 16 (.idxA 6) 12 14,O1 17 (.load (some 6)) 16,⟨some 9,none,.alloc 5 119 [.str [],.str
 [],.str [],i6 0,i6 0,.str []],[]⟩,ST 6 9 17] (vU [vN 18 4 9,LD 19 18,vP 20 .andNot 19 4,vN 21 4 9,ST 1 21 20] (vU [vN 22 5 9,⟨none,none,.store 1,[.t 22,.c (.str [])]⟩] (vY [MV
 23 7,O1 24 (.load (some 6)) 9,vN 25 0 4,LD 26 25,⟨some 27,none,.build [.str [],.str [],.str [],i6 0,i6 0,.str [],i6 0] [(0,6),(6,1)],[.t 24,.t 26]⟩,⟨some 28,none,.bslc 6 7 1
 131 [.str [],.str [],.str [],i6 0,i6 0,.str [],i6 0] [(0,7)],[.t 27]⟩,O2 29 (.app 7 7 131 88) 23 28,MV 7 29]))))).seq (vY [vP 30 .add 14 1,MV 14 30])))).loop)).seq (vX [MV 31
 7,MV 6 31]))))
theorem qxC:qI Tryz.prog 149 32 8 [RV.tmp 6] qvP:=fi Tryz.f149 [3,4,5,6,7,9,28,29] jC []
def qvR:C:=
 (vU [O1 3 (.box 0 26) 0,O1 4 (.box 1 39) 1,O1 5 (.box 2 65) 2,ON 6 (.nilo 3 7 131) []] (vX [ON 6 (.nilo 3 7 131) []]))
theorem qxE:qI Tryz.prog 151 7 4 [RV.tmp 6] qvR:=fi Tryz.f151 [3,4,5,6] jC []
def qvO:C:=
 (vU [ON 2 (.nilo 0 7 131) []] (vX [MV 3 0,ON 4 (.call 223 true) [.c .nl,.t 3],MV 2 4]))
theorem qxB:qI Tryz.prog 148 5 1 [RV.tmp 2] qvO:=fi Tryz.f148 [2] jC []
def qBb:C:=
 (vU [O1 3 (.box 0 26) 0,ON 6 (.nilo 1 1 51) [],vO 7 0] ((vU [O1 14 (.load (some 4)) 3,MV 15 1,O2 16 (.call 66 true) 14 15,MV 8 16] (vU [MV 17 8,vP 18 .neq 17 0] (vV 18 (vX [MV
 19 8,ON 6 (.nilo 1 1 51) [],MV 7 19])))).seq (vU [O1 21 (.load (some 4)) 3,MV 22 1,MV 23 2,ON 24 (.call 67 true) [.t 21,.t 22,.t 23],MV 20 24,O1 25 (.ext 0) 20,O1 26 (.ext 1)
 20,MV 9 25,MV 10 26] ((vU [MV 27 10,vP 28 .neq 27 0] (vV 28 (vX [MV 29 10,ON 6 (.nilo 1 1 51) [],MV 7 29]))).seq (vU [ON 11 (.nilo 2 1 51) []] ((vU [MV 30 9,O1 31 .len 30,vO 32
 0] (C.block 0 (vU [BI 33 .lss 32 31] ((vW 33 0).seq ((C.block 1 (vU [MV 34 32,MV 12 34] (vU [MV 35 12,vP 36 .add 35 1,MV 13 36] (C.block 2 ((v6 37 13 9 2).seq ((C.block 3 ((vU
 [MV 43 9,MV 44 12,O2 45 (.idxA 1) 43 44,LD 46 45,MV 47 9,MV 48 13,O2 49 (.idxA 1) 47 48,LD 50 49,BI 51 .neq 46 50] (vV 51 (C.exit 3))).seq ((vU [MV 52 11,O1 53 .len 52,vP 54
 .eql 53 4096] (vV 54 (vX [ON 6 (.nilo 1 1 51) [],vO 7 4]))).seq (vY [MV 55 11,MV 56 12,MV 57 13,⟨some 58,none,.bslc 3 1 2 3 [i6 0] [(0,1),(1,1)],[.t 56,.t 57]⟩,⟨some
 59,none,.bslc 4 1 1 51 [.nl] [(0,1)],[.t 58]⟩,O2 60 (.app 5 1 51 24) 55 59,MV 11 60])))).seq (vZ 41 13))).loop)))).seq (vY [vP 61 .add 32 1,MV 32 61])))).loop)).seq (vX [MV 62
 11,MV 6 62,vO 7 0])))))))
theorem qs9:qI Tryz.prog 34 63 6 [RV.tmp 6,RV.tmp 7] qBb:=fi Tryz.f34 [3,6,11,58,59,60] jC []
def qnV:C:=
 (vU [O1 3 (.box 0 26) 0,O1 4 (.box 1 3) 1,O1 5 (.box 2 3) 2,vO 6 0,vO 7 0] ((vU [O1 8 (.load (some 4)) 3,O1 9 (.call 47 true) 8,vP 10 .neq 9 0] (vV 10 (vX [vO 6 0,vO 7 1]))).seq
 ((vU [LD 11 4,vP 12 .lss 11 0,MV 13 12,v8 14 13 4,v7 15 13 1 3,v8 16 13 15,vQ 17 13 .len 16,vR 18 13 (.bin .geq) 14 17,PT 19 13 18,MV 20 19,v8 21 20 5,vT 22 20 (.bin .lss) 21
 (i6 0),PT 23 20 22,MV 24 23,v8 25 24 5,v7 26 24 2 3,v8 27 24 26,v8 28 24 4,vR 29 24 (.idxA 1) 27 28,v8 30 24 29,vQ 31 24 .len 30,vR 32 24 (.bin .geq) 25 31,PT 33 24 32] (vV 33
 (vX [vO 6 0,vO 7 2]))).seq (vX [vN 34 3 3,LD 35 34,O2 36 (.mkfn (Fn.func 240) 0) 4 5,O2 37 (.call 239 true) 35 36,MV 6 37,vO 7 0]))))
theorem qkL:qI Tryz.prog 164 38 3 [RV.tmp 6,RV.tmp 7] qnV:=fi Tryz.f164 [3,4,5] jC []
def qwf:C:=
 (vU [MC 4 (.bool false)] (vX [MV 5 0,LD 6 1,O2 7 (.idxA 1) 5 6,LD 8 7,LD 9 2,BI 10 .eql 8 9,MV 4 10]))
theorem qx4:qI Tryz.prog 240 11 0 [RV.tmp 4] qwf:=fi Tryz.f240 [] jC []
end
section
open Go Go.Proofs AF HY LN
namespace AF
theorem ACalls.frzd{P:Program}{f:FuncId}{args:wj}{h h':wh}{r:AV}(ks:List Nat)(hs:kM ks h=true)(hc:ACalls P f (args.map (frz (λk=>ks.contains k) h 8)) (qa5 ks h) r h'):ACalls P f args h r h':=by
 refine⟨hc.1,λw σ xs H hv=> ?_⟩;obtain⟨σ1,g1,g2,g3,g4⟩:=qcg ks H hs;have hv1:VRs w σ1 (args.map (frz (λk=>ks.contains k) h 8)) xs:=⟨by rw[hv.1];simp,λi c x hc hx=>by
  rw[List.getElem?_map,Option.map_eq_some_iff]at hc;obtain⟨c0,hc,rfl⟩:=hc
  exact qgy H (λb hb=>(g4 b hb).elim λj ⟨o,h1,h2,h3⟩=>⟨j,o,by simpa using h1,h2,h3⟩) (λj o hj ho=>g3 j o (by simpa using hj) ho) 8 (hv.2 i c0 x hc hx)⟩
 refine (hc.2 w σ1 xs g1 hv1).mono ?_;rintro e w' ⟨v,σ',rfl,k1,k2,k3⟩;exact⟨v,σ',rfl,k1,k2,g2.trans k3⟩
end AF
namespace RC
def qdb(b:List Tk):List Str:=b.map Tk.text
theorem qqy(s:Str):(qg6 s).length<=s.length:=by
 unfold qg6;split
 ·exact qaP s
 ·exact nzl _
theorem qFI(b:List Tk)(h:wh)(hn:b.length<=1000000):ACalls Tryz.prog 64 [zJ b] h (strs (qdb b)) h:=by
 refine acO qCp ?_;simp (disch:=omega) only[qDH,zJ,go_sem];refine qn (T:=λs:Nat×Nat×AObj×AObj=>qO 19 [(6,zJ b),(7,.int .i64 b.length),(8,.int .i64 s.1),(3,.osl (h.length+1) s.2.1 1 0 s.1)])
  (H:=λs=>h++ [.emp 1,zg s.2.1 9 (jl (qdb (b.take s.1))),s.2.2.1,s.2.2.2,.emp 0])
  (inv:=λs=>s.1<=b.length∧qy [s.2.2.1] 0=true∧qy [s.2.2.2] 0=true) (m:=λs=>b.length-s.1) (0,1,.emp 0,.emp 0) ⟨nzl _,rfl,rfl⟩ (Wk.temps ?_) ?_
 ·(simp only[zJ,go_sem,qf,qc,qa,qe];try exact we)
 rintro⟨i,v,O1,O2⟩ ⟨i1,i2,i3⟩ K hK;simp only at i1 i2 i3 hK;have i2': ∀m,qy (O1::m) 0=true:=λ_=>i2
 have i3': ∀m,qy (O2::m) 0=true:=λ_=>i3
 have eL:(qdb (b.take i)).length=i:=by unfold qdb;rw[List.length_map,List.length_take];omega
 by_cases hi:i<b.length
 ·have k1:((i:Int)<b.length)=True:=wl;have hS:qdb (b.take (i+1))=qdb (b.take i)++ [(b.getD i default).text]:=by
   unfold qdb;rw[List.take_add_one,zz hi,gdqA,zz hi,List.map_append];rfl
  obtain⟨L,hL⟩:=wg (qdb (b.take i))
  rw[<-hL]at hS eL ⊢;obtain⟨w,hw⟩:=wg (b.getD i default)
  have ew:=hw.symm;rw[ew]at hS;have eC:=jh L;have eTk:List.take i (jl L)=jl L:=ltl om;simp (disch:=omega) only[zJ,tkC,k1,ew,i2',i3',eC,eL,eTk,Nat.mul_one,go_sem]
  repeat' first|with_reducible apply aiA|exact clz|fail
  have eA:jl L++ [AV.str w.text]=jl (L++ [w.text]):=by simp[jl]
  have eD:(AV.str w.text::List.drop 1 (zk [AV.str []] 1))= [AV.str w.text]:=rfl;rw[eA,eD];refine hK _ _ (i+1,v+1,.mem (qo (some O1)+1) 119 (tkC w),.mem (qo (some O2)+1) 9 [.str w.text]) ⟨hi,rfl,rfl⟩ (by simp only;omega) ?_;simp only[hS,tkC];refine Wk.temps ?_
  (simp only[zJ,tkC,go_sem,qf,qc,qa,qe];try exact we)
 have k1:((i:Int)<b.length)=False:=wm;obtain rfl:i=b.length:=by omega
 rw[List.take_length]at eL ⊢;simp (disch:=omega) only[k1,go_sem]
 repeat' first|(apply qb;exact rvk;simp only[go_sem])
 exact qaL (λ_=>rfl) eL.symm
theorem qAi(s:Str)(h:wh)(hl:s.length<=1000)(hs:s≠ [])(hc:zN s=0)(hg:zT h frmN frmC):ACalls Tryz.prog 224 [.agg [.str [],.int .i64 0],.osl (h.length+1) 1 4 0 1,.nl] (h++ [.emp 1,.mem 1 234 (.int .i64 1:: .str s:: .int .i64 0:: .nl::List.drop 4 (zk [.int .i64 0,.str [],.int .i64 0,.nl] 1))]) (.tup [zJ (qg6 s),.int .i64 (qd8 s)]) (h++ [.emp 1,.emp 2]):=by
 have c1:=qC6 s (h++ [.emp 1,.emp 2]) hl hs hc hg.app;refine ACalls.frzd [h.length+1] ?s1 ?s2
 case s1=>simp only[kM,go_sem]
 case s2=>
  simp only[List.map_cons,List.map_nil,qa5,go_sem];have e: [h.length+1].contains (h.length+1)=true:=by simp
  simp only[e,if_true];refine c1.le ⟨qi,?_,qi,trivial⟩ (qi);unfold jQ;refine VLe.sl_eq rfl (λi hi=> ?_);obtain rfl:i=0:=by omega
  rfl
theorem qD6(s:Str)(h:wh)(hl:s.length<=1000)(hg:zT h frmN frmC):ACalls Tryz.prog 165 [.str s] h (.tup [strs (if zN s≠0 then [] else qdb (qg6 s)),.int .i64 (qdR s)]) h:=by
 have c0: ∀h,ACalls Tryz.prog 219 [.str s] h (.int .i64 (zN s)) h:=λh=>qC3 s h om
 unfold qdR
 by_cases g:zN s=0
 case neg=>
  have k1:(zN s=0)=False:=eqf g;rw[ipo g,ipo g];refine acO qkM ?_;simp (disch:=omega) only[qnW,go_sem]
  repeat' first|(refine cA (c0 _) flk ?_;simp (disch:=omega) only[k1,go_sem])|(apply qb;exact rvk;simp only[go_sem])
  exact VLe.tup ⟨qP,qi,trivial⟩
 rw[ine (by simpa using g),ine (by simpa using g)];rw[g]at c0
 by_cases hs:s= []
 ·subst hs;refine acO qkM ?_;simp (disch:=omega) only[qnW,go_sem]
  repeat' first|(refine cA (c0 _) flk ?_;simp (disch:=omega) only[go_sem])|(apply qb;exact rvk;simp only[go_sem])
  exact VLe.tup ⟨qP,qi,trivial⟩
 have k2:(s= [])=False:=eqf hs;have c2:=λh=>qFI (qg6 s) h (Nat.le_trans (qqy s) om)
 refine acO qkM ?_;simp (disch:=omega) only[qnW,go_sem]
 repeat' first|(refine cA (c0 _) flk ?_;simp (disch:=omega) only[k2,go_sem])
 refine qz (qAi s h hl hs g hg) (by exact flk) ?_;simp (disch:=omega) only[go_sem]
 repeat' first|(refine cA (c2 _) flk ?_;simp (disch:=omega) only[go_sem])|exact wa|with_reducible apply aiA|exact clz|fail
theorem qEt(s:Str)(h:wh)(hl:s.length<=1000)(hs:s≠ [])(hc:zN s=0)(hg:zT h frmN frmC):ACalls Tryz.prog 150 [.str s] h (zJ (qg6 s)) h:=by
 refine acO qxD ?_;simp (disch:=omega) only[qvQ,go_sem];refine qz (qAi s h hl hs hc hg) (by exact flk) ?_;simp (disch:=omega) only[go_sem]
 repeat' first|exact wa|with_reducible apply aiA|exact clz|fail
end RC
end
section
open Go Go.Proofs AF HY LN
namespace RC
theorem qcn{x:Co}{l:List Un}(h:qcC x l=true){k:Nat}(hk:k<l.length):(l.getD k default).frm=frN l k∧(l.getD k default).to=toN l k∧frN l k<toN l k∧toN l k<=x.col.length∧(l.getD k default).rds=qbE x (frN l k) (toN l k):=by
 have ho:=qf3 h;have hm:l.getD k default∈l:=by
  rw[gdqA,zz hk];exact List.getElem_mem hk
 obtain⟨h1,h2,h3,h4⟩:=ho.rg _ hm;unfold frN toN;refine⟨om,om,om,om,h4⟩
theorem qC7{x:Co}{l:List Un}(h:qcC x l=true){j k:Nat}(hj:j<k)(hk:k<l.length):toN l j<frN l k:=by
 have ho:=qf3 h;have hp:=List.pairwise_iff_getElem.1 ho.pw j k om hk hj;have e: ∀i (hi:i<l.length),l.getD i default=l[i]:=λi hi=>by rw[gdqA,zz hi];rfl
 obtain⟨a1,a2,_⟩:=qcn h (show j<l.length by omega);obtain⟨b1,b2,_⟩:=qcn h hk;rw[e j om]at a1 a2;rw[e k hk]at b1 b2;omega
theorem qlT{x:Co}{l:List Un}(h:qcC x l=true){k:Nat}(hk:k<l.length):ku l k<=frN l k:=by
 unfold ku;split
 ·exact nzl _
 ·exact Nat.le_of_lt (qC7 h om hk)
theorem qfC{x:Co}{l:List Un}(h:qcC x l=true){k:Nat}(hk:k<=l.length):ku l k<=x.col.length:=by
 unfold ku;split
 ·exact nzl _
 ·exact (qcn h (show k-1<l.length by omega)).2.2.2.1
theorem qpG(l:List Un)(k:Nat):ku l (k+1)=toN l k:=by unfold ku;rw[ine om,Nat.add_sub_cancel]
theorem qw4{col:List (List Int)}{s t:Nat}: ∀ {n:Nat},t<cnC col s n-> ∃k,k<n∧(col.getD k []).getD s 0≠ -1∧cnC col s k=t:=by
 intro n
 induction n with
 |zero=>intro h;exact absurd h (nnz _)
 |succ n ih=>
  intro h;unfold cnC at h
  by_cases g:t<cnC col s n
  ·obtain⟨k,h1,h2⟩:=ih g;exact⟨k,om,h2⟩
  ·split at h
   ·omega
   ·rename_i g2;exact⟨n,Nat.lt_succ_self n,g2,om⟩
theorem gH{x:Co}(ho:CoOk x){s:Nat}(hs:s<x.sig.length){t:Int}(h0:0<=t)(ht:t<((x.tok.getD s []).length:Int)):0<=kz x s t∧kz x s t<x.col.length:=by
 obtain⟨k,k1,k2,k3⟩:=qw4 (col:=x.col) (s:=s) (t:=t.toNat) (n:=x.col.length) (by rw[ho.ct s hs];omega);unfold kz;rcases zU (λk=>decide ((x.col.getD k []).getD s 0=t)) x.col.length with⟨i,g1,g2,_,g4⟩|⟨g1,g2⟩
 ·rw[g4];omega
 ·have:=g1 k k1
  rcases ho.ce k k1 s hs with e|⟨e,_⟩
  ·exact absurd e k2
  ·rw[decide_eq_false_iff_not]at this;exact absurd (by rw[e,k3];omega) this
theorem qEs(c:List Int)(s:Nat)(t:Int)(h:wh)(hs:s<c.length)(hc:c.length<=1000000000):ACalls Tryz.prog 240 [qv c,.ip [.int .i64 (s:Int)],.ip [.int .i64 t]] h (.bool (decide (c.getD s 0=t))) h:=by
 have k0:(0<=(s:Int))=True:=wl;have k1:((s:Int)<c.length)=True:=wl;refine acO qx4 ?_;simp (disch:=omega) only[qwf,qv,k0,k1,go_sem]
 repeat' first|exact wc|with_reducible apply aiA|exact clz|fail
theorem qER(col:List (List Int))(s:Nat)(t:Int)(k v k2 v2:Nat)(h:wh)(hk:qt k h=some (.mem v 3 [.int .i64 (s:Int)]))(hk2:qt k2 h=some (.mem v2 3 [.int .i64 t]))(hl:col.length<=1000000000)(hm: ∀i,i<col.length->s<(col.getD i []).length∧(col.getD i []).length<=1000000000):
  ACalls Tryz.prog 239 [qu col,.fn (.func 240) [] [.op k v 0,.op k2 v2 0]] h (.int .i64 (qbD (λi=>decide ((col.getD i []).getD s 0=t)) col.length 0)) h:=by
 have hc:=qR hk;have hc2:=qR hk2;unfold qu;refine qfs qx3 col.length (λj=> [qv (col.getD j [])]) (λj=>qv (col.getD j [])) _ [] [.op k v 0,.op k2 v2 0] _ h (λi _=>⟨rfl,by simp[kA],rfl,rfl,rfl⟩) (λi hi=> ?_) om;refine ACalls.borrow ?_ rfl;have e:([qv (col.getD i [])]++ [AV.op k v 0,AV.op k2 v2 0]).map (rei (λ_=>true) h 8)= [qv (col.getD i []),.ip [.int .i64 (s:Int)],.ip [.int .i64 t]]:=by
  simp only[lca,lna,List.map_cons,List.map_nil,rei_op,if_true,hc,hc2,ipOf_some,List.drop_zero];rfl
 rw[lna,e];exact qEs _ s t _ (hm i hi).1 (hm i hi).2
theorem qBX(x:Co)(s:Nat)(t:Int)(h:wh)(hz:qad x)(hp:kt SG h)(h1:coE x=0)(hs:s<x.sig.length):ACalls Tryz.prog 164 [.agg (coC x),.int .i64 (s:Int),.int .i64 t] h (.tup [.int .i64 (if 0<=t∧t<((x.tok.getD s []).length:Int) then kz x s t else 0),.int .i64 (if 0<=t∧t<((x.tok.getD s []).length:Int) then 0 else 2)]) h:=by
 have ho:=W0 h1;have hsg:=hz.sg;have htl:=hz.tl s;have htn:=ho.tn;have c1:=λl=>coP x (h++l) hz (hp.app l)
 simp only[h1]at c1;have zu: ∀g l,valL g .len [zJ l]= .int .i64 l.length:=λ_ _=>rfl
 have zv: ∀g l,okL g .len [zJ l]=True:=λ_ _=>eqt trivial
 have k0:((s:Int)<0)=False:=wm;have k1:((x.sig.length:Int)<=s)=False:=wm;have k5:(0<=(s:Int))=True:=wl;have k6:((s:Int)<x.tok.length)=True:=wl
 by_cases g:0<=t∧t<((x.tok.getD s []).length:Int)
 ·rw[ipo g,ipo g];have k2:(t<0)=False:=wm;have k3:(((x.tok.getD s []).length:Int)<=t)=False:=wm;have c2:=qER x.col s t (h.length+1) 1 (h.length+2) 1 (h++ [.mem 1 26 (coC x),.mem 1 3 [.int .i64 (s:Int)],.mem 1 3 [.int .i64 t]]) (by simp only[go_sem]) (by simp only[go_sem]) hz.cl (λi hi=>⟨by rw[ho.cl i hi];exact hs,hz.ce i⟩);unfold coC at c1 c2;refine acO qkL ?_;simp (disch:=omega) only[qnV,coC,qm,strs,go_sem]
  repeat' first|((first|refine cA (c1 _) ?_ ?_|refine cA (c2) ?_ ?_);exact flk;simp (disch:=omega) only[k0,k1,k2,k3,k5,k6,zu,zv,go_sem])|exact wa|with_reducible apply aiA|exact clz|fail
 ·rw[ine g,ine g];unfold coC at c1
  by_cases g2:t<0
  ·have k2:(t<0)=True:=wl;refine acO qkL ?_;simp (disch:=omega) only[qnV,coC,qm,strs,go_sem]
   repeat' first|(refine cA (c1 _) flk ?_;simp (disch:=omega) only[k0,k1,k2,k5,k6,zu,zv,go_sem])|exact wa|with_reducible apply aiA|exact clz|fail
  ·have k2:(t<0)=False:=wm;have k3:(((x.tok.getD s []).length:Int)<=t)=True:=wl;refine acO qkL ?_;simp (disch:=omega) only[qnV,coC,qm,strs,go_sem]
   repeat' first|(refine cA (c1 _) flk ?_;simp (disch:=omega) only[k0,k1,k2,k3,k5,k6,zu,zv,go_sem])|exact wa|with_reducible apply aiA|exact clz|fail
theorem qET(b s:Str)(h:wh)(hb:b.length<=1000000000)(hs:s.length<=1000000000):ACalls Tryz.prog 70 [.str b,.str s] h (.bool (qCI b s)) h:=by
 have c1:=λh=>t88 b h hb
 have c2:=λh=>t88 s h hs
 unfold qCI;cases g1:kC b with
 |false=>
  rw[g1]at c1;rw[ine (by decide)];refine acO qoN ?_;simp (disch:=omega) only[qwW,go_sem]
  repeat' first|(refine cA (c1 _) flk ?_;simp (disch:=omega) only[go_sem])|exact wc|fail
 |true=>
  rw[g1]at c1;rw[ipo rfl];cases g2:kC s with
  |true=>
   rw[g2]at c2;refine acO qoN ?_;simp (disch:=omega) only[qwW,go_sem]
   repeat' first|((first|refine cA (c1 _) ?_ ?_|refine cA (c2 _) ?_ ?_);exact flk;simp (disch:=omega) only[go_sem])|exact wc|fail
  |false=>
   rw[g2]at c2
   by_cases g3:s= [39]
   ·subst g3;refine acO qoN ?_;simp (disch:=omega) only[qwW,go_sem]
    repeat' first|((first|refine cA (c1 _) ?_ ?_|refine cA (c2 _) ?_ ?_);exact flk;simp (disch:=omega) only[go_sem])|exact wc|fail
   ·have k3:(s= [39])=False:=eqf g3;rw[dqf g3];refine acO qoN ?_;simp (disch:=omega) only[qwW,go_sem]
    repeat' first|((first|refine cA (c1 _) ?_ ?_|refine cA (c2 _) ?_ ?_);exact flk;simp (disch:=omega) only[k3,go_sem])|exact wc|fail
def dpN(x:Co)(l:List Un)(o:Dc):Int:=if U3 x l o=0 then kF x l o else 0
theorem dpP(x:Co)(l:List Un)(o:Dc)(h:wh)(hz:qad x)(hu:qbK l)(hp:kt SG h)(hg:zT h frmN frmC)(h1:coE x=0)(ht:o.txt.length<=1000):ACalls Tryz.prog 95 [.agg (coC x),ze l,.agg (dcC o)] h (.tup [.int .i64 (dpN x l o),.int .i64 (U3 x l o)]) h:=by
 have ho:=W0 h1;unfold dpN;have hE:U3 x l o=(if o.kind<1∨3<o.kind then 8 else if o.txt≠ []∧o.kind≠2 then 1 else if tkB x o=false then 6 else if kF x l o<0 then 20 else cjE o):=rfl
 by_cases g1:o.kind<1
 ·have k1:(o.kind<1)=True:=eqt g1;rw[ipo (.inl g1)]at hE;rw[hE,ine (by decide)];refine acO gK ?_;simp (disch:=omega) only[qcL,coC,dcC,k1,go_sem]
  repeat' first|exact wa|fail
 have k1:(o.kind<1)=False:=eqf g1
 by_cases g2:3<o.kind
 ·have k2:(3<o.kind)=True:=eqt g2;rw[ipo (.inr g2)]at hE;rw[hE,ine (by decide)];refine acO gK ?_;simp (disch:=omega) only[qcL,coC,dcC,k1,k2,go_sem]
  repeat' first|exact wa|fail
 have k2:(3<o.kind)=False:=eqf g2;rw[ine (λe=>e.elim g1 g2)]at hE
 by_cases g3:o.txt≠ []∧o.kind≠2
 ·have k3:(o.txt= [])=False:=eqf g3.1;have k4:(o.kind=2)=False:=eqf g3.2;rw[ipo g3]at hE;rw[hE,ine (by decide)];refine acO gK ?_;simp (disch:=omega) only[qcL,coC,dcC,k1,k2,k3,k4,go_sem]
  repeat' first|exact wa|with_reducible apply aiA|exact clz|fail
 rw[ine g3]at hE;have c1:=λh=>qtz x.sig.length (λj=>x.sig.getD j []) o.sig h hz.sg
 have hS:qbD (λj=>decide (o.sig=x.sig.getD j [])) x.sig.length 0=qX x o.sig:=rfl;simp only[hS]at c1
 by_cases g4:o.kind=2
 ·have k4:(o.kind=2)=True:=eqt g4
  by_cases ge:o.txt= []
  ·have k3:(o.txt= [])=True:=eqt ge;have htk:tkB x o=(decide (0<=qX x o.sig)&&(decide (0<=o.tok)&&decide (o.tok<((x.tok.getD (qX x o.sig).toNat []).length:Int)))):=rfl
   by_cases g5:qX x o.sig<0
   ·have k5:(qX x o.sig<0)=True:=eqt g5;rw[dqf om,Bool.false_and]at htk;rw[ipo htk]at hE;rw[hE,ine (by decide)];unfold strs at*;refine acO gK ?_;simp (disch:=omega) only[qcL,coC,dcC,k1,k2,k3,k4,strs,go_sem]
    repeat' first|(refine cA (c1 _) flk ?_;simp (disch:=omega) only[k5,go_sem])|exact wa|with_reducible apply aiA|exact clz|fail
   obtain⟨S,hSn⟩: ∃S:Nat,qX x o.sig=S:=⟨(qX x o.sig).toNat,om⟩
   have hSl:S<x.sig.length:=by
    rcases zU (λj=>decide (o.sig=x.sig.getD j [])) x.sig.length with⟨i,q1,_,_,q4⟩|⟨_,q2⟩
    ·have e:qX x o.sig=i:=q4;omega
    ·have e:qX x o.sig= -1:=q2;omega
   have k5:((S:Int)<0)=False:=wm;rw[hSn,dqt om,Bool.true_and,itn]at htk;simp only[hSn]at c1;have c2:=λl'=>qBX x S o.tok (h++l') hz (hp.app l') h1 hSl
   by_cases g6:0<=o.tok∧o.tok<((x.tok.getD S []).length:Int)
   case neg=>
    have htk:tkB x o=false:=by rw[htk];simpa using λe=>Int.not_lt.1 λhc=>g6 ⟨e,hc⟩
    rw[ipo htk]at hE;rw[hE,ine (by decide)];simp only[ine g6]at c2;unfold coC at c2;refine acO gK ?_;simp (disch:=omega) only[qcL,coC,dcC,k1,k2,k3,k4,strs,go_sem]
    repeat' first|((first|refine cA (c1 _) ?_ ?_|refine cA (c2 _) ?_ ?_);exact flk;simp (disch:=omega) only[k5,go_sem])|exact wa|(with_reducible first|intro _|apply aiA)|exact clz|fail
   have htk:tkB x o=true:=by rw[htk];simpa using g6
   rw[ine (by rw[htk];decide)]at hE;simp only[ipo g6]at c2;have hpl:kF x l o=fnU l (kz x S o.tok):=by unfold kF;rw[hSn,itn]
   have hcn:=gH ho hSl g6.1 g6.2;have c3:=λh=>qCA l (kz x S o.tok) h hu.n
   have e1:fnR l (kz x S o.tok)=kF x l o:=by unfold fnR;rw[ine om,hpl]
   have e2:fnE (kz x S o.tok)=0:=by unfold fnE;rw[ine om]
   rw[e1,e2]at c3;unfold coC at c2
   by_cases g7:kF x l o<0
   ·have k7:(kF x l o<0)=True:=eqt g7;rw[ipo g7]at hE;rw[hE,ine (by decide)];refine acO gK ?_;simp (disch:=omega) only[qcL,coC,dcC,k1,k2,k3,k4,strs,go_sem]
    repeat' first|((first|refine cA (c1 _) ?_ ?_|refine cA (c2 _) ?_ ?_|refine cA (c3 _) ?_ ?_);exact flk;simp (disch:=omega) only[k4,k5,k7,go_sem])|exact wa|with_reducible apply aiA|exact clz|fail
   have k7:(kF x l o<0)=False:=eqf g7;rw[ine g7]at hE;unfold cjE at hE;rw[ipo g4]at hE;have c4:=λl'=>qD6 o.txt (h++l') ht hg.app
   by_cases g8:qdR o.txt=0
   case neg=>
    have k8:(qdR o.txt=0)=False:=eqf g8;rw[ipo g8]at hE;rw[hE,ine g8];refine acO gK ?_;simp (disch:=omega) only[qcL,coC,dcC,k1,k2,k3,k4,strs,go_sem]
    repeat' first|((first|refine cA (c1 _) ?_ ?_|refine cA (c2 _) ?_ ?_|refine cA (c3 _) ?_ ?_|refine cA (c4 _) ?_ ?_);exact flk;simp (disch:=omega) only[k4,k5,k7,k8,strs,go_sem])|exact wa|with_reducible apply aiA|exact clz|fail
   rw[ine (by simpa using g8)]at hE;have g9:zN o.txt=0∧qd8 o.txt=0:=by
    unfold qdR at g8;split at g8
    ·rename_i q;exact absurd g8 q
    ·rename_i q;exact⟨Classical.not_not.1 q,g8⟩
   have hR:qfa o.txt=qdb (qg6 o.txt):=by unfold qfa qg6;rw[ipo g8,ipo g9.2];rfl
   simp only[g8,ine (show¬zN o.txt≠0 by simpa using g9.1),<-hR]at c4;cases hL:qfa o.txt with
   |nil=>
    rw[hL]at hE c4;rw[ipo rfl]at hE;rw[hE,ine (by decide)];refine acO gK ?_;simp (disch:=omega) only[qcL,coC,dcC,k1,k2,k3,k4,strs,go_sem]
    repeat' first|((first|refine cA (c1 _) ?_ ?_|refine cA (c2 _) ?_ ?_|refine cA (c3 _) ?_ ?_|refine cA (c4 _) ?_ ?_);exact flk;simp (disch:=omega) only[k4,k5,k7,strs,go_sem])|(apply qb;exact rvk;simp only[go_sem];first|exact qi|skip)|(with_reducible first|intro _|apply aiA)|exact clz|fail
   |cons a r=>
    rw[hL]at hE c4;rw[ine (by simp)]at hE;rw[hE,ipo rfl];have k9:(((a::r).length:Int)=0)=False:=eqf (by simp;omega);refine acO gK ?_;simp (disch:=omega) only[qcL,coC,dcC,k1,k2,k3,k4,strs,go_sem]
    repeat' first|((first|refine cA (c1 _) ?_ ?_|refine cA (c2 _) ?_ ?_|refine cA (c3 _) ?_ ?_|refine cA (c4 _) ?_ ?_);exact flk;simp (disch:=omega) only[k4,k5,k7,strs,go_sem])|(apply qb;exact rvk;simp only[go_sem];first|exact qi|skip)|(with_reducible first|intro _|apply aiA)|exact clz|fail
  ·have k3:(o.txt= [])=False:=eqf ge;have htk:tkB x o=(decide (0<=qX x o.sig)&&(decide (0<=o.tok)&&decide (o.tok<((x.tok.getD (qX x o.sig).toNat []).length:Int)))):=rfl
   by_cases g5:qX x o.sig<0
   ·have k5:(qX x o.sig<0)=True:=eqt g5;rw[dqf om,Bool.false_and]at htk;rw[ipo htk]at hE;rw[hE,ine (by decide)];unfold strs at*;refine acO gK ?_;simp (disch:=omega) only[qcL,coC,dcC,k1,k2,k3,k4,strs,go_sem]
    repeat' first|(refine cA (c1 _) flk ?_;simp (disch:=omega) only[k5,go_sem])|exact wa|with_reducible apply aiA|exact clz|fail
   obtain⟨S,hSn⟩: ∃S:Nat,qX x o.sig=S:=⟨(qX x o.sig).toNat,om⟩
   have hSl:S<x.sig.length:=by
    rcases zU (λj=>decide (o.sig=x.sig.getD j [])) x.sig.length with⟨i,q1,_,_,q4⟩|⟨_,q2⟩
    ·have e:qX x o.sig=i:=q4;omega
    ·have e:qX x o.sig= -1:=q2;omega
   have k5:((S:Int)<0)=False:=wm;rw[hSn,dqt om,Bool.true_and,itn]at htk;simp only[hSn]at c1;have c2:=λl'=>qBX x S o.tok (h++l') hz (hp.app l') h1 hSl
   by_cases g6:0<=o.tok∧o.tok<((x.tok.getD S []).length:Int)
   case neg=>
    have htk:tkB x o=false:=by rw[htk];simpa using λe=>Int.not_lt.1 λhc=>g6 ⟨e,hc⟩
    rw[ipo htk]at hE;rw[hE,ine (by decide)];simp only[ine g6]at c2;unfold coC at c2;refine acO gK ?_;simp (disch:=omega) only[qcL,coC,dcC,k1,k2,k3,k4,strs,go_sem]
    repeat' first|((first|refine cA (c1 _) ?_ ?_|refine cA (c2 _) ?_ ?_);exact flk;simp (disch:=omega) only[k5,go_sem])|exact wa|(with_reducible first|intro _|apply aiA)|exact clz|fail
   have htk:tkB x o=true:=by rw[htk];simpa using g6
   rw[ine (by rw[htk];decide)]at hE;simp only[ipo g6]at c2;have hpl:kF x l o=fnU l (kz x S o.tok):=by unfold kF;rw[hSn,itn]
   have hcn:=gH ho hSl g6.1 g6.2;have c3:=λh=>qCA l (kz x S o.tok) h hu.n
   have e1:fnR l (kz x S o.tok)=kF x l o:=by unfold fnR;rw[ine om,hpl]
   have e2:fnE (kz x S o.tok)=0:=by unfold fnE;rw[ine om]
   rw[e1,e2]at c3;unfold coC at c2
   by_cases g7:kF x l o<0
   ·have k7:(kF x l o<0)=True:=eqt g7;rw[ipo g7]at hE;rw[hE,ine (by decide)];refine acO gK ?_;simp (disch:=omega) only[qcL,coC,dcC,k1,k2,k3,k4,strs,go_sem]
    repeat' first|((first|refine cA (c1 _) ?_ ?_|refine cA (c2 _) ?_ ?_|refine cA (c3 _) ?_ ?_);exact flk;simp (disch:=omega) only[k4,k5,k7,go_sem])|exact wa|with_reducible apply aiA|exact clz|fail
   have k7:(kF x l o<0)=False:=eqf g7;rw[ine g7]at hE;unfold cjE at hE;rw[ipo g4]at hE;have c4:=λl'=>qD6 o.txt (h++l') ht hg.app
   by_cases g8:qdR o.txt=0
   case neg=>
    have k8:(qdR o.txt=0)=False:=eqf g8;rw[ipo g8]at hE;rw[hE,ine g8];refine acO gK ?_;simp (disch:=omega) only[qcL,coC,dcC,k1,k2,k3,k4,strs,go_sem]
    repeat' first|((first|refine cA (c1 _) ?_ ?_|refine cA (c2 _) ?_ ?_|refine cA (c3 _) ?_ ?_|refine cA (c4 _) ?_ ?_);exact flk;simp (disch:=omega) only[k4,k5,k7,k8,strs,go_sem])|exact wa|with_reducible apply aiA|exact clz|fail
   rw[ine (by simpa using g8)]at hE;have g9:zN o.txt=0∧qd8 o.txt=0:=by
    unfold qdR at g8;split at g8
    ·rename_i q;exact absurd g8 q
    ·rename_i q;exact⟨Classical.not_not.1 q,g8⟩
   have hR:qfa o.txt=qdb (qg6 o.txt):=by unfold qfa qg6;rw[ipo g8,ipo g9.2];rfl
   simp only[g8,ine (show¬zN o.txt≠0 by simpa using g9.1),<-hR]at c4;cases hL:qfa o.txt with
   |nil=>
    rw[hL]at hE c4;rw[ipo rfl]at hE;rw[hE,ine (by decide)];refine acO gK ?_;simp (disch:=omega) only[qcL,coC,dcC,k1,k2,k3,k4,strs,go_sem]
    repeat' first|((first|refine cA (c1 _) ?_ ?_|refine cA (c2 _) ?_ ?_|refine cA (c3 _) ?_ ?_|refine cA (c4 _) ?_ ?_);exact flk;simp (disch:=omega) only[k4,k5,k7,strs,go_sem])|(apply qb;exact rvk;simp only[go_sem];first|exact qi|skip)|(with_reducible first|intro _|apply aiA)|exact clz|fail
   |cons a r=>
    rw[hL]at hE c4;rw[ine (by simp)]at hE;rw[hE,ipo rfl];have k9:(((a::r).length:Int)=0)=False:=eqf (by simp;omega);refine acO gK ?_;simp (disch:=omega) only[qcL,coC,dcC,k1,k2,k3,k4,strs,go_sem]
    repeat' first|((first|refine cA (c1 _) ?_ ?_|refine cA (c2 _) ?_ ?_|refine cA (c3 _) ?_ ?_|refine cA (c4 _) ?_ ?_);exact flk;simp (disch:=omega) only[k4,k5,k7,strs,go_sem])|(apply qb;exact rvk;simp only[go_sem];first|exact qi|skip)|(with_reducible first|intro _|apply aiA)|exact clz|fail
 ·have k4:(o.kind=2)=False:=eqf g4;have ge:o.txt= []:=Classical.not_not.1 λhc=>g3 ⟨hc,g4⟩
  have k3:(o.txt= [])=True:=eqt ge;have htk:tkB x o=(decide (0<=qX x o.sig)&&(decide (0<=o.tok)&&decide (o.tok<((x.tok.getD (qX x o.sig).toNat []).length:Int)))):=rfl
  by_cases g5:qX x o.sig<0
  ·have k5:(qX x o.sig<0)=True:=eqt g5;rw[dqf om,Bool.false_and]at htk;rw[ipo htk]at hE;rw[hE,ine (by decide)];unfold strs at*;refine acO gK ?_;simp (disch:=omega) only[qcL,coC,dcC,k1,k2,k3,k4,strs,go_sem]
   repeat' first|(refine cA (c1 _) flk ?_;simp (disch:=omega) only[k5,go_sem])|exact wa|with_reducible apply aiA|exact clz|fail
  obtain⟨S,hSn⟩: ∃S:Nat,qX x o.sig=S:=⟨(qX x o.sig).toNat,om⟩
  have hSl:S<x.sig.length:=by
   rcases zU (λj=>decide (o.sig=x.sig.getD j [])) x.sig.length with⟨i,q1,_,_,q4⟩|⟨_,q2⟩
   ·have e:qX x o.sig=i:=q4;omega
   ·have e:qX x o.sig= -1:=q2;omega
  have k5:((S:Int)<0)=False:=wm;rw[hSn,dqt om,Bool.true_and,itn]at htk;simp only[hSn]at c1;have c2:=λl'=>qBX x S o.tok (h++l') hz (hp.app l') h1 hSl
  by_cases g6:0<=o.tok∧o.tok<((x.tok.getD S []).length:Int)
  case neg=>
   have htk:tkB x o=false:=by rw[htk];simpa using λe=>Int.not_lt.1 λhc=>g6 ⟨e,hc⟩
   rw[ipo htk]at hE;rw[hE,ine (by decide)];simp only[ine g6]at c2;unfold coC at c2;refine acO gK ?_;simp (disch:=omega) only[qcL,coC,dcC,k1,k2,k3,k4,strs,go_sem]
   repeat' first|((first|refine cA (c1 _) ?_ ?_|refine cA (c2 _) ?_ ?_);exact flk;simp (disch:=omega) only[k5,go_sem])|exact wa|(with_reducible first|intro _|apply aiA)|exact clz|fail
  have htk:tkB x o=true:=by rw[htk];simpa using g6
  rw[ine (by rw[htk];decide)]at hE;simp only[ipo g6]at c2;have hpl:kF x l o=fnU l (kz x S o.tok):=by unfold kF;rw[hSn,itn]
  have hcn:=gH ho hSl g6.1 g6.2;have c3:=λh=>qCA l (kz x S o.tok) h hu.n
  have e1:fnR l (kz x S o.tok)=kF x l o:=by unfold fnR;rw[ine om,hpl]
  have e2:fnE (kz x S o.tok)=0:=by unfold fnE;rw[ine om]
  rw[e1,e2]at c3;unfold coC at c2
  by_cases g7:kF x l o<0
  ·have k7:(kF x l o<0)=True:=eqt g7;rw[ipo g7]at hE;rw[hE,ine (by decide)];refine acO gK ?_;simp (disch:=omega) only[qcL,coC,dcC,k1,k2,k3,k4,strs,go_sem]
   repeat' first|((first|refine cA (c1 _) ?_ ?_|refine cA (c2 _) ?_ ?_|refine cA (c3 _) ?_ ?_);exact flk;simp (disch:=omega) only[k4,k5,k7,go_sem])|exact wa|with_reducible apply aiA|exact clz|fail
  have k7:(kF x l o<0)=False:=eqf g7;rw[ine g7]at hE;unfold cjE at hE;rw[ine g4]at hE;rw[hE,ipo rfl];refine acO gK ?_;simp (disch:=omega) only[qcL,coC,dcC,k1,k2,k3,k4,strs,go_sem]
  repeat' first|((first|refine cA (c1 _) ?_ ?_|refine cA (c2 _) ?_ ?_|refine cA (c3 _) ?_ ?_);exact flk;simp (disch:=omega) only[k4,k5,k7,go_sem])|exact wa|with_reducible apply aiA|exact clz|fail
theorem qhu(x:Co)(l:List Un)(h:wh)(hz:qad x)(hu:qbK l)(hp:kt SG h):ACalls Tryz.prog 66 [.agg (coC x),ze l] h (.int .i64 (vaE x l)) h:=by
 have c1:=λl'=>coP x (h++l') hz (hp.app l')
 have c2:=λl'=>vaP x l (h++l') hz hu (hp.app l')
 have hE:vaE x l=(if coE x≠0 then 1 else if rgB x l=false then 20 else 0):=rfl
 by_cases g:coE x=0
 case neg=>
  have k1:(coE x=0)=False:=eqf g;rw[ipo g]at hE;rw[hE];unfold coC at c1;refine acO qtb ?_;simp (disch:=omega) only[qBd,coC,go_sem]
  repeat' first|(refine cA (c1 _) flk ?_;simp (disch:=omega) only[k1,go_sem])|exact wa|fail
 rw[ine (by simpa using g)]at hE;simp only[g]at c1
 by_cases g2:rgB x l=false
 ·rw[ipo g2]at hE;rw[hE];simp only[hE]at c2;unfold coC at c1 c2;refine acO qtb ?_;simp (disch:=omega) only[qBd,coC,go_sem]
  repeat' first|((first|refine cA (c1 _) ?_ ?_|refine cA (c2 _) ?_ ?_);exact flk;simp (disch:=omega) only[go_sem])|(apply qb;exact rvk;simp only[go_sem];first|exact qi|apply qg)|(with_reducible first|intro _|apply aiA)|exact clz|fail
 ·rw[ine g2]at hE;rw[hE];simp only[hE]at c2;unfold coC at c1 c2;refine acO qtb ?_;simp (disch:=omega) only[qBd,coC,go_sem]
  repeat' first|((first|refine cA (c1 _) ?_ ?_|refine cA (c2 _) ?_ ?_);exact flk;simp (disch:=omega) only[go_sem])|exact wa|fail
theorem qe0{x:Co}{l:List Un}(h:vaE x l=0):coE x=0:=by
 unfold vaE at h;split at h
 ·cases h
 ·rename_i g;exact Classical.not_not.1 g
theorem qEb(x:Co)(l:List Un)(o:Dc)(h:wh)(hz:qad x)(hu:qbK l)(hp:kt SG h)(hg:zT h frmN frmC)(ht:o.txt.length<=1000):ACalls Tryz.prog 32 [.agg (coC x),ze l,.agg (dcC o)] h (.tup [.int .i64 (qvm x l o),.int .i64 (qeZ x l o)]) h:=by
 have c1:=λl'=>qhu x l (h++l') hz hu (hp.app l')
 by_cases g:vaE x l=0
 case neg=>
  have k1:(vaE x l=0)=False:=eqf g;have hE:qeZ x l o=vaE x l:=by unfold qeZ;rw[ipo g]
  unfold qvm;rw[hE,ine g];unfold coC at c1;refine acO qyo ?_;simp (disch:=omega) only[qBB,coC,go_sem]
  repeat' first|(refine cA (c1 _) flk ?_;simp (disch:=omega) only[k1,go_sem])|exact wa|fail
 have hE:qeZ x l o=U3 x l o:=by unfold qeZ;rw[ine (by simpa using g)]
 unfold qvm;rw[hE];have c2:=λl'=>dpP x l o (h++l') hz hu (hp.app l') hg.app (qe0 g) ht
 simp only[g]at c1;unfold dpN at c2;unfold coC at c1 c2;unfold dcC at c2;refine acO qyo ?_;simp (disch:=omega) only[qBB,coC,dcC,go_sem]
 repeat' first|((first|refine cA (c1 _) ?_ ?_|refine cA (c2 _) ?_ ?_);exact flk;simp (disch:=omega) only[go_sem])|exact wa|with_reducible apply aiA|exact clz|fail
theorem qEy(x:Co)(l:List Un)(o:Dc)(h:wh)(hz:qad x)(hu:qbK l)(hp:kt SG h)(hg:zT h frmN frmC)(ht:o.txt.length<=1000):ACalls Tryz.prog 36 [.agg (coC x),ze l,.agg (dcC o)] h (.int .i64 (qeZ x l o)) h:=by
 have c1:=λl'=>qEb x l o (h++l') hz hu (hp.app l') hg.app ht
 unfold coC dcC at c1;refine acO qCi ?_;simp (disch:=omega) only[qDA,coC,dcC,go_sem]
 repeat' first|(refine cA (c1 _) flk ?_;simp (disch:=omega) only[go_sem])|exact wa|with_reducible apply aiA|exact clz|fail
def plG(x:Co)(l:List Un)(d:List Dc)(n:Nat):List Int:=(d.take n).map (kF x l)
def qve(x:Co)(l:List Un)(d:List Dc):List Int:=if KD x l d=0 then plG x l d d.length else []
theorem qBk(x:Co)(l:List Un)(d:List Dc)(h:wh)(hz:qad x)(hu:qbK l)(hp:kt SG h)(hg:zT h frmN frmC)(h1:coE x=0)(hd:d.length<=1000000)(ht: ∀o∈d,o.txt.length<=1000):ACalls Tryz.prog 67 [.agg (coC x),ze l,kq d] h (.tup [qv (qve x l d),.int .i64 (KD x l d)]) h:=by
 unfold qve
 by_cases g:256<d.length
 ·have k1:((256:Int)<d.length)=True:=wl;have hE:KD x l d=4:=by unfold KD;rw[ipo g]
  rw[hE,ine (by decide)];refine acO qyO ?_;simp (disch:=omega) only[qBF,coC,kq,k1,go_sem]
  repeat' first|(apply qb;exact rvk;simp only[go_sem])
  exact VLe.tup ⟨qP,qi,trivial⟩
 have k1:((256:Int)<d.length)=False:=wm;have hE:KD x l d=U9 (λi=>U3 x l (d.getD i default)) 0 d.length:=by unfold KD;rw[ine g]
 rw[hE];refine acO qyO ?_;simp (disch:=omega) only[qBF,coC,kq,k1,go_sem];refine qn (T:=λs:Nat×Nat×AObj×AObj×AObj=>qO 38 [(1,ze l),(3,.op h.length 1 0),(16,kq d),(17,.int .i64 d.length),(18,.int .i64 s.1),(8,.osl (h.length+2) s.2.1 1 0 s.1)])
  (H:=λs=>h++ [.mem 1 26 (coC x),.emp 1,zg s.2.1 3 (qS (plG x l d s.1)),s.2.2.1,s.2.2.2.1,s.2.2.2.2])
  (inv:=λs=>s.1<=d.length∧(∀j,j<s.1->U3 x l (d.getD j default)=0)∧qy [s.2.2.1] 0=true∧qy [s.2.2.2.1] 0=true∧qy [s.2.2.2.2] 0=true) (m:=λs=>d.length-s.1) (0,1,.emp 0,.emp 0,.emp 0) ⟨nzl _,λj hj=>absurd hj (nnz j),rfl,rfl,rfl⟩ (Wk.temps ?_) ?_
 ·(simp only[kq,go_sem,qf,qc,qa,qe];try exact we)
 rintro⟨i,v,O1,O2,O3⟩ ⟨i1,i0,i2,i3,i4⟩ K hK;simp only at i0 i1 i2 i3 i4 hK;have i2': ∀m,qy (O1::m) 0=true:=λ_=>i2
 have i3': ∀m,qy (O2::m) 0=true:=λ_=>i3
 have i4': ∀m,qy (O3::m) 0=true:=λ_=>i4
 have eL:(plG x l d i).length=i:=by unfold plG;rw[List.length_map,List.length_take];omega
 by_cases hi:i<d.length
 ·have k2:((i:Int)<d.length)=True:=wl;obtain⟨o,ho⟩:=wg (d.getD i default)
  have eo:=ho.symm;have hom:o∈d:=by rw[ho];exact jf hi
  have hS:plG x l d (i+1)=plG x l d i++ [kF x l o]:=by
   unfold plG;rw[List.take_add_one,zz hi,List.map_append,ho,gdqA,zz hi];rfl
  have c1:=λl'=>dpP x l o (h++l') hz hu (hp.app l') hg.app h1 (ht o hom)
  by_cases g3:U3 x l o=0
  case neg=>
   have k3:(U3 x l o=0)=False:=eqf g3;have hf:U9 (λi=>U3 x l (d.getD i default)) 0 d.length=U3 x l o:=by
    rw[gO hi i0 (by rw[eo];exact g3),eo]
   rw[hf,ine g3];unfold coC dcC at c1;simp (disch:=omega) only[coC,kq,dcC,k2,eo,i2',go_sem]
   repeat' first|(refine cA (c1 _) flk ?_;simp (disch:=omega) only[k3,i3',go_sem])|(apply qb;exact rvk;simp only[go_sem])|with_reducible apply aiA|exact clz|fail
   exact VLe.tup ⟨qP,qi,trivial⟩
  unfold dpN at c1;rw[g3]at c1;simp only[if_true]at c1;obtain⟨L,hL⟩:=wg (plG x l d i)
  rw[<-hL]at hS eL ⊢;have eC:=jK L;have eTk:List.take i (qS L)=qS L:=ltl om;unfold coC dcC at c1;simp (disch:=omega) only[coC,kq,dcC,k2,eo,i2',go_sem]
  repeat' first|(refine cA (c1 _) flk ?_;simp (disch:=omega) only[i3',eC,eL,eTk,Nat.mul_one,go_sem])|with_reducible apply aiA|exact clz|fail
  rw[show qS L++ [AV.int IntKind.i64 (kF x l o)]=qS (L++ [kF x l o]) by simp[qS],<-hS];refine hK _ _ (i+1,v+1,.mem (qo (some O1)+1) 65 (dcC o),.mem (qo (some O2)+1) 3 [.int .i64 (kF x l o)],O3) ⟨hi,λj hj=> ?_,rfl,rfl,i4⟩ (by simp only;omega) ?_
  ·by_cases e:j=i
   ·rw[e,eo];exact g3
   ·exact i0 j om
  refine Wk.temps ?_
  (simp only[kq,dcC,go_sem,qf,qc,qa,qe];try exact we)
 have k2:((i:Int)<d.length)=False:=wm;obtain rfl:i=d.length:=by omega
 have hf:U9 (λi=>U3 x l (d.getD i default)) 0 d.length=0:=jH i0;rw[hf,ipo rfl];simp (disch:=omega) only[k2,go_sem]
 repeat' first|(apply qb;exact rvk;simp only[go_sem])
 exact VLe.tup ⟨qqa (λ_=>rfl) eL.symm,qi,trivial⟩
def pcC(p:Pc):wj:=tkC p.t++ [.int .i64 p.c]
def spX(x:Co)(s f d:Nat):List wj:=(spk x s f d).map λp=> [.agg (pcC p)]
theorem qAd(x:Co)(f t s:Nat)(h:wh):ACalls Tryz.prog 72 [.agg (coC x),.int .i64 (f:Int),.int .i64 (t:Int),.int .i64 (s:Int)] h (.fn (.func 146) [] [.ip [.int .i64 (f:Int)],.ip [.int .i64 (t:Int)],.ip (coC x),.ip [.int .i64 (s:Int)]]) h:=by
 unfold coC;refine acO qCq ?_;simp (disch:=omega) only[qDI,go_sem]
 repeat' first|exact wa|fail
theorem qmy(x:Co)(s f d:Nat):(spX x s f d).length=(spk x s f d).length:=by unfold spX;rw[List.length_map]
theorem quC(x:Co)(s f:Nat): ∀d e,d<=e-> ∃r,spk x s f e=spk x s f d++r:=by
 intro d e h
 induction e with
 |zero=>
  obtain rfl:d=0:=by omega
  exact⟨[],by simp⟩
 |succ e ih=>
  by_cases g:d=e+1
  ·subst g;exact⟨[],by simp⟩
  ·obtain⟨r,hr⟩:=ih om;refine⟨r++(if pcB x s (f+e)=true then [pcT x s (f+e)] else []),?_⟩
   conv=>lhs;unfold spk
   rw[hr,List.append_assoc]
theorem qAb{x:Co}{s f k d:Nat}(hk:k<d)(hb:pcB x s (f+k)=true): ∃g:(spk x s f k).length<(spX x s f d).length,(spX x s f d)[(spk x s f k).length]= [.agg (pcC (pcT x s (f+k)))]∧(spk x s f (k+1)).length=(spk x s f k).length+1:=by
 have e1:spk x s f (k+1)=spk x s f k++ [pcT x s (f+k)]:=by
  conv=>lhs;unfold spk
  rw[ipo hb]
 obtain⟨r,hr⟩:=quC x s f (k+1) d hk;refine⟨by rw[qmy,hr,e1];simp,?_,by rw[e1];simp⟩;unfold spX;simp only[List.getElem_map,hr,e1];rw[List.getElem_append_left (by simp),List.getElem_append_right (nlr _)];simp
structure SpS where
 k:Nat
 hh:wh
theorem itS(x:Co)(s f t:Nat)(hz:qad x)(ho:CoOk x)(hs:s<x.sig.length)(ht:t<=x.col.length)(ft:f<=t):qns Tryz.prog 146 [.ip [.int .i64 (f:Int)],.ip [.int .i64 (t:Int)],.ip (coC x),.ip [.int .i64 (s:Int)]] (spX x s f (t-f)):=by
 intro h ts LI S E hS hE body start hts;have hsg:=hz.sg;have hcl:=hz.cl;have htn:=ho.tn;have htl:=hz.tl s;have q5:(0<=(s:Int))=True:=wl;have q6:((s:Int)<x.tok.length)=True:=wl;refine acQ qxz ?_;simp (disch:=omega) only[qvM,coC,go_sem]
 repeat' first|with_reducible apply aiA|exact clz|fail
 refine qn (T:=λi:SpS=>qO 39 [(0,.yld h.length),(2,.ip [.int .i64 (t:Int)]),(3,.ip (coC x)),(4,.ip [.int .i64 (s:Int)]),(6,.int .i64 ((f+i.k:Nat):Int))]) (H:=λi=>i.hh++ [.lp .ready ts LI])
  (inv:=λi=>f+i.k<=t∧S (spk x s f i.k).length i.hh) (m:=λi=>t-f-i.k) ⟨0,h⟩ ⟨by simp only;omega,start⟩ (Wk.temps ?_) ?_
 ·(simp only[coC,go_sem,qf,qc,qa,qe];try exact we)
 rintro⟨k,hh⟩ ⟨i1,i4⟩ K hK;simp only at i1 i4 hK;obtain⟨hlen,hlow⟩:=hS _ _ i4;have hb:(h++ [AObj.lp LS.ready ts LI]).length=(hh++ [AObj.lp LS.ready ts LI]).length:=by simp[hlen]
 by_cases hi:f+k<t
 ·have q0:(((f+k:Nat):Int)<t)=True:=wl;have q1:(0<=((f+k:Nat):Int))=True:=wl;have q2:(((f+k:Nat):Int)<x.col.length)=True:=wl;obtain⟨c,hcx⟩:=wg (x.col.getD (f+k) [])
  have ec:=hcx.symm;have hcl2:=ho.cl (f+k) om;have hce:=ho.ce (f+k) om s hs;rw[ec]at hcl2 hce;have q3:((s:Int)<c.length)=True:=wl;have hpb:pcB x s (f+k)=decide (0<=c.getD s 0):=by unfold pcB;rw[ec]
  by_cases g:0<=c.getD s 0
  ·obtain⟨N,hN⟩: ∃N:Nat,c.getD s 0=N:=⟨(c.getD s 0).toNat,om⟩
   have hNt:N<(x.tok.getD s []).length:=by
    rcases hce with e|⟨_,e⟩
    ·omega
    ·rw[hN]at e;omega
   have q4:(0<=(N:Int))=True:=wl;obtain⟨T,hT⟩:=wg (x.tok.getD s [])
   have eT:=hT.symm;rw[eT]at hNt;have q7:((N:Int)<T.length)=True:=wl;obtain⟨hdl,hxx,hln⟩:=qAb (x:=x) (s:=s) (f:=f) (k:=k) (d:=t-f) om (by rw[hpb,dqt g]);have hpc:pcT x s (f+k)=⟨T.getD N default,((f+k:Nat):Int)⟩:=by
    unfold pcT;rw[ec,eT,hN,itn]
   have hb':=body _ hh [] hdl i4;rw[hxx,hpc]at hb';unfold pcC tkC at hb';simp only[lca,lna]at hb';simp (disch:=omega) only[coC,qu,qv,qm,zJ,tkC,q0,q1,q2,q3,q4,q5,q6,q7,ec,hN,eT,go_sem]
   repeat' first|with_reducible apply aiA|exact clz|fail
   ·exact⟨.ready,ts,LI,kR hlen⟩
   ·refine km.mono ?_ hb';rintro v h' ⟨hh',⟨rfl,hn',rfl⟩|⟨st,rfl,hs',rfl⟩⟩
    ·simp (disch:=omega) only[go_sem];refine hK _ _ ⟨k+1,hh'⟩ ⟨by simp only;omega,by simp only;rw[hln];exact hn'⟩ (by simp only;omega) (Wk.temps ?_)
     (simp only[coC,go_sem,qf,qc,qa,qe];try exact we)
    ·simp (disch:=omega) only[go_sem];obtain⟨r1,r2⟩:=(hE _ _ hs').ret (L:=LI) st hts;exact jG trivial r1 r2 ⟨_,.inr ⟨st,hs',rfl⟩⟩ (qi)
  ·have q4:(0<=c.getD s 0)=False:=eqf g;have e1:spk x s f (k+1)=spk x s f k:=by
    conv=>lhs;unfold spk
    rw[hpb,dqf g,ine (by decide),lan]
   simp (disch:=omega) only[coC,qu,qv,q0,q1,q2,q3,q4,q5,ec,go_sem]
   repeat' first|with_reducible apply aiA|exact clz|fail
   refine hK _ _ ⟨k+1,hh⟩ ⟨by simp only;omega,by rw[e1];exact i4⟩ (by simp only;omega) (Wk.temps ?_)
   (simp only[coC,go_sem,qf,qc,qa,qe];try exact we)
 ·have q0:(((f+k:Nat):Int)<t)=False:=wm;have hk:k=t-f:=by omega
  rw[hk]at i4;simp (disch:=omega) only[coC,qu,q0,go_sem]
  repeat' first|with_reducible apply aiA|exact clz|fail
  obtain⟨r1,r2⟩:=(hS _ _ i4).ret (L:=LI) .ready hts;exact jG trivial r1 r2 ⟨hh,.inl ⟨by rw[qmy];exact i4,rfl⟩⟩ (qi)
end RC
end
section
open Go Go.Proofs AF
def qo3:List Nat:= []
def qv7:C:=
 (vU [O1 2 (.box 0 140) 0,ON 4 (.nilo 1 7 131) []] (((C.wk.seq (vY [MV 6 1])).seq (C.block 0 (C.range (.t 6) [7] (vY [⟨some 5,none,.alloc 2 131 [.str [],.str [],.str [],i6 0,i6
 0,.str [],i6 0],[]⟩,ST 7 5 7]) (C.block 1 (vY [LD 8 2,O1 9 (.load (some 7)) 5,⟨some 10,none,.bslc 3 7 1 131 [.str [],.str [],.str [],i6 0,i6 0,.str [],i6 0] [(0,7)],[.t 9]⟩,O2
 11 (.app 4 7 131 88) 8 10,ST 1 2 11]))))).seq (vX [LD 12 2,MV 4 12])))
theorem qxV:qI Tryz.prog 223 13 5 [RV.tmp 4] qv7:=fi Tryz.f223 [2,4,5,10,11] qo3 [1]
end
section
open Go Go.Proofs AF HY LN
namespace RC
def qao(L:List Pc):wj:=L.flatMap pcC
instance:Inhabited Pc:=⟨⟨default,0⟩⟩
def qd6(L:List Pc):AV:= .sl L.length λi=>pcC (L.getD i default)
theorem qkH(l:List Pc):(qd6 l).flag=true:=rfl
theorem qiv(l:List Pc):(qd6 l).strip=qd6 l:=rfl
theorem qpT{fz:Nat->Bool}{h:wh}{n:Nat}(l:List Pc):rei fz h (n+1) (qd6 l)=qd6 l:=rfl
theorem qoS{fz:Nat->Bool}{h:wh}{n:Nat}(l:List Pc):frz fz h (n+1) (qd6 l)=qd6 l:=rfl
attribute [go_sem] qkH qiv qpT qoS
theorem qlC(p:Pc):(pcC p).length=7:=rfl
theorem qdA(L:List Pc):(qao L).length=L.length*7:=by
 unfold qao
 induction L with
 |nil=>rfl
 |cons a L ih=>rw[List.flatMap_cons,lap,ih,lco,qlC];omega
theorem qaF(A B:List Pc):qao (A++B)=qao A++qao B:=by simp[qao]
theorem qaG(a:Pc):qao [a]=pcC a:=by simp[qao]
theorem qlD(L:List Pc): ∀i,(qao L).drop (i*7)=qao (L.drop i):=by
 induction L with
 |nil=>intro i;simp[qao]
 |cons a L ih=>
  intro i;cases i with
  |zero=>simp
  |succ i=>
   rw[show qao (a::L)=pcC a++qao L from rfl,show (a::L).drop (i+1)=L.drop i from rfl,<-ih i];rw[show (i+1)*7=(pcC a).length+i*7 by rw[qlC];omega,List.drop_append,List.drop_eq_nil_of_le om,lna,Nat.add_sub_cancel_left]
theorem qpB{L:List Pc}{i:Nat}(hi:i<L.length):((qao L).drop (i*7)).take 7=pcC (L.getD i default):=by
 rw[qlD,List.drop_eq_getElem_cons hi,gdqA,zz hi];rfl
theorem qpC(L:List Pc)(n:Nat): ∀c∈qao L,qT n c=true:=by
 intro c hc;unfold qao at hc;obtain⟨x,_,hx⟩:=List.mem_flatMap.1 hc;unfold pcC tkC at hx;simp only[lca,lna,List.mem_cons,List.not_mem_nil,or_false]at hx;rcases hx with rfl|rfl|rfl|rfl|rfl|rfl|rfl<;>rfl
theorem qgX{v n:Nat}{L:List Pc}{ty:TypeId}{fz:Nat->Bool}{h:wh}{d:Nat}(hn:n=L.length):VLe (qe9 (some (zg v ty (qao L))) v 7 0 n (rei fz h (d+1))) (qd6 L):=by
 subst hn;unfold zg;split
 ·rename_i e
  have:L= []:=by
   cases L with
   |nil=>rfl
   |cons a r=>exact absurd e (by simp[qao,pcC,tkC])
  subst this;rw[slOf_emp,ipo rfl];exact qP
 ·rw[slOf_mem,ipo ⟨rfl,by rw[qdA];omega⟩];refine VLe.sl_eq rfl (λi hi=> ?_);simp only[Nat.zero_add];rw[qpB hi];rfl
theorem qEk(f:FuncId)(A B C D:wj)(L:List Pc)(h:wh)(hf:qns Tryz.prog f [.ip A,.ip B,.ip C,.ip D] (L.map λp=> [.agg (pcC p)]))(hL:L.length<=1000000000):ACalls Tryz.prog 223 [.nl,.fn (.func f) [] [.ip A,.ip B,.ip C,.ip D]] h (qd6 L) h:=by
 refine acO qxV ?_;simp (disch:=omega) only[qv7,go_sem];refine⟨_,_,Wk.ownNil (j:=h.length) (i:=0) (k:=h.length+4) (v:=1) (ty:=140) (cs:= [.nl]) (ve:=0) (sz:=7) ?m1 rfl ?m2,?_⟩
 case m1=>simp only[go_sem]
 case m2=>simp only[go_sem]
 simp (disch:=omega) only[List.set_cons_zero,go_sem];have hxl:(L.map λp=> [AV.agg (pcC p)]).length=L.length:=List.length_map ..;have hLow: ∀(i n:Nat) O1 O2,(∀n,lowO n O1)->(∀n,lowO n O2)->LowI (h++ [.mem 1 140 [.osl (h.length+4) 0 7 0 0],.emp 1,.emp 0,.emp 0,.emp 0]) (h++ [.mem 1 140 [.osl (h.length+4) i 7 0 n],.emp 1,O1,O2,zg i 131 (qao (L.take i))]):=λi n O1 O2 l1 l2=>by
  refine⟨by simp,λo ho=> ?_⟩;rcases List.mem_append.1 ho with h1|h1
  ·exact .inl (List.mem_append_left _ h1)
  ·simp only[List.mem_cons,List.not_mem_nil,or_false]at h1;have hb: ∀n,lowO n (zg i 131 (qao (L.take i))):=λn=>jy (qpC _ n)
   rcases h1 with rfl|rfl|rfl|rfl|rfl
   ·right;refine⟨λc hc=> ?_,λc hc=> ?_⟩<;>
    ·rw[List.mem_singleton]at hc;subst hc;simp[qT]
     try omega
   ·left;simp
   ·right;exact⟨l1 _,l1 _⟩
   ·right;exact⟨l2 _,l2 _⟩
   ·right;exact⟨hb _,hb _⟩
 refine zE hf (λa ha=> ?_)
  (S:=λi hh=> ∃O1 O2,qy [O1] 0=true∧qy [O2] 0=true∧(∀n,lowO n O1)∧(∀n,lowO n O2)∧hh=h++ [.mem 1 140 [.osl (h.length+4) i 7 0 i],.emp 1,O1,O2,zg i 131 (qao (L.take i))]) (E:=λ_ _=>False) ?_ ?_ ?_ ?_ ?_ ?_ ?_
 ·obtain⟨c,_,rfl⟩:=List.mem_map.1 ha;rfl
 ·rintro i hh ⟨O1,O2,_,_,l1,l2,rfl⟩;exact hLow _ _ _ _ l1 l2
 ·intro s hh hf;exact hf.elim
 ·exact⟨.emp 0,.emp 0,rfl,rfl,λ_=>trivial,λ_=>trivial,rfl⟩
 ·simp[qT,qT.lowVs]
  try omega
 ·rintro i hh tl LI TS hi ⟨O1,O2,s1,s2,l1,l2,rfl⟩ hlen K K2 hK hN hR' hX;have hi':i<L.length:=by rw[hxl]at hi;exact hi
  rw[List.getElem_map];have s1': ∀m,qy (O1::m) 0=true:=λ_=>s1
  have s2': ∀m,qy (O2::m) 0=true:=λ_=>s2
  have hS:L.take (i+1)=L.take i++ [L.getD i default]:=by
   rw[List.take_add_one,zz hi',gdqA,zz hi'];rfl
  have eG:L[i]=L.getD i default:=by rw[gdqA,zz hi'];rfl
  rw[eG];obtain⟨p,hp⟩:=wg (L.getD i default)
  rw[<-hp]at hS ⊢;obtain⟨M,hM⟩:=wg (L.take i)
  have eM:M.length=i:=by rw[hM,List.length_take];omega
  rw[<-hM]at hS ⊢;have eC:=qdA M;have eTk:List.take (i*7) (qao M)=qao M:=ltl om;simp only[kK,List.append_assoc,lca,lna];simp (disch:=omega) only[s1',pcC,tkC,go_sem];refine hK _ _ (h++ [.mem 1 140 [.osl (h.length+4) i 7 0 i],.emp 1,.mem (qo (some O1)+1) 131 (pcC p),O2,zg i 131 (qao M)]) ?_ ?_ ?_
  ·simp[pcC,tkC]
  ·simp
  ·simp only[List.append_assoc,lca,lna];simp (disch:=omega) only[s2',pcC,tkC,eC,eTk,eM,go_sem]
   repeat' first|with_reducible apply aiA|exact clz|fail
   have eA:qao M++ [AV.str p.t.text,AV.str p.t.norm,AV.str p.t.page,.int .i64 p.t.line,.int .i64 p.t.flags,.str p.t.name,.int .i64 p.c]=qao (M++ [p]):=by rw[qaF,qaG];rfl
   refine hN _ _ (h++ [.mem 1 140 [.osl (h.length+4) (i+1) 7 0 (i+1)],.emp 1,.mem (qo (some O1)+1) 131 (pcC p),.mem (qo (some O2)+1) 131 (pcC p),zg (i+1) 131 (qao (M++ [p]))]) ?_ ?_ ⟨_,_,rfl,rfl,?_,?_,by rw[hS]⟩
   ·rw[<-eA];simp[pcC,tkC];exact nlr _
   ·simp
   ·intro n c hc;simp[pcC,tkC]at hc;rcases hc with rfl|rfl|rfl|rfl|rfl|rfl|rfl<;>rfl
   ·intro n c hc;simp[pcC,tkC]at hc;rcases hc with rfl|rfl|rfl|rfl|rfl|rfl|rfl<;>rfl
 ·rintro hh ⟨O1,O2,s1,s2,l1,l2,rfl⟩;rw[hxl,List.take_length];simp (disch:=omega) only[go_sem]
  repeat' first|(apply qb;exact rvk;simp only[go_sem])|with_reducible apply aiA|exact clz|fail
  exact qgX rfl
 ·intro e hh hf;exact hf.elim
theorem qEw(f:FuncId)(A B C D:wj)(L:List Pc)(h:wh)(hf:qns Tryz.prog f [.ip A,.ip B,.ip C,.ip D] (L.map λp=> [.agg (pcC p)]))(hL:L.length<=1000000000):ACalls Tryz.prog 148 [.fn (.func f) [] [.ip A,.ip B,.ip C,.ip D]] h (qd6 L) h:=by
 have c1:=λh=>qEk f A B C D L h hf hL
 refine acO qxB ?_;simp (disch:=omega) only[qvO,go_sem]
 repeat' first|(refine cA (c1 _) flk ?_;simp (disch:=omega) only[go_sem])|exact wa|fail
theorem qEY(h:wh):ACalls Tryz.prog 73 [] h (.agg [.nilfn,.fn (.func 147) [] [],.fn (.func 149) [] [],.fn (.func 151) [] []]) h:=by
 refine acO qCr ?_;simp (disch:=omega) only[qDJ,go_sem]
 repeat' first|exact wa|fail
theorem qEX(x:Co)(u:Un)(o:Dc)(h:wh):ACalls Tryz.prog 151 [.agg (coC x),.agg (unC u),.agg (dcC o)] h (qd6 []) h:=by
 refine acO qxE ?_;simp (disch:=omega) only[qvR,coC,unC,dcC,go_sem]
 repeat' first|(apply qb;exact rvk;simp only[go_sem])
 exact qP
theorem qEV(x:Co)(u:Un)(o:Dc)(s f t:Nat)(h:wh)(hz:qad x)(ho:CoOk x)(hx:qX x o.sig=s)(hs:s<x.sig.length)(hf:u.frm=f)(hu:u.to=t)(ht:t<=x.col.length)(ft:f<=t):ACalls Tryz.prog 147 [.agg (coC x),.agg (unC u),.agg (dcC o)] h (qd6 (spk x s f (t-f))) h:=by
 have c1:=λh=>qtz x.sig.length (λj=>x.sig.getD j []) o.sig h hz.sg
 have hS:qbD (λj=>decide (o.sig=x.sig.getD j [])) x.sig.length 0=qX x o.sig:=rfl;simp only[hS,hx]at c1;have c2:=λh=>qAd x f t s h
 have hcl:=hz.cl;have c3:=λh=>qEw 146 [.int .i64 (f:Int)] [.int .i64 (t:Int)] (coC x) [.int .i64 (s:Int)] (spk x s f (t-f)) h (itS x s f t hz ho hs ht ft) (Nat.le_trans (qdQ x s f (t-f)) om)
 unfold coC at c2 c3;refine acO qxA ?_;simp (disch:=omega) only[qvN,coC,unC,dcC,strs,hf,hu,go_sem]
 repeat' first|((first|refine cA (c1 _) ?_ ?_|refine cA (c2 _) ?_ ?_|refine cA (c3 _) ?_ ?_);exact flk;simp (disch:=omega) only[strs,go_sem])|exact wa|fail
 done
def cjP(L:List Tk)(f:Int):List Pc:=L.map λt=>⟨t,f⟩
theorem qsD(L:List Tk)(f:Int):(cjP L f).length=L.length:=List.length_map ..
theorem qmR{s:Str}{t:Tk}(h:t∈qbX s):t.name= []∧(t.flags=0∨t.flags=16∨t.flags=8∨t.flags=24):=by
 obtain⟨a,⟨e,g⟩,rfl,_⟩:=qmS s h;refine⟨by rw[e];rfl,?_⟩;show a.flags=0∨a.flags=16∨a.flags=8∨a.flags=24;rcases g with⟨g|g,_⟩|⟨g|g,_⟩
 ·exact .inl g
 ·exact .inr (.inl g)
 ·exact .inr (.inr (.inl g))
 ·exact .inr (.inr (.inr g))
theorem qEW(x:Co)(u:Un)(o:Dc)(h:wh)(hl:o.txt.length<=1000)(hs:o.txt≠ [])(hc:zN o.txt=0)(he:qd8 o.txt=0)(hg:zT h frmN frmC):ACalls Tryz.prog 149 [.agg (coC x),.agg (unC u),.agg (dcC o)] h (qd6 (cjP (qbX o.txt) u.frm)) h:=by
 have c1:=λl=>qEt o.txt (h++l) hl hs hc hg.app
 have hT:qg6 o.txt=qbX o.txt:=by unfold qg6;rw[ipo he]
 rw[hT]at c1;have hfl:=λt=> @qmR o.txt t
 have hTl:=qaP o.txt;obtain⟨T,hTe⟩:=wg (qbX o.txt)
 rw[<-hTe]at c1 hTl hfl ⊢;have zu: ∀g l,valL g .len [zJ l]= .int .i64 l.length:=λ_ _=>rfl
 have zv: ∀g l,okL g .len [zJ l]=True:=λ_ _=>eqt trivial
 refine acO qxC ?_;simp (disch:=omega) only[qvP,coC,unC,dcC,go_sem]
 repeat' first|(refine cA (c1 _) flk ?_;simp (disch:=omega) only[zu,zv,go_sem])|with_reducible apply aiA|exact clz|fail
 refine qn (T:=λs:Nat×Nat×AObj×AObj=>qO 32 [(4,.op (h.length+1) 1 0),(12,zJ T),(13,.int .i64 T.length),(14,.int .i64 s.1),(7,.osl (h.length+4) s.2.1 7 0 s.1)])
  (H:=λs=>h++ [.mem 1 26 (coC x),.mem 1 39 (unC u),.mem 1 65 (dcC o),.emp 1,zg s.2.1 131 (qao (cjP (T.take s.1) u.frm)),s.2.2.1,s.2.2.2,.emp 0])
  (inv:=λs=>s.1<=T.length∧qy [s.2.2.1] 0=true∧qy [s.2.2.2] 0=true) (m:=λs=>T.length-s.1) (0,1,.emp 0,.emp 0) ⟨nzl _,rfl,rfl⟩ (Wk.temps ?_) ?_
 ·(simp only[zJ,go_sem,qf,qc,qa,qe];try exact we)
 rintro⟨i,v,O1,O2⟩ ⟨i1,i2,i3⟩ K hK;simp only at i1 i2 i3 hK;have i2': ∀m,qy (O1::m) 0=true:=λ_=>i2
 have i3': ∀m,qy (O2::m) 0=true:=λ_=>i3
 have eL:(cjP (T.take i) u.frm).length=i:=by rw[qsD,List.length_take];omega
 by_cases hi:i<T.length
 ·have k2:((i:Int)<T.length)=True:=wl;obtain⟨t,ht⟩:=wg (T.getD i default)
  have et:=ht.symm;obtain⟨hn,hf⟩:=hfl t (by rw[ht];exact jf hi);have hS:cjP (T.take (i+1)) u.frm=cjP (T.take i) u.frm++ [⟨t,u.frm⟩]:=by
   unfold cjP;rw[List.take_add_one,zz hi,List.map_append,ht,gdqA,zz hi];rfl
  obtain⟨L,hL⟩:=wg (cjP (T.take i) u.frm)
  rw[<-hL]at hS eL ⊢;have eC:=qdA L;have eTk:List.take (i*7) (qao L)=qao L:=ltl om;obtain⟨tx,nm,pg,ln,fl,na⟩:=t;simp only at hn hf;subst hn;rcases hf with rfl|rfl|rfl|rfl
  all_goals
   simp (disch:=omega) only[coC,unC,dcC,zJ,tkC,k2,et,i2',i3',eC,eL,eTk,go_sem]
   repeat' first|with_reducible apply aiA|exact clz|fail
  ·refine hK _ _ (i+1,v+1,.mem (qo (some O1)+1) 119 (tkC ⟨tx,nm,pg,ln,0,[]⟩),.mem (qo (some O2)+1) 131 (pcC ⟨⟨tx,nm,pg,ln,0,[]⟩,u.frm⟩)) ⟨hi,rfl,rfl⟩ (by simp only;omega) ?_;simp only[hS,pcC,tkC,qaF,qaG,lca,lna];refine Wk.temps ?_
   (simp only[zJ,tkC,go_sem,qf,qc,qa,qe];try exact we)
  ·refine hK _ _ (i+1,v+1,.mem (qo (some O1)+1) 119 (tkC ⟨tx,nm,pg,ln,16,[]⟩),.mem (qo (some O2)+1) 131 (pcC ⟨⟨tx,nm,pg,ln,16,[]⟩,u.frm⟩)) ⟨hi,rfl,rfl⟩ (by simp only;omega) ?_;simp only[hS,pcC,tkC,qaF,qaG,lca,lna];refine Wk.temps ?_
   (simp only[zJ,tkC,go_sem,qf,qc,qa,qe];try exact we)
  ·refine hK _ _ (i+1,v+1,.mem (qo (some O1)+1) 119 (tkC ⟨tx,nm,pg,ln,8,[]⟩),.mem (qo (some O2)+1) 131 (pcC ⟨⟨tx,nm,pg,ln,8,[]⟩,u.frm⟩)) ⟨hi,rfl,rfl⟩ (by simp only;omega) ?_;simp only[hS,pcC,tkC,qaF,qaG,lca,lna];refine Wk.temps ?_
   (simp only[zJ,tkC,go_sem,qf,qc,qa,qe];try exact we)
  ·refine hK _ _ (i+1,v+1,.mem (qo (some O1)+1) 119 (tkC ⟨tx,nm,pg,ln,24,[]⟩),.mem (qo (some O2)+1) 131 (pcC ⟨⟨tx,nm,pg,ln,24,[]⟩,u.frm⟩)) ⟨hi,rfl,rfl⟩ (by simp only;omega) ?_;simp only[hS,pcC,tkC,qaF,qaG,lca,lna];refine Wk.temps ?_
   (simp only[zJ,tkC,go_sem,qf,qc,qa,qe];try exact we)
 have k2:((i:Int)<T.length)=False:=wm;obtain rfl:i=T.length:=by omega
 simp (disch:=omega) only[k2,go_sem]
 repeat' first|(apply qb;exact rvk;simp only[go_sem])
 rw[List.take_length]at eL ⊢;exact qgX eL.symm
end RC
end
section
open Go Go.Proofs AF
def qtn:List Nat:= [69]
def qu9:C:=
 (vU [O1 4 (.box 0 131) 0] (vU [vN 9 0 4,vN 10 0 9,LD 11 10,vN 12 6 4,LD 13 12,MV 14 1,MV 15 2,vN 16 0 4,vN 17 4 16,LD 18 17,vP 19 .and 18 4,vP 20 .neq 19 0,vN 21 0 4,vN 22 5
 21,LD 23 22,⟨some 24,none,.build [.str [],i6 0,i6 0,i6 0,.bool false,.bool false,.str []] [(0,1),(1,1),(2,1),(3,1),(5,1),(6,1)],[.t 11,.t 13,.t 14,.t 15,.t 20,.t 23]⟩,⟨some
 7,none,.alloc 1 133 [.str [],i6 0,i6 0,i6 0,.bool false,.bool false,.str []],[]⟩,ST 7 7 24] (vU [LD 25 3,O1 26 .len 25,MV 8 26] (vU [vN 27 0 4,vN 28 4 27,LD 29 28,vP 30 .and 29
 16,vP 31 .neq 30 0,MV 32 31,MG 33 32 true 8,PC 34 32 true (.bin .gtr) 33 (i6 0),PF 35 32 34,MV 36 35,P1 37 36 true (.load none) 3,MG 38 36 true 8,PC 39 36 true (.bin .sub) 38
 (i6 1),P2 40 36 true (.idxA 7) 37 39,P1 41 36 true (.fldA 0) 40,P1 42 36 true (.load none) 41,P1 43 36 true (.fldA 0) 7,P1 44 36 true (.load none) 43,P2 45 36 true (.call 70
 true) 42 44,PF 46 36 45,vN 47 4 7,ST 1 47 46] (vY [LD 48 3,O1 49 (.load (some 7)) 7,⟨some 50,none,.bslc 2 7 1 133 [.str [],i6 0,i6 0,i6 0,.bool false,.bool false,.str []]
 [(0,7)],[.t 49]⟩,O2 51 (.app 3 7 133 64) 48 50,ST 1 3 51])))))
theorem qkS:qI Tryz.prog 69 52 4 [] qu9:=fi Tryz.f69 [4,7,50,51] qtn []
end
