import Derived.Test.YtiiegfkjmnoijaaGreatDoorK13
import Derived.Test.YtiiegfkjmnoijaaGreatDoorK3
import Derived.Test.YtiiegfkjmnoijaaGreatDoorK5
import Derived.Test.YtiiegfkjmnoijaaGreatDoorK8
import Derived.Test.YtiiegfkjmnoijaaGreatDoorProg
import Derived.Test.YtiiegfkjmnoijaaGreatDoorK11
import Derived.Test.YtiiegfkjmnoijaaGreatDoorK12
set_option linter.all false
set_option maxHeartbeats 128000000
set_option maxRecDepth 100000
section
open Go Go.Proofs AF HY LN
namespace RC
structure BrB (q:Br) (b:Bs):Prop where
 out:q.out=b.out
 word:q.word=b.word
 opn:q.opn=b.opn
 jn:q.jn=b.jn
theorem qbt(L:List Tk)(f:Int)(w:Str):Tm (L++ [tkF f []]) w=L++ [tkF f w]:=by
 unfold Tm;have e:(L++ [tkF f []]).length-1=L.length:=by simp
 rw[e];have g:(L++ [tkF f []]).getD L.length default=tkF f []:=by
  have:=Ud (L:=L) (M:= [tkF f []]) (a:=default) (i:=0)
  rw[Nat.add_zero]at this;rw[this];rfl
 rw[g,List.set_append_right _ _ (nlr _),Nat.sub_self];rfl
theorem qp6{q:Br}{b:Bs}{s:Str}(h:BrB q b)(hb:qma s b):q.nd.out=b.fin∧q.nd.word= []∧q.nd.opn=false∧q.nd.jn=b.jn:=by
 unfold Br.nd Bs.fin;cases ho:b.opn with
 |true=>
  rw[ipo (by rw[h.opn,ho]),ipo rfl];refine⟨?_,rfl,rfl,h.jn⟩;show Tm q.out q.word=_;rw[h.out,h.word];unfold Bs.out;rw[ipo ho,qbt]
 |false=>
  rw[ine (by rw[h.opn,ho];simp),ine (by simp),lan];refine⟨?_,rfl,rfl,h.jn⟩;show q.out=_;rw[h.out];unfold Bs.out;rw[ine (by rw[ho];simp),lan]
theorem qyP{q:Br}{b:Bs}{s:Str}(h:BrB q b)(hb:qma s b)(c:UInt8):BrB (q.pt c) (b.stp c):=by
 obtain⟨n1,n2,n3,n4⟩:=qp6 h hb;unfold Br.pt Bs.stp
 by_cases g1:b.opn=true∧SI c=true
 ·rw[ipo (by rw[h.opn];exact g1),ipo g1];refine⟨?_,?_,?_,h.jn⟩
  ·show q.out=_;rw[h.out];unfold Bs.out;rw[ipo g1.1,ipo rfl]
  ·show q.word++ [c]=_;rw[h.word]
  ·show q.opn=_;rw[h.opn,g1.1]
 rw[ine (by rw[h.opn];exact g1),ine g1]
 by_cases g2:bgn c=true
 ·rw[ipo g2,ipo g2];have ho:b.opn=false:=by
   cases ho:b.opn with
   |false=>rfl
   |true=>exact absurd ⟨ho,U4 g2⟩ g1
  have hf:q.out=b.fin:=by
   rw[h.out];unfold Bs.out Bs.fin;rw[ho];rfl
  refine⟨?_,?_,rfl,rfl⟩
  ·show q.out++ [tkF (0+jfl q.jn q.out.length) []]=_;rw[hf,h.jn];unfold Bs.out;rw[ipo rfl,Int.zero_add]
  ·show q.word++ [c]=_;rw[h.word,(hb.cl ho).1];rfl
 rw[ine g2,ine g2]
 by_cases g3:kind c=6
 ·rw[ipo g3,ipo g3];refine⟨?_,n2,n3,rfl⟩;show q.nd.out=_;rw[n1];unfold Bs.out;rw[ine (by simp),lan]
 ·rw[ine g3,ine g3];refine⟨?_,n2,n3,rfl⟩;show Tm (q.nd.out++ [tkF (8+jfl q.nd.jn q.nd.out.length) []]) [c]=_;rw[qbt,n1,n4];unfold Bs.out;rw[ine (by simp),lan]
theorem qAl{q:Br}{b:Bs}{s:Str}(h:BrB q b)(hb:qma s b)(hs:s.length<=900000):qzZ q:=by
 have hl:=hb.len;have hc:=hb.cat;have ho:b.out.length=b.fin.length:=by unfold Bs.out Bs.fin;split<;>simp
 refine⟨λe=> ?_,λe=> ?_,?_,?_⟩
 ·rw[h.opn]at e;have e2:q.out=b.done++ [tkF b.fl []]:=by rw[h.out];unfold Bs.out;rw[ipo e]
  rw[e2];refine⟨by simp,?_⟩;have g:(b.done++ [tkF b.fl []]).getD ((b.done++ [tkF b.fl []]).length-1) default=tkF b.fl []:=by
   rw[show (b.done++ [tkF b.fl []]).length-1=b.done.length+0 by simp,Ud];rfl
  rw[g];exact (hb.op e).2.2
 ·rw[h.opn]at e;rw[h.word];exact (hb.cl e).1
 ·rw[h.out,ho];omega
 ·rw[h.word];cases e:b.opn with
  |false=>rw[(hb.cl e).1];simp
  |true=>
   have hm:b.word∈b.fin.map Tk.text:=by
    unfold Bs.fin;rw[ipo e,List.map_append];exact List.mem_append_right _ (List.mem_singleton.2 rfl)
   have h1:=qaB hm;rw[hc]at h1
   have:=List.length_filter_le (λc=> !decide (kind c=6)) s
   omega
def brI(vo vw:Nat)(s:Str):Br:=s.foldl Br.pt ⟨[],[],false,false,vo,vw,false⟩
theorem quM(vo vw:Nat)(s:Str): ∀n,n<=s.length->BrB (brI vo vw (s.take n)) (bsL (s.take n)):=by
 intro n
 induction n with
 |zero=>intro _;exact⟨rfl,rfl,rfl,rfl⟩
 |succ n ih=>
  intro hn;rw[List.take_add_one,zn hn];show BrB (brI vo vw (s.take n++ [s[n]])) (bsL (s.take n++ [s[n]]));rw[qeK];unfold brI;rw[List.foldl_append];exact qyP (ih om) (qa6 _) _
theorem qmp(vo vw:Nat)(s:Str){n:Nat}(hn:n<s.length):brI vo vw (s.take (n+1))=(brI vo vw (s.take n)).pt (ch s n):=by
 unfold brI;rw[List.take_add_one,zn hn,List.foldl_append];simp[ch,gdqA,hn]
theorem qpt(vo vw:Nat)(s:Str)(hs:s.length<=900000){n:Nat}(hn:n<=s.length):qzZ (brI vo vw (s.take n)):=qAl (quM vo vw s n hn) (qa6 _) (by rw[List.length_take];omega)
def nmL(L:List Tk)(i:Nat):List Tk:=(L.take i).map tkN++L.drop i
theorem qaC(L:List Tk)(i:Nat):(nmL L i).length=L.length:=by unfold nmL;simp;omega
theorem qyA{L:List Tk}{i:Nat}(hi:i<L.length):(nmL L i).getD i default=L.getD i default:=by
 unfold nmL;rw[gdqA,List.getElem?_append_right (by simp;omega),List.getElem?_drop,gdqA];simp[Nat.min_eq_left (Nat.le_of_lt hi)]
theorem qnM{L:List Tk}{i:Nat}(hi:i<L.length):nmL L (i+1)=(nmL L i).set i (tkN (L.getD i default)):=by
 unfold nmL;have e:((L.take i).map tkN).length=i:=by simp;omega
 rw[List.set_append_right _ _ om,e,Nat.sub_self,List.drop_eq_getElem_cons hi,List.set_cons_zero,List.take_add_one,zn hi,List.map_append,List.append_assoc,gdqA,zn hi];rfl
theorem qsn(L:List Tk):nmL L L.length=L.map tkN:=by unfold nmL;rw[List.take_length,List.drop_length,lan]
theorem qnN(L:List Tk):nmL L 0=L:=by unfold nmL;simp
end RC
end
section
open Go Go.Proofs AF
def qr1:List Nat:= [118,116,307,285,244,282,245,283,247]
def qvi:C:=
 (vU [O1 3 (.box 0 88) 0,ON 6 (.nilo 1 6 92) [],vO 7 0] ((vU [MV 14 1,O1 15 (.call 240 true) 14,vP 16 .neq 15 0,MV 17 16,vS 18 17 2,vQ 19 17 (.call 241 true) 18,vT 20 17 (.bin
 .neq) 19 (i6 0),PT 21 17 20] (vV 21 (vX [ON 6 (.nilo 1 6 92) [],vO 7 1]))).seq ((vU [vN 22 1 3,LD 23 22,vP 24 .lss 23 0,MV 25 24,v7 26 25 1 3,v8 27 25 26,vT 28 25 (.bin .gtr)
 27 (i6 4096),PT 29 25 28] (vV 29 (vX [ON 6 (.nilo 1 6 92) [],vO 7 2]))).seq ((vU [vN 30 0 3,LD 31 30,O1 32 (.call 234 true) 31,O1 33 (.un UnOp.not) 32] (vV 33 (vX [ON 6 (.nilo
 1 6 92) [],vO 7 14]))).seq (vU [MV 35 1,OC 36 (.call 242 true) 35 (i6 8),MV 34 36,O1 37 (.ext 0) 34,O1 38 (.ext 1) 34,MV 8 37,MV 9 38] (vU [MV 40 1,OC 41 (.call 242 true) 40
 (i6 9),MV 39 41,O1 42 (.ext 0) 39,O1 43 (.ext 1) 39,MV 10 42,MV 11 43] ((vU [MV 44 8,MV 45 10,BI 46 .add 44 45,vP 47 .gtr 46 0] (vV 47 (vX [ON 6 (.nilo 1 6 92) [],vO 7
 13]))).seq (vU [⟨some 12,none,.alloc 2 264 [.nl,.nilp,.nl,.bool false,.bool false,.bool false],[]⟩] (((C.wk.seq (vY [O1 48 (.load (some 2)) 3,MV 49 1,O2 50 (.call 243 true) 48
 49])).seq (C.block 0 (C.range (.t 50) [51] (vY [⟨some 13,none,.alloc 3 269 [i6 0,.int .u8 0,i6 0,.str [],i6 0,.bool false,.str []],[]⟩,ST 7 13 51]) (C.block 1 (vY [O1 52 (.load
 (some 7)) 13,O2 53 (.call 244 false) 12 52]))))).seq (vU [O1 54 (.call 245 false) 12] ((vU [vN 55 0 12,LD 56 55,O1 57 .len 56,vP 58 .gtr 57 1024,MV 59 58,v7 60 59 0 12,v8 61 59
 60,vT 62 59 (.call 172 true) 61 (.fn (Fn.func 246) [] []),PT 63 59 62] (vV 63 (vX [ON 6 (.nilo 1 6 92) [],vO 7 4]))).seq (vX [MV 64 2,vN 65 0 12,LD 66 65,O2 67 (.call 247
 false) 64 66,O1 68 (.ext 0) 67,O1 69 (.ext 1) 67,MV 6 68,MV 7 69]))))))))))))
theorem qw8:qM Tryz.prog 182 70 6 [RV.tmp 6,RV.tmp 7] qvi:=fi Tryz.f182 [3,6,12,13,9,11] qr1 [12]
end
section
open Go Go.Proofs AF HY LN
namespace RC
theorem qo2{t:Tk}(h:TkG t)(hl:t.text.length<=64):(qf5 t.flags=false∧mkB t.flags=false∧ ∀i,i<t.text.length->SI (ch t.text i)=true)∨(qf5 t.flags=false∧mkB t.flags=true):=by
 rcases h.2 with⟨hf,c,r,e,hb,hr⟩|⟨hf,_⟩
 ·refine .inl ⟨by rcases hf with e|e<;>rw[e]<;>rfl,by rcases hf with e|e<;>rw[e]<;>rfl,λi hi=> ?_⟩;rw[e]at hi ⊢;cases i with
  |zero=>exact U4 hb
  |succ i=>
   simp only[lco]at hi
   have:ch (c::r) (i+1)=r[i]'(by omega):=by simp[ch,gdqA,show i<r.length by omega]
   rw[this];exact hr _ (List.getElem_mem _)
 ·exact .inr ⟨by rcases hf with e|e<;>rw[e]<;>rfl,by rcases hf with e|e<;>rw[e]<;>rfl⟩
theorem qo1{t:Tk}(h:TkG t): ∃f:Nat,t.flags=f∧f<32:=by
 rcases h.2 with⟨hf|hf,_⟩|⟨hf|hf,_⟩
 ·exact⟨0,hf,om⟩
 ·exact⟨16,hf,om⟩
 ·exact⟨8,hf,om⟩
 ·exact⟨24,hf,om⟩
theorem qBD(L:List Tk)(b v:Nat)(h:wh)(hb:qr b h=some (qZ v 92 (jm L)))(hg: ∀t∈L,TkG t)(hl: ∀t∈L,t.text.length<=64)(hn:L.length<=1000000):
  ACalls Tryz.prog 247 [.nl,.osl b v 6 0 L.length] h (.tup [.osl b v 6 0 L.length,.int .i64 0]) (qq b h (qZ v 92 (jm (L.map tkN)))):=by
 have hbl:=qV hb;have hlv: ∀l,qF (h++l) b v=true:=λl=>by rw[ja,zw hbl,hb,ze];simp
 refine acO qxv ?_;simp (disch:=omega) only[qvF,hlv,go_sem];refine qu (T:=λi:Nat=>zf 49 [(0,.nl),(1,.osl b v 6 0 L.length),(10,.int .i64 L.length),(11,.int .i64 i)]) (H:=λi=>qq b h (qZ v 92 (jm (nmL L i)))++ [.emp 1]) (inv:=λi=>i<=L.length) (m:=λi=>L.length-i) 0 (nzl _) ?_ ?_
 ·rw[qnN,jc hb];refine Wk.temps ?_
  (simp only[go_sem,qg,qc,qb,qf];try exact we)
 rintro i i1 K hK;have hML:=qaC L i
 by_cases hi:i<L.length
 ·have k1:((i:Int)<L.length)=True:=wj;have hne:jm (nmL L i)≠ []:=λe=>by
   have:=congrArg List.length e
   rw[jI,hML,lnl]at this;omega
  have ho:qZ v 92 (jm (nmL L i))= .mem v 92 (jm (nmL L i)):=by unfold qZ;rw[ine hne]
  rw[ho];have hM:=jI (nmL L i);rw[hML]at hM;obtain⟨t,ht⟩:=wg (L.getD i default)
  have hmem:t∈L:=by rw[ht];exact zJ hi
  have gt:=hg t hmem;have lt:=hl t hmem;have hat:=qyA hi;rw[<-ht]at hat;have hsucc:=qnM hi;rw[<-ht]at hsucc;obtain⟨M,hMe⟩:=wg (nmL L i)
  rw[<-hMe]at hM hat hsucc hML ⊢;have s1: ∀ {l w cs z},cellsOf (qq b h (.mem w 92 cs)++l) b z=if w=z then some cs else none:=f0 hbl
  have s2: ∀ {l o o'},qq b (qq b h o++l) o'=qq b h o'++l:=qb6 hbl;have s4: ∀ {l o},qr b (qq b h o++l)=some o:=U7 hbl;have s3: ∀ {l o w},qF (qq b h o++l) b w=qI (some o) w:=λ{l o w}=>by rw[ja,s4]
  have g0:(jm M)[i*6]? =some (.str t.text):=by
   have:=qcj (L:=M) (i:=i) (k:=0) om om
   rw[Nat.add_zero]at this;rw[this,hat];rfl
  have b1:(i*6<L.length*6)=True:=wj;have b2:(i*6+1+1<=L.length*6)=True:=wj;have b3:(i*6+6<=L.length*6)=True:=wj;have hset:=qfn (L:=M) (i:=i) (tkN t) om;rw[<-hsucc]at hset;have hcut:=TU (L:=M) (i:=i) om;rw[hat]at hcut;have hS:List.take (i*6+1) (jm M)++ [AV.str t.text]++List.drop (i*6+1+1) (jm M)=jm (nmL L (i+1)):=by
   rw[<-hset];have e1:List.take (i*6+1) (jm M)=List.take (i*6) (jm M)++ [.str t.text]:=by
    rw[List.take_add_one,g0];rfl
   have e2:List.drop (i*6+1+1) (jm M)=(tkC t).drop 2++(jm M).drop (i*6+6):=by
    rw[<-hcut,List.drop_take,List.drop_drop]
    have:List.drop (i*6+6) (jm M)=List.drop 4 (List.drop (i*6+2) (jm M)):=by rw[List.drop_drop]
    rw[this,show i*6+1+1=i*6+2 by omega];exact (List.take_append_drop 4 _).symm
   rw[e1,e2];simp[tkC,tkN]
  have hL2:=jI (nmL L (i+1));rw[qaC]at hL2;have hat2:(nmL L (i+1)).getD i default=tkN t:=by rw[hsucc];exact qbO om
  have hcut2:=TU (L:=nmL L (i+1)) (i:=i) (by rw[qaC];exact hi);rw[hat2]at hcut2;have h0':(jm (nmL L (i+1)))[i*6]? =some (.str t.text):=by
   have:=qcj (L:=nmL L (i+1)) (i:=i) (k:=0) (by rw[qaC];exact hi) om
   rw[hat2]at this;exact this
  have hS2:List.take (i*6+1) (jm (nmL L (i+1)))++ [AV.str t.text]++List.drop (i*6+1+1) (jm (nmL L (i+1)))=jm (nmL L (i+1)):=by
   refine qdq ?_;rw[qcj (by rw[qaC];exact hi) om,hat2];rfl
  obtain⟨f,hf,hf2⟩:=qo1 gt;have c1:=λh=>qCv (tkN t) f h hf hf2
  have ho2:qZ v 92 (jm (nmL L (i+1)))= .mem v 92 (jm (nmL L (i+1))):=by
   unfold qZ;rw[ine λe=> ?_]
   have:=congrArg List.length e
   rw[hL2,lnl]at this;omega
  rcases qo2 gt lt with⟨q1,q2,q3⟩|⟨q1,q2⟩
  ·have hiw:(!qf5 (tkN t).flags&& !mkB (tkN t).flags)=true:=by rw[show (tkN t).flags=t.flags from rfl,q1,q2];rfl
   rw[hiw]at c1;have c2:=λh=>qBC t.text h lt q3
   simp (disch:=omega) only[k1,s1,s2,s4,hM,g0,b1,b2,b3,hS,hL2,hcut2,go_sem]
   repeat' first|((first|refine cA (c1 _) ?_ ?_|refine cA (c2 _) ?_ ?_);exact flk;simp (disch:=omega) only[k1,s1,s2,s4,b1,b2,hL2,h0',hS2,go_sem])|with_reducible apply aiA|exact clz|fail
   refine hK _ _ (i+1) hi om ?_;rw[ho2];refine Wk.temps ?_
   (simp only[go_sem,qg,qc,qb,qf];try exact we)
  ·have hiw:(!qf5 (tkN t).flags&& !mkB (tkN t).flags)=false:=by rw[show (tkN t).flags=t.flags from rfl,q1,q2];rfl
   rw[hiw]at c1;simp (disch:=omega) only[k1,s1,s2,s4,hM,g0,b1,b2,b3,hS,hL2,hcut2,go_sem]
   repeat' first|(refine cA (c1 _) flk ?_;simp (disch:=omega) only[k1,s1,b1,hL2,go_sem])|with_reducible apply aiA|exact clz|fail
   refine hK _ _ (i+1) hi om ?_;rw[ho2];refine Wk.temps ?_
   (simp only[go_sem,qg,qc,qb,qf];try exact we)
 have k1:((i:Int)<L.length)=False:=wm;obtain rfl:i=L.length:=by omega
 simp (disch:=omega) only[k1,go_sem];rw[qsn];refine jX ⟨trivial,trivial,trivial⟩ qK (λo ho=>(z6 ho).imp id (λe=>by rw[e];exact ji (kh _ _))) ⟨rfl,rfl⟩ ?_;simp only[go_sem];rw[ine om];exact qi
end RC
end
section
open Go Go.Proofs AF HY LN
namespace AF
theorem qts{h:wh}{a b c:Nat}{X Y Z o:AObj}(ho:o∈tri h a b c X Y Z):o∈h∨o=X∨o=Y∨o=Z:=by
 unfold tri at ho;rcases z6 ho with h1|rfl
 ·rcases z6 h1 with h1|rfl
  ·rcases z6 h1 with h1|rfl
   ·exact .inl h1
   ·exact .inr (.inl rfl)
  ·exact .inr (.inr (.inl rfl))
 ·exact .inr (.inr (.inr rfl))
theorem qzt{h l:wh}{a b c k:Nat}{X Y Z:AObj}(hk:k<h.length)(ha:k≠a)(hb:k≠b)(hc:k≠c):qr k (tri h a b c X Y Z++l)=qr k h:=by
 rw[zw (by rw[tri_len];exact hk)];unfold tri;rw[qH hc,qH hb,qH ha]
theorem qzu{h l:wh}{a b c k:Nat}{X Y Z o:AObj}(hk:k<h.length)(ha:k≠a)(hb:k≠b)(hc:k≠c):qq k (tri h a b c X Y Z++l) o=tri (qq k h o) a b c X Y Z++l:=by
 rw[zg (by rw[tri_len];exact hk)];unfold tri;rw[ku hc,ku hb,ku ha]
theorem qqo{h:wh}{a b c:Nat}{X Y Z:AObj}(ha:qr a h=some X)(hb:qr b h=some Y)(hc:qr c h=some Z):tri h a b c X Y Z=h:=by
 unfold tri;rw[jc ha,jc hb,jc hc]
end AF
namespace RC
theorem qb7{v n:Nat}{L:List Tk}{ty:TypeId}{fz:Nat->Bool}{h:wh}{d:Nat}(hn:n=L.length):VLe (qec (some (qZ v ty (jm L))) v 6 0 n (rei fz h (d+1))) (zT L):=by
 subst hn;unfold qZ;split
 ·rename_i e
  have:L= []:=by
   cases L with
   |nil=>rfl
   |cons a r=>exact absurd e (by simp[jm,tkC])
  subst this;rw[slOf_emp,ipo rfl];exact qW
 ·rw[slOf_mem,ipo ⟨rfl,by rw[jI];omega⟩];refine VLe.sl_eq rfl (λi hi=> ?_);simp only[Nat.zero_add];rw[TU hi];rfl
theorem qDV(t:Tk)(h:wh):ACalls Tryz.prog 246 [.agg (tkC t)] h (.bool (decide (64<t.text.length))) h:=by
 by_cases g:64<t.text.length
 ·have k1:((64:Int)<t.text.length)=True:=wj;rw[dqt g];refine acO qpP ?_;simp (disch:=omega) only[qqS,tkC,k1,go_sem]
  repeat' first|exact wa|fail
 ·have k1:((64:Int)<t.text.length)=False:=wm;rw[dqf g];refine acO qpP ?_;simp (disch:=omega) only[qqS,tkC,k1,go_sem]
  repeat' first|exact wa|fail
theorem qDr(L:List Tk)(h:wh)(hl:L.length<=1000000000):ACalls Tryz.prog 172 [zT L,.fn (.func 246) [] []] h (.bool (qsb L)) h:=
 qum qpF ⟨rfl,rfl⟩ ⟨rfl,rfl⟩ (qbP qpK L.length (λj=>tkC (L.getD j default)) (λj=> .agg (tkC (L.getD j default))) 246 [] [] (λj=>decide (64<(L.getD j default).text.length)) h (λi _=>⟨rfl,by simp[jU,tkC],rfl,rfl,rfl⟩) (λi _=>qDV _ _) om)
end RC
end
section
open Go Go.Proofs AF HY LN
namespace RC
def qfp(s:Str):List Tk:=if qfo s=0 then qaZ s else []
theorem qBT(s:Str)(h:wh)(hl:s.length<=1000)(hs:s≠ [])(hc:zM s=0)(hg:jh h frmN frmC):ACalls Tryz.prog 182 [.agg [.str [],.int .i64 0],jZ s,.nl] h (.tup [zT (qfp s),.int .i64 (qfo s)]) h:=by
 have c1:=λl=>qAB s (h++l) om om hs hc hg.app
 have c2:=λh=>qCA h
 have c3:=λh=>qBA [] h (by simp)
 rw[show qjH []=true from rfl]at c3;have c4:=λl=>qCo s 8 (h++l) om om (λl'=>qAB s (h++l++l') om om hs hc hg.app.app)
 have c9:=λl=>qCo s 9 (h++l) om om (λl'=>qAB s (h++l++l') om om hs hc hg.app.app)
 have c5:=λh=>qCT s h
 unfold jZ at c1 c4 c5 c9;refine acO qw8 ?_;simp (disch:=omega) only[qvi,jZ,go_sem]
 repeat' first|((first|refine cA (c1 _) ?_ ?_|refine cG (λe=>c2 _) ?_ ?_|refine cA (c3 _) ?_ ?_|refine cA (c4 _) ?_ ?_|refine cA (c9 _) ?_ ?_);exact flk;simp (disch:=omega) only[go_sem])|(apply qa;exact rvk;simp only[go_sem])|(with_reducible first|intro _|apply aiA)|exact clz|fail
 refine⟨_,_,(Wk.ownNil (j:=h.length+2) (i:=0) (k:=h.length+4) (v:=1) (ty:=264) (cs:= [.nl,.nilp,.nl,.bool false,.bool false,.bool false]) (ve:=0) (sz:=6) ?m1 rfl ?m2).trans
  (Wk.ownNil (j:=h.length+2) (i:=2) (k:=h.length+5) (v:=1) (ty:=264) (cs:= [.osl (h.length+4) 0 6 0 0,.nilp,.nl,.bool false,.bool false,.bool false]) (ve:=0) (sz:=1) ?m3 rfl ?m4),?_⟩
 case m1=>simp only[go_sem]
 case m2=>simp only[go_sem]
 case m3=>
  simp only[List.set_cons_zero,go_sem]
 case m4=>simp only[List.set_cons_zero,go_sem]
 simp (disch:=omega) only[List.set_cons_zero,List.set_cons_succ,go_sem]
 repeat' first|(refine cA (c5 _) flk ?_;simp (disch:=omega) only[go_sem])
 obtain⟨base,hbase⟩: ∃base:AObj->wh,base=λO=>h++ [.mem 1 88 [.str [],.int .i64 0],.emp 1,.mem 1 264 [.osl (h.length+4) 0 6 0 0,.nilp,.osl (h.length+5) 0 1 0 0,.bool false,.bool false,.bool false],O,.emp 0,.emp 0]:=⟨_,rfl⟩
 have hbl: ∀O,(base O).length=h.length+6:=λO=>by rw[hbase];simp
 have hT: ∀O,T3 (base O) (h.length+2) (h.length+4) (h.length+5):=λO=>⟨by rw[hbl];omega,by rw[hbl];omega,by rw[hbl];omega,om,om,om⟩
 have f1: ∀ {O X Y Z l},qr (h.length+3) (tri (base O) (h.length+2) (h.length+4) (h.length+5) X Y Z++l)=some O:=λ{O X Y Z l}=>by
  rw[qzt (by rw[hbl];omega) om om om,hbase];simp only[go_sem]
 have f2: ∀ {O O' X Y Z l},qq (h.length+3) (tri (base O) (h.length+2) (h.length+4) (h.length+5) X Y Z++l) O'=tri (base O') (h.length+2) (h.length+4) (h.length+5) X Y Z++l:=λ{O O' X Y Z l}=>by
  rw[qzu (by rw[hbl];omega) om om om,hbase];simp only[go_sem]
 have f4: ∀ {v w ty cs X Y Z l},cellsOf (tri (base (.mem v ty cs)) (h.length+2) (h.length+4) (h.length+5) X Y Z++l) (h.length+3) w=if v=w then some cs else none:=λ{v w ty cs X Y Z l}=>by rw[zy,f1];rfl
 have eT: ∀ {O X Y Z},tri (base O) (h.length+2) (h.length+4) (h.length+5) X Y Z=h++ [.mem 1 88 [.str [],.int .i64 0],.emp 1,X,O,Y,Z]:=λ{O X Y Z}=>by
  rw[hbase];unfold tri;simp only[go_sem]
 have hst:base (.emp 0)=brO (base (.emp 0)) (h.length+2) (h.length+4) (h.length+5) 1 (brI 0 0 (s.take 0)):=by
  refine (qqo ?_ ?_ ?_).symm
  ·rw[hbase];simp only[go_sem];rfl
  ·rw[hbase];simp only[go_sem];rfl
  ·rw[hbase];simp only[go_sem];rfl
 have hLow: ∀(q:Br) O,(∀n,lowO n O)->LowI (base (.emp 0)) (brO (base O) (h.length+2) (h.length+4) (h.length+5) 1 q):=λq O lO=>by
  refine⟨by rw[qbE,hbl,hbl],λo ho=> ?_⟩;rcases qts ho with h1|rfl|rfl|rfl
  ·rw[hbase]at h1 ⊢;rcases List.mem_append.1 h1 with h1|h1
   ·exact .inl (List.mem_append_left _ h1)
   ·simp only[List.mem_cons,List.not_mem_nil,or_false]at h1;rcases h1 with rfl|rfl|rfl|rfl|rfl|rfl
    ·left;simp
    ·left;simp
    ·left;simp
    ·right;exact⟨lO _,lO _⟩
    ·left;simp
    ·left;simp
  ·right
   have:=jL (hT O) 1 q
   rw[hbl]at this ⊢;exact⟨this,lowO_mono om this⟩
  ·right;exact⟨eW _ _,eW _ _⟩
  ·right;exact⟨zY _ _ _,zY _ _ _⟩
 have e0:h++ [.mem 1 88 [.str [],.int .i64 0],.emp 1,.mem 1 264 [.osl (h.length+4) 0 6 0 0,.nilp,.osl (h.length+5) 0 1 0 0,.bool false,.bool false,.bool false],.emp 0,.emp 0,.emp 0]=base (.emp 0):=by rw[hbase]
 rw[e0];refine zh (xs:=atX s) (itA s om) (λa ha=> ?_)
  (S:=λi hh=> ∃O,qJ [O] 0=true∧(∀n,lowO n O)∧hh=brO (base O) (h.length+2) (h.length+4) (h.length+5) 1 (brI 0 0 (s.take i))) (E:=λ_ _=>False) ?_ ?_ ?_ ?_ ?_ ?_ ?_
 ·obtain⟨c,_,rfl⟩:=List.mem_map.1 (show a∈s.map _ from ha);rfl
 ·rintro i hh ⟨O,_,l1,rfl⟩;exact hLow _ _ l1
 ·intro s hh hf;exact hf.elim
 ·exact⟨.emp 0,rfl,λ_=>trivial,hst⟩
 ·rw[hbl];simp[qS,qS.lowVs]
  try omega
 ·rintro i hh tl LI TS hi ⟨O,s1,l1,rfl⟩ hlen K K2 hK hN hR' hX;have hi':i<s.length:=by rw[qal]at hi;exact hi
  rw[qps hi];have t:=hT O;have f3: ∀ {X Y Z l},qJ (tri (base O) (h.length+2) (h.length+4) (h.length+5) X Y Z++l) (h.length+3)=true:=λ{X Y Z l}=>by unfold qJ;rw[f1];exact s1
  simp only[kg];unfold brO;simp (disch:=omega) only[f1,f2,f3,f4,atC,go_sem];refine hK _ _ (brO (base (.mem (qn (some O)+1) 269 (atC 1 (ch s i)))) (h.length+2) (h.length+4) (h.length+5) 1 (brI 0 0 (s.take i))) ?_ ?_ ?_
  ·rfl
  ·rw[qbE,hbl,hbl]
  ·have cA:=qil (va:=1) (λh' t'=>qAj (va:=1) t' (brI 0 0 (s.take i)) (ch s i) (qpt 0 0 s om om)) (hT (.mem (qn (some O)+1) 269 (atC 1 (ch s i)))) (.lp .busy TS LI::tl);unfold brO atC at cA;unfold brO;simp (disch:=omega) only[f4,atC,go_sem];refine qv cA (by exact flk) ?_;simp (disch:=omega) only[go_sem];refine hN _ _ (brO (base (.mem (qn (some O)+1) 269 (atC 1 (ch s i)))) (h.length+2) (h.length+4) (h.length+5) 1 ((brI 0 0 (s.take i)).pt (ch s i))) rfl (by rw[qbE,hbl,hbl]) ⟨_,?_,?_,by rw[qmp 0 0 s hi']⟩
   ·rfl
   ·intro n d hd;simp[atC]at hd;rcases hd with rfl|rfl|rfl|rfl|rfl|rfl|rfl<;>rfl
 ·rintro hh ⟨O,s1,l1,rfl⟩;have t:=hT O;rw[qal,List.take_length];have hqo:=qpt 0 0 s om (nlr s.length);have hqb:=quM 0 0 s s.length (nlr _);rw[List.take_length]at hqo hqb;obtain⟨q,hq⟩:=wg (brI 0 0 s)
  rw[<-hq]at hqo hqb ⊢;obtain⟨n1,n2,n3,n4⟩:=qp6 hqb (qa6 s);have n1:q.nd.out=Tn s:=n1;have cE:=qqC (va:=1) t q (λe=>(hqo.op e).1) hqo.cl (by have:=hqo.n;omega) (by have:=hqo.w;omega);simp (disch:=omega) only[go_sem];refine qv cE (by exact flk) ?_;obtain⟨r,hr⟩:=wg q.nd
  rw[<-hr]at n1 ⊢;have zga: ∀ {X Y Z l},qr (h.length+2) (tri (base O) (h.length+2) (h.length+4) (h.length+5) X Y Z++l)=some X:=CS (t);have yga: ∀ {X Y Z},qr (h.length+2) (tri (base O) (h.length+2) (h.length+4) (h.length+5) X Y Z)=some X:=λ{X Y Z}=>by have:=zga (X:=X) (Y:=Y) (Z:=Z) (l:= []);simpa only[lan] using this
  have zgb: ∀ {X Y Z l},qr (h.length+4) (tri (base O) (h.length+2) (h.length+4) (h.length+5) X Y Z++l)=some Y:=Sv (t);have ygb: ∀ {X Y Z},qr (h.length+4) (tri (base O) (h.length+2) (h.length+4) (h.length+5) X Y Z)=some Y:=λ{X Y Z}=>by have:=zgb (X:=X) (Y:=Y) (Z:=Z) (l:= []);simpa only[lan] using this
  have zgc: ∀ {X Y Z l},qr (h.length+5) (tri (base O) (h.length+2) (h.length+4) (h.length+5) X Y Z++l)=some Z:=DV (t);have ygc: ∀ {X Y Z},qr (h.length+5) (tri (base O) (h.length+2) (h.length+4) (h.length+5) X Y Z)=some Z:=λ{X Y Z}=>by have:=zgc (X:=X) (Y:=Y) (Z:=Z) (l:= []);simpa only[lan] using this
  have zsa: ∀ {X Y Z o l},qq (h.length+2) (tri (base O) (h.length+2) (h.length+4) (h.length+5) X Y Z++l) o=tri (base O) (h.length+2) (h.length+4) (h.length+5) o Y Z++l:=Sz (t);have ysa: ∀ {X Y Z o},qq (h.length+2) (tri (base O) (h.length+2) (h.length+4) (h.length+5) X Y Z) o=tri (base O) (h.length+2) (h.length+4) (h.length+5) o Y Z:=λ{X Y Z o}=>by have:=zsa (X:=X) (Y:=Y) (Z:=Z) (o:=o) (l:= []);simpa only[lan] using this
  have zsb: ∀ {X Y Z o l},qq (h.length+4) (tri (base O) (h.length+2) (h.length+4) (h.length+5) X Y Z++l) o=tri (base O) (h.length+2) (h.length+4) (h.length+5) X o Z++l:=S0 (t);have ysb: ∀ {X Y Z o},qq (h.length+4) (tri (base O) (h.length+2) (h.length+4) (h.length+5) X Y Z) o=tri (base O) (h.length+2) (h.length+4) (h.length+5) X o Z:=λ{X Y Z o}=>by have:=zsb (X:=X) (Y:=Y) (Z:=Z) (o:=o) (l:= []);simpa only[lan] using this
  have zsc: ∀ {X Y Z o l},qq (h.length+5) (tri (base O) (h.length+2) (h.length+4) (h.length+5) X Y Z++l) o=tri (base O) (h.length+2) (h.length+4) (h.length+5) X Y o++l:=S3 (t);have ysc: ∀ {X Y Z o},qq (h.length+5) (tri (base O) (h.length+2) (h.length+4) (h.length+5) X Y Z) o=tri (base O) (h.length+2) (h.length+4) (h.length+5) X Y o:=λ{X Y Z o}=>by have:=zsc (X:=X) (Y:=Y) (Z:=Z) (o:=o) (l:= []);simpa only[lan] using this
  have zca: ∀ {X Y Z v l},cellsOf (tri (base O) (h.length+2) (h.length+4) (h.length+5) X Y Z++l) (h.length+2) v=qx (some X) v:=TV (t);have yca: ∀ {X Y Z v},cellsOf (tri (base O) (h.length+2) (h.length+4) (h.length+5) X Y Z) (h.length+2) v=qx (some X) v:=λ{X Y Z v}=>by have:=zca (X:=X) (Y:=Y) (Z:=Z) (v:=v) (l:= []);simpa only[lan] using this
  have zcb: ∀ {X Y Z v l},cellsOf (tri (base O) (h.length+2) (h.length+4) (h.length+5) X Y Z++l) (h.length+4) v=qx (some Y) v:=TW (t);have ycb: ∀ {X Y Z v},cellsOf (tri (base O) (h.length+2) (h.length+4) (h.length+5) X Y Z) (h.length+4) v=qx (some Y) v:=λ{X Y Z v}=>by have:=zcb (X:=X) (Y:=Y) (Z:=Z) (v:=v) (l:= []);simpa only[lan] using this
  have zcc: ∀ {X Y Z v l},cellsOf (tri (base O) (h.length+2) (h.length+4) (h.length+5) X Y Z++l) (h.length+5) v=qx (some Z) v:=TX (t);have ycc: ∀ {X Y Z v},cellsOf (tri (base O) (h.length+2) (h.length+4) (h.length+5) X Y Z) (h.length+5) v=qx (some Z) v:=λ{X Y Z v}=>by have:=zcc (X:=X) (Y:=Y) (Z:=Z) (v:=v) (l:= []);simpa only[lan] using this
  have zla: ∀ {X Y Z v l},qF (tri (base O) (h.length+2) (h.length+4) (h.length+5) X Y Z++l) (h.length+2) v=qI (some X) v:=TY (t);have yla: ∀ {X Y Z v},qF (tri (base O) (h.length+2) (h.length+4) (h.length+5) X Y Z) (h.length+2) v=qI (some X) v:=λ{X Y Z v}=>by have:=zla (X:=X) (Y:=Y) (Z:=Z) (v:=v) (l:= []);simpa only[lan] using this
  have zlb: ∀ {X Y Z v l},qF (tri (base O) (h.length+2) (h.length+4) (h.length+5) X Y Z++l) (h.length+4) v=qI (some Y) v:=TZ (t);have ylb: ∀ {X Y Z v},qF (tri (base O) (h.length+2) (h.length+4) (h.length+5) X Y Z) (h.length+4) v=qI (some Y) v:=λ{X Y Z v}=>by have:=zlb (X:=X) (Y:=Y) (Z:=Z) (v:=v) (l:= []);simpa only[lan] using this
  have zlc: ∀ {X Y Z v l},qF (tri (base O) (h.length+2) (h.length+4) (h.length+5) X Y Z++l) (h.length+5) v=qI (some Z) v:=T0 (t);have ylc: ∀ {X Y Z v},qF (tri (base O) (h.length+2) (h.length+4) (h.length+5) X Y Z) (h.length+5) v=qI (some Z) v:=λ{X Y Z v}=>by have:=zlc (X:=X) (Y:=Y) (Z:=Z) (v:=v) (l:= []);simpa only[lan] using this
  have hrl:=qds s;have hor:r.out.length=(Tn s).length:=by rw[n1]
  have k1:((1024:Int)<r.out.length)=False:=wm;have hcE:=λh=>qDr (Tn s) h om
  unfold brO brX brY;rw[n1];rw[n1]at k1;have hL:=jI (Tn s);have hb64:=Um (L:=Tn s);have hTE:qfo s=if qsb (Tn s)=true then 4 else 0:=rfl
  have hTL:qfp s=if qfo s=0 then qaZ s else []:=rfl
  cases hB:qsb (Tn s)with
  |true=>
   rw[hB]at hTE hcE;rw[ipo rfl]at hTE;rw[hTE,ine (by decide)]at hTL;rw[hTE,hTL];simp (disch:=omega) only[yca,ylb,ql,ze,k1,go_sem];refine cG (λ_=>ACalls.borrow (r:= .bool true) ((hcE []).le ?g1 (qi)) rfl) (λ_=>by exact flk) ?_
   case g1=>
    simp only[List.map_cons,List.map_nil,go_sem,if_true];rw[ygb];exact⟨qb7 rfl,qi,trivial⟩
   simp (disch:=omega) only[yca,ql,go_sem]
   repeat' first|with_reducible apply aiA
   ·rw[eT];simp only[go_sem]
   ·rw[eT];simp only[go_sem];refine qbM rfl ⟨trivial,trivial,trivial⟩ ⟨rfl,rfl⟩ ?_;simp only[go_sem];exact VLe.tup ⟨qW,qi,trivial⟩
  |false=>
   rw[hB]at hTE hcE;rw[ine (by simp)]at hTE;rw[hTE,ipo rfl]at hTL;rw[hTE,hTL];simp (disch:=omega) only[yca,ylb,ql,ze,k1,go_sem];refine cG (λ_=>ACalls.borrow (r:= .bool false) ((hcE []).le ?g2 (qi)) rfl) (λ_=>by exact flk) ?_
   case g2=>
    simp only[List.map_cons,List.map_nil,go_sem,if_true];rw[ygb];exact⟨qb7 rfl,qi,trivial⟩
   simp (disch:=omega) only[yca,ql,go_sem];refine qv (qBD (Tn s) (h.length+4) r.vo _ ygb (qfq s) (hb64.1 hB) om) (by exact flk) ?_;simp (disch:=omega) only[ysb,go_sem]
   repeat' first|with_reducible apply aiA|exact clz|fail
   rw[eT];refine qbM rfl ⟨trivial,trivial,trivial⟩ ⟨rfl,rfl⟩ ?_;simp only[go_sem];exact VLe.tup ⟨qb7 (by simp[qaZ]),qi,trivial⟩
 ·intro e hh hf;exact hf.elim
end RC
end
section
open Go Go.Proofs AF
def qeZ:List Nat:= [182]
def qmw:C:=
 (vU [ON 2 (.nilo 0 1 9) [],vO 3 0] ((vU [MV 7 0,O1 8 (.call 181 true) 7,MV 4 8] (vU [MV 9 4,vP 10 .neq 9 0] (vV 10 (vX [MV 11 4,ON 2 (.nilo 0 1 9) [],MV 3 11])))).seq ((vU [MV
 12 0,BC 13 .eql 12 (.str [])] (vV 13 (vX [ON 2 (.nilo 0 1 9) [],vO 3 0]))).seq (vU [⟨some 15,none,.build [.str [],i6 0] [],[]⟩,MV 16 0,⟨some 17,none,.build [i6 0,.str [],i6
 0,.nl] [(0,1),(1,1)],[.c (i6 1),.t 16]⟩,⟨some 18,none,.bslc 1 4 1 198 [i6 0,.str [],i6 0,.nl] [(0,4)],[.t 17]⟩,ON 19 (.call 182 false) [.t 15,.t 18,.c .nl],MV 14 19,O1 20 (.ext
 0) 14,O1 21 (.ext 1) 14,MV 5 20,MV 6 21] (vX [MV 22 5,O1 23 (.call 91 true) 22,MV 24 6,MV 2 23,MV 3 24])))))
theorem qi8:qM Tryz.prog 132 25 2 [RV.tmp 2,RV.tmp 3] qmw:=fi Tryz.f132 [2,18] qeZ []
def qu1:C:=
 (vU [ON 2 (.nilo 0 6 92) []] (vU [⟨some 6,none,.build [.str [],i6 0] [],[]⟩,MV 7 0,⟨some 8,none,.build [i6 0,.str [],i6 0,.nl] [(0,1),(1,1)],[.c (i6 1),.t 7]⟩,⟨some 9,none,.bslc
 1 4 1 198 [i6 0,.str [],i6 0,.nl] [(0,4)],[.t 8]⟩,ON 10 (.call 182 false) [.t 6,.t 9,.c .nl],MV 5 10,O1 11 (.ext 0) 5,O1 12 (.ext 1) 5,MV 3 11,MV 4 12] (vX [MV 13 3,MV 2 13])))
theorem qwO:qM Tryz.prog 139 14 2 [RV.tmp 2] qu1:=fi Tryz.f139 [2,9] qeZ []
end
section
open Go Go.Proofs AF
def jY:List Nat:= []
def qa7:C:=
 (vU [O1 3 (.box 0 26) 0,O1 5 (.box 1 43) 2,vO 6 0,vO 7 0] ((C.block 0 (vU [vN 15 0 5,LD 16 15,vP 17 .lss 16 1,MV 18 17,v7 19 18 0 5,v8 20 18 19,vT 21 18 (.bin .gtr) 20 (i6 3),PT
 22 18 21,MV 14 22] (C.cond (.t 14) (vX [vO 6 0,vO 7 8]) (vU [vN 24 3 5,LD 25 24,BC 26 .neq 25 (.str []),MV 27 26,P1 28 27 true (.fldA 0) 5,P1 29 27 true (.load none) 28,PC 30
 27 true (.bin .neq) 29 (i6 2),PF 31 27 30,MV 23 31] (vV 23 (vX [vO 6 0,vO 7 1])))))).seq (vU [vN 32 1 3,LD 33 32,vN 34 1 5,LD 35 34,O2 36 (.call 22 true) 33 35,MV 8 36] ((vU
 [MV 37 8,vP 38 .lss 37 0] (vV 38 (vX [vO 6 0,vO 7 6]))).seq (vU [O1 40 (.load (some 4)) 3,MV 41 8,vN 42 2 5,LD 43 42,ON 44 (.call 131 true) [.t 40,.t 41,.t 43],MV 39 44,O1 45
 (.ext 0) 39,O1 46 (.ext 1) 39,MV 9 45,MV 10 46] ((vU [MV 47 10,vP 48 .neq 47 0] (vV 48 (vX [vO 6 0,vO 7 6]))).seq (vU [MV 50 1,MV 51 9,O2 52 (.call 71 true) 50 51,MV 49 52,O1
 53 (.ext 0) 49,O1 54 (.ext 1) 49,MV 11 53,MV 10 54] ((vU [MV 55 10,vP 56 .neq 55 0,MV 57 56,vS 58 57 11,vT 59 57 (.bin .lss) 58 (i6 0),PT 60 57 59] (vV 60 (vX [vO 6 0,vO 7
 20]))).seq ((vU [vN 61 0 5,LD 62 61,vP 63 .eql 62 2] (vV 63 (vU [vN 65 3 5,LD 66 65,O1 67 (.call 132 true) 66,MV 64 67,O1 68 (.ext 0) 64,O1 69 (.ext 1) 64,MV 12 68,MV 13 69]
 ((vU [MV 70 13,vP 71 .neq 70 0] (vV 71 (vX [MV 72 13,vO 6 0,MV 7 72]))).seq (vU [MV 73 12,O1 74 .len 73,vP 75 .eql 74 0] (vV 75 (vX [vO 6 0,vO 7 5]))))))).seq (vX [MV 76 11,MV
 6 76,vO 7 0]))))))))))
theorem ll:qM Tryz.prog 76 77 2 [RV.tmp 6,RV.tmp 7] qa7:=fi Tryz.f76 [3,5] jY []
def qAu:C:=
 (vU [O1 3 (.box 0 26) 0,ON 6 (.nilo 1 1 3) [],vO 7 0] ((vU [MV 13 2,O1 14 .len 13,vP 15 .gtr 14 256] (vV 15 (vX [ON 6 (.nilo 1 1 3) [],vO 7 4]))).seq (vU [ON 8 (.nilo 2 1 3) []]
 ((vU [MV 16 2,O1 17 .len 16,vO 18 0] (C.block 0 (vU [BI 19 .lss 18 17] ((vW 19 0).seq ((C.block 1 (vU [O2 20 (.idxA 4) 16 18,O1 21 (.load (some 4)) 20,⟨some 10,none,.alloc 3 43
 [i6 0,.str [],i6 0,.str []],[]⟩,ST 4 10 21] (vU [O1 23 (.load (some 4)) 3,MV 24 1,O1 25 (.load (some 4)) 10,ON 26 (.call 76 true) [.t 23,.t 24,.t 25],MV 22 26,O1 27 (.ext 0)
 22,O1 28 (.ext 1) 22,MV 11 27,MV 12 28] ((vU [MV 29 12,vP 30 .neq 29 0] (vV 30 (vX [MV 31 12,ON 6 (.nilo 1 1 3) [],MV 7 31]))).seq (vY [MV 32 8,MV 33 11,⟨some 34,none,.bslc 4 1
 1 3 [i6 0] [(0,1)],[.t 33]⟩,O2 35 (.app 5 1 3 8) 32 34,MV 8 35]))))).seq (vY [vP 36 .add 18 1,MV 18 36])))).loop)).seq (vX [MV 37 8,MV 6 37,vO 7 0])))))
theorem qx1:qM Tryz.prog 78 38 6 [RV.tmp 6,RV.tmp 7] qAu:=fi Tryz.f78 [3,6,8,10,34,35] jY []
def qv4:C:=
 (vU [MC 4 (.bool false)] ((vU [MV 5 0,O1 6 (.call 134 true) 5] (vV 6 (vX [MV 7 1,O1 8 (.call 134 true) 7,O1 9 (.un UnOp.not) 8,MV 10 9,MG 11 10 true 1,PC 12 10 true (.bin .neq)
 11 (.str [39]),PF 13 10 12,MV 4 13]))).seq (vX [MC 4 (.bool true)])))
theorem qni:qM Tryz.prog 81 14 0 [RV.tmp 4] qv4:=fi Tryz.f81 [] jY []
def qCh:C:=
 (vU [O1 4 (.box 0 26) 0,O1 5 (.box 1 3) 1,O1 6 (.box 2 3) 2,O1 7 (.box 3 3) 3,MC 8 .nilfn] (vX [ON 9 (.mkfn (Fn.func 135) 0) [.t 5,.t 6,.t 4,.t 7],MV 8 9]))
theorem qBb:qM Tryz.prog 83 10 4 [RV.tmp 8] qCh:=fi Tryz.f83 [4,5,6,7] jY []
def quX:C:=
 (vU [LD 8 1,MV 6 8] (C.block 0 ((vU [MV 9 6,LD 10 2,BI 11 .lss 9 10] (vW 11 0)).seq ((C.block 1 (vU [vN 14 3 3,LD 15 14,MV 16 6,O2 17 (.idxA 1) 15 16,LD 18 17,LD 19 4,O2 20
 (.idxA 1) 18 19,LD 21 20,MV 7 21] (vU [MV 22 7,vP 23 .geq 22 0,MV 24 23,MG 25 24 true 0,P1 26 24 true (.fldA 2) 3,P1 27 24 true (.load none) 26,P1 28 24 true (.load none) 4,P2
 29 24 true (.idxA 1) 27 28,P1 30 24 true (.load none) 29,MG 31 24 true 7,P2 32 24 true (.idxA 6) 30 31,P1 33 24 true (.load (some 6)) 32,MG 34 24 true 6,⟨some 35,some
 (24,true),.build [.str [],.str [],.str [],i6 0,i6 0,.str [],i6 0] [(0,6),(6,1)],[.t 33,.t 34]⟩,P2 36 24 true .callv 25 35,P1 37 24 true (.un UnOp.not) 36,PF 38 24 37] (vV 38
 C.ret)))).seq (vZ 12 6))).loop))
theorem qwK:qM Tryz.prog 135 39 0 [] quX:=fi Tryz.f135 [] jY []
def qCi:C:=
 (vU [⟨some 0,none,.alloc 0 128 [.nilfn,.nilfn,.nilfn,.nilfn],[]⟩] (vX [⟨some 1,none,.build [.nilfn,.nilfn,.nilfn,.nilfn] [(1,1),(2,1),(3,1)],[.c (.fn (Fn.func 136) [] []),.c
 (.fn (Fn.func 138) [] []),.c (.fn (Fn.func 140) [] [])]⟩,ST 4 0 1]))
theorem qBc:qM Tryz.prog 84 2 1 [RV.cell 0 (some 4)] qCi:=fi Tryz.f84 [0] jY []
def quY:C:=
 (vU [O1 3 (.box 0 26) 0,O1 4 (.box 1 64) 1,O1 5 (.box 2 43) 2,ON 6 (.nilo 3 7 120) []] (vX [O1 7 (.load (some 4)) 3,vN 8 0 4,LD 9 8,vN 10 1 4,LD 11 10,vN 12 1 3,LD 13 12,vN 14 1
 5,LD 15 14,O2 16 (.call 22 true) 13 15,ON 17 (.call 83 true) [.t 7,.t 9,.t 11,.t 16],O1 18 (.call 137 true) 17,MV 6 18]))
theorem qwL:qM Tryz.prog 136 19 4 [RV.tmp 6] quY:=fi Tryz.f136 [3,4,5,6] jY []
def qu0:C:=
 (vU [O1 3 (.box 0 26) 0,O1 4 (.box 1 64) 1,O1 5 (.box 2 43) 2,ON 6 (.nilo 3 7 120) []] (vU [ON 7 (.nilo 4 7 120) []] ((vU [vN 10 3 5,LD 11 10,O1 12 (.call 139 true) 11,O1 13
 .len 12,vO 14 0] (C.block 0 (vU [BI 15 .lss 14 13] ((vW 15 0).seq ((C.block 1 (vU [O2 16 (.idxA 6) 12 14,O1 17 (.load (some 6)) 16,⟨some 9,none,.alloc 5 92 [.str [],.str
 [],.str [],i6 0,i6 0,.str []],[]⟩,ST 6 9 17] (vU [vN 18 4 9,LD 19 18,vP 20 .andNot 19 4,vN 21 4 9,ST 1 21 20] (vU [vN 22 5 9,⟨none,none,.store 1,[.t 22,.c (.str [])]⟩] (vY [MV
 23 7,O1 24 (.load (some 6)) 9,vN 25 0 4,LD 26 25,⟨some 27,none,.build [.str [],.str [],.str [],i6 0,i6 0,.str [],i6 0] [(0,6),(6,1)],[.t 24,.t 26]⟩,⟨some 28,none,.bslc 6 7 1
 120 [.str [],.str [],.str [],i6 0,i6 0,.str [],i6 0] [(0,7)],[.t 27]⟩,O2 29 (.app 7 7 120 88) 23 28,MV 7 29]))))).seq (vY [vP 30 .add 14 1,MV 14 30])))).loop)).seq (vX [MV 31
 7,MV 6 31]))))
theorem qwN:qM Tryz.prog 138 32 8 [RV.tmp 6] qu0:=fi Tryz.f138 [3,4,5,6,7,9,28,29] jY []
def qu2:C:=
 (vU [O1 3 (.box 0 26) 0,O1 4 (.box 1 64) 1,O1 5 (.box 2 43) 2,ON 6 (.nilo 3 7 120) []] (vX [ON 6 (.nilo 3 7 120) []]))
theorem qwP:qM Tryz.prog 140 7 4 [RV.tmp 6] qu2:=fi Tryz.f140 [3,4,5,6] jY []
def quZ:C:=
 (vU [ON 2 (.nilo 0 7 120) []] (vX [MV 3 0,ON 4 (.call 188 true) [.c .nl,.t 3],MV 2 4]))
theorem qwM:qM Tryz.prog 137 5 1 [RV.tmp 2] quZ:=fi Tryz.f137 [2] jY []
def qmv:C:=
 (vU [O1 3 (.box 0 26) 0,O1 4 (.box 1 3) 1,O1 5 (.box 2 3) 2,vO 6 0,vO 7 0] ((vU [O1 8 (.load (some 4)) 3,O1 9 (.call 67 true) 8,vP 10 .neq 9 0] (vV 10 (vX [vO 6 0,vO 7 1]))).seq
 ((vU [LD 11 4,vP 12 .lss 11 0,MV 13 12,v8 14 13 4,v7 15 13 1 3,v8 16 13 15,vQ 17 13 .len 16,vR 18 13 (.bin .geq) 14 17,PT 19 13 18,MV 20 19,v8 21 20 5,vT 22 20 (.bin .lss) 21
 (i6 0),PT 23 20 22,MV 24 23,v8 25 24 5,v7 26 24 2 3,v8 27 24 26,v8 28 24 4,vR 29 24 (.idxA 1) 27 28,v8 30 24 29,vQ 31 24 .len 30,vR 32 24 (.bin .geq) 25 31,PT 33 24 32] (vV 33
 (vX [vO 6 0,vO 7 2]))).seq (vX [vN 34 3 3,LD 35 34,O2 36 (.mkfn (Fn.func 180) 0) 4 5,O2 37 (.call 179 true) 35 36,MV 6 37,vO 7 0]))))
theorem qi7:qM Tryz.prog 131 38 3 [RV.tmp 6,RV.tmp 7] qmv:=fi Tryz.f131 [3,4,5] jY []
def qvh:C:=
 (vU [MC 4 (.bool false)] (vX [MV 5 0,LD 6 1,O2 7 (.idxA 1) 5 6,LD 8 7,LD 9 2,BI 10 .eql 8 9,MV 4 10]))
theorem qw7:qM Tryz.prog 180 11 0 [RV.tmp 4] qvh:=fi Tryz.f180 [] jY []
end
section
open Go Go.Proofs AF HY LN
namespace AF
theorem ACalls.frzd{P:Program}{f:FuncId}{args:wi}{h h':wh}{r:AV}(ks:List Nat)(hs:Su ks h=true)(hc:ACalls P f (args.map (frz (λk=>ks.contains k) h 8)) (qaU ks h) r h'):ACalls P f args h r h':=by
 refine⟨hc.1,λw σ xs H hv=> ?_⟩;obtain⟨σ1,g1,g2,g3,g4⟩:=qaA ks H hs;have hv1:VRs w σ1 (args.map (frz (λk=>ks.contains k) h 8)) xs:=⟨by rw[hv.1];simp,λi c x hc hx=>by
  rw[List.getElem?_map,Option.map_eq_some_iff]at hc;obtain⟨c0,hc,rfl⟩:=hc
  exact qeX H (λb hb=>(g4 b hb).elim λj ⟨o,h1,h2,h3⟩=>⟨j,o,by simpa using h1,h2,h3⟩) (λj o hj ho=>g3 j o (by simpa using hj) ho) 8 (hv.2 i c0 x hc hx)⟩
 refine (hc.2 w σ1 xs g1 hv1).mono ?_;rintro e w' ⟨v,σ',rfl,k1,k2,k3⟩;exact⟨v,σ',rfl,k1,k2,g2.trans k3⟩
end AF
namespace RC
def qlv(b:List Tk):List Str:=b.map Tk.text
theorem qo3(s:Str):(qfp s).length<=s.length:=by
 unfold qfp;split
 ·exact qck s
 ·exact nzl _
theorem qD7(b:List Tk)(h:wh)(hn:b.length<=1000000):ACalls Tryz.prog 91 [zT b] h (strs (qlv b)) h:=by
 refine acO qBh ?_;simp (disch:=omega) only[qCn,zT,go_sem];refine qu (T:=λs:Nat×Nat×AObj×AObj=>zf 19 [(6,zT b),(7,.int .i64 b.length),(8,.int .i64 s.1),(3,.osl (h.length+1) s.2.1 1 0 s.1)])
  (H:=λs=>h++ [.emp 1,qZ s.2.1 9 (jo (qlv (b.take s.1))),s.2.2.1,s.2.2.2,.emp 0])
  (inv:=λs=>s.1<=b.length∧qJ [s.2.2.1] 0=true∧qJ [s.2.2.2] 0=true) (m:=λs=>b.length-s.1) (0,1,.emp 0,.emp 0) ⟨nzl _,rfl,rfl⟩ (Wk.temps ?_) ?_
 ·(simp only[zT,go_sem,qg,qc,qb,qf];try exact we)
 rintro⟨i,v,O1,O2⟩ ⟨i1,i2,i3⟩ K hK;simp only at i1 i2 i3 hK;have i2': ∀m,qJ (O1::m) 0=true:=λ_=>i2
 have i3': ∀m,qJ (O2::m) 0=true:=λ_=>i3
 have eL:(qlv (b.take i)).length=i:=by unfold qlv;rw[List.length_map,List.length_take];omega
 by_cases hi:i<b.length
 ·have k1:((i:Int)<b.length)=True:=wj;have hS:qlv (b.take (i+1))=qlv (b.take i)++ [(b.getD i default).text]:=by
   unfold qlv;rw[List.take_add_one,zn hi,gdqA,zn hi,List.map_append];rfl
  obtain⟨L,hL⟩:=wg (qlv (b.take i))
  rw[<-hL]at hS eL ⊢;obtain⟨w,hw⟩:=wg (b.getD i default)
  have ew:=hw.symm;rw[ew]at hS;have eC:=jH L;have eTk:List.take i (jo L)=jo L:=ltl om;simp (disch:=omega) only[zT,tkC,k1,ew,i2',i3',eC,eL,eTk,Nat.mul_one,go_sem]
  repeat' first|with_reducible apply aiA|exact clz|fail
  have eA:jo L++ [AV.str w.text]=jo (L++ [w.text]):=by simp[jo]
  have eD:(AV.str w.text::List.drop 1 (zQ [AV.str []] 1))= [AV.str w.text]:=rfl;rw[eA,eD];refine hK _ _ (i+1,v+1,.mem (qn (some O1)+1) 92 (tkC w),.mem (qn (some O2)+1) 9 [.str w.text]) ⟨hi,rfl,rfl⟩ (by simp only;omega) ?_;simp only[hS,tkC];refine Wk.temps ?_
  (simp only[zT,tkC,go_sem,qg,qc,qb,qf];try exact we)
 have k1:((i:Int)<b.length)=False:=wm;obtain rfl:i=b.length:=by omega
 rw[List.take_length]at eL ⊢;simp (disch:=omega) only[k1,go_sem]
 repeat' first|(apply qa;exact rvk;simp only[go_sem])
 exact qaf (λ_=>rfl) eL.symm
theorem qzs(s:Str)(h:wh)(hl:s.length<=1000)(hs:s≠ [])(hc:zM s=0)(hg:jh h frmN frmC):ACalls Tryz.prog 182 [.agg [.str [],.int .i64 0],.osl (h.length+1) 1 4 0 1,.nl] (h++ [.emp 1,.mem 1 198 (.int .i64 1:: .str s:: .int .i64 0:: .nl::List.drop 4 (zQ [.int .i64 0,.str [],.int .i64 0,.nl] 1))]) (.tup [zT (qfp s),.int .i64 (qfo s)]) (h++ [.emp 1,.emp 2]):=by
 have c1:=qBT s (h++ [.emp 1,.emp 2]) hl hs hc hg.app;refine ACalls.frzd [h.length+1] ?s1 ?s2
 case s1=>simp only[Su,go_sem]
 case s2=>
  simp only[List.map_cons,List.map_nil,qaU,go_sem];have e: [h.length+1].contains (h.length+1)=true:=by simp
  simp only[e,if_true];refine c1.le ⟨qi,?_,qi,trivial⟩ (qi);unfold jZ;refine VLe.sl_eq rfl (λi hi=> ?_);obtain rfl:i=0:=by omega
  rfl
theorem qCB(s:Str)(h:wh)(hl:s.length<=1000)(hg:jh h frmN frmC):ACalls Tryz.prog 132 [.str s] h (.tup [strs (if zM s≠0 then [] else qlv (qfp s)),.int .i64 (qha s)]) h:=by
 have c0: ∀h,ACalls Tryz.prog 181 [.str s] h (.int .i64 (zM s)) h:=λh=>qBO s h om
 unfold qha
 by_cases g:zM s=0
 case neg=>
  have k1:(zM s=0)=False:=eqf g;rw[ipo g,ipo g];refine acO qi8 ?_;simp (disch:=omega) only[qmw,go_sem]
  repeat' first|(refine cA (c0 _) flk ?_;simp (disch:=omega) only[k1,go_sem])|(apply qa;exact rvk;simp only[go_sem])
  exact VLe.tup ⟨qW,qi,trivial⟩
 rw[ine (by simpa using g),ine (by simpa using g)];rw[g]at c0
 by_cases hs:s= []
 ·subst hs;refine acO qi8 ?_;simp (disch:=omega) only[qmw,go_sem]
  repeat' first|(refine cA (c0 _) flk ?_;simp (disch:=omega) only[go_sem])|(apply qa;exact rvk;simp only[go_sem])
  exact VLe.tup ⟨qW,qi,trivial⟩
 have k2:(s= [])=False:=eqf hs;have c2:=λh=>qD7 (qfp s) h (Nat.le_trans (qo3 s) om)
 refine acO qi8 ?_;simp (disch:=omega) only[qmw,go_sem]
 repeat' first|(refine cA (c0 _) flk ?_;simp (disch:=omega) only[k2,go_sem])
 refine qv (qzs s h hl hs g hg) (by exact flk) ?_;simp (disch:=omega) only[go_sem]
 repeat' first|(refine cA (c2 _) flk ?_;simp (disch:=omega) only[go_sem])|exact wa|with_reducible apply aiA|exact clz|fail
theorem qCY(s:Str)(h:wh)(hl:s.length<=1000)(hs:s≠ [])(hc:zM s=0)(hg:jh h frmN frmC):ACalls Tryz.prog 139 [.str s] h (zT (qfp s)) h:=by
 refine acO qwO ?_;simp (disch:=omega) only[qu1,go_sem];refine qv (qzs s h hl hs hc hg) (by exact flk) ?_;simp (disch:=omega) only[go_sem]
 repeat' first|exact wa|with_reducible apply aiA|exact clz|fail
end RC
end
section
open Go Go.Proofs AF HY LN
namespace RC
theorem kX{x:Co}{l:List Un}(h:UG x l=true){k:Nat}(hk:k<l.length):(l.getD k default).frm=frN l k∧(l.getD k default).to=toN l k∧frN l k<toN l k∧toN l k<=x.col.length∧(l.getD k default).rds=qb2 x (frN l k) (toN l k):=by
 have ho:=qaI h;have hm:l.getD k default∈l:=by
  rw[gdqA,zn hk];exact List.getElem_mem hk
 obtain⟨h1,h2,h3,h4⟩:=ho.rg _ hm;unfold frN toN;refine⟨om,om,om,om,h4⟩
theorem qtv{x:Co}{l:List Un}(h:UG x l=true){j k:Nat}(hj:j<k)(hk:k<l.length):toN l j<frN l k:=by
 have ho:=qaI h;have hp:=List.pairwise_iff_getElem.1 ho.pw j k om hk hj;have e: ∀i (hi:i<l.length),l.getD i default=l[i]:=λi hi=>by rw[gdqA,zn hi];rfl
 obtain⟨a1,a2,_⟩:=kX h (show j<l.length by omega);obtain⟨b1,b2,_⟩:=kX h hk;rw[e j om]at a1 a2;rw[e k hk]at b1 b2;omega
theorem qdb{x:Co}{l:List Un}(h:UG x l=true){k:Nat}(hk:k<l.length):jb l k<=frN l k:=by
 unfold jb;split
 ·exact nzl _
 ·exact Nat.le_of_lt (qtv h om hk)
theorem qaF{x:Co}{l:List Un}(h:UG x l=true){k:Nat}(hk:k<=l.length):jb l k<=x.col.length:=by
 unfold jb;split
 ·exact nzl _
 ·exact (kX h (show k-1<l.length by omega)).2.2.2.1
theorem qbY(l:List Un)(k:Nat):jb l (k+1)=toN l k:=by unfold jb;rw[ine om,Nat.add_sub_cancel]
theorem qrI{x:Co}{l:List Un}(h:UG x l=true){k c:Nat}(hk:k<l.length)(h1:frN l k<=c)(h2:c<toN l k):fnU l (c:Int)=k:=by
 obtain⟨a1,a2,_⟩:=kX h hk;exact qx4 h hk om om
theorem qpV{x:Co}{l:List Un}(h:UG x l=true){k c:Nat}(hk:k<=l.length)(h1:jb l k<=c)(h2:k<l.length->c<frN l k):fnU l (c:Int)= -1:=by
 obtain⟨g1,g2⟩:=qav l (c:Int)
 by_cases hn:fnU l (c:Int)<0
 ·omega
 exfalso;obtain⟨j,hj⟩: ∃j:Nat,fnU l (c:Int)=j:=⟨(fnU l (c:Int)).toNat,om⟩
 obtain⟨j1,j2,j3⟩:=qpU hj;obtain⟨a1,a2,_⟩:=kX h j1;rcases Nat.lt_or_ge j k with e|e
 ·have:toN l j<=jb l k:=by
   unfold jb;rw[ine om];rcases Nat.lt_or_ge j (k-1)with e2|e2
   ·have:=qtv h e2 om
    obtain⟨_,_,b3,_⟩:=kX h (show k-1<l.length by omega);omega
   ·have:j=k-1:=by omega
    subst this;exact nlr _
  omega
 ·have h3:=h2 om;rcases Nat.lt_or_ge k j with e2|e2
  ·have:=qtv h e2 j1
   obtain⟨_,_,b3,_⟩:=kX h (show k<l.length by omega);omega
  ·have:j=k:=by omega
   subst this;omega
def rwc(x:Co)(l:List Un)(d:List Dc)(s:Nat)(c:Nat):List Rw:=
 if fnU l (c:Int)<0 then [⟨pcT x s c,-1,-1⟩] else if (l.getD (fnU l (c:Int)).toNat default).frm=c then rwU x l d s (fnU l (c:Int)).toNat else []
def rwS(x:Co)(l:List Un)(d:List Dc)(s:Nat):Nat->List Rw
 |0=> []
 |c+1=>rwS x l d s c++rwc x l d s c
theorem qiF{x:Co}{l:List Un}(hc:cvA x l=true)(ho:CoOk x){s c:Nat}(hs:s<x.sig.length)(h:c<x.col.length)(hf:fnU l (c:Int)<0):pcB x s c=true∧clT x c s=clT x c 0∧clT x c s≠none:=by
 unfold cvA at hc;rw[Bool.not_eq_true',qt]at hc;have h1:=hc c h;rw[Bool.and_eq_false_iff,Bool.not_eq_false',Bool.not_eq_false']at h1;rcases h1 with h1|h1
 ·exfalso;unfold cvB at h1;obtain⟨i,hi,hv⟩:=qR.1 h1;rw[Bool.and_eq_true,decide_eq_true_iff,decide_eq_true_iff]at hv;exact qjf hf hi hv
 ·unfold cmB at h1;rw[Bool.not_eq_true',qt]at h1;have h2:=h1 s hs;rw[Bool.or_eq_false_iff,Bool.not_eq_false',decide_eq_false_iff_not,decide_eq_true_iff]at h2;refine⟨?_,h2.2,h2.1⟩;have h3:=h2.1;unfold clT at h3;unfold pcB
  by_cases g:(x.col.getD c []).getD s 0<0
  ·rw[ipo g]at h3;exact absurd rfl h3
  ·simpa using g
theorem qoz(x:Co)(s f:Nat):rwC x s f f= []:=by unfold rwC;rw[Nat.sub_self];rfl
theorem qoA{x:Co}{s f t:Nat}(h:f<=t):rwC x s f (t+1)=rwC x s f t++if pcB x s t=true then [⟨pcT x s t,-1,-1⟩] else []:=by
 unfold rwC;rw[show t+1-f=(t-f)+1 by omega];show rwM (spk x s f (t-f)++if pcB x s (f+(t-f))=true then [pcT x s (f+(t-f))] else []) (-1) (-1)=_;rw[show f+(t-f)=t by omega];unfold rwM;rw[List.map_append];congr 1;split<;>rfl
theorem qs6{x:Co}{l:List Un}(d:List Dc){s:Nat}(h:UG x l=true)(hc:cvA x l=true)(ho:CoOk x)(hs:s<x.sig.length):
  ∀k,k<=l.length-> ∀m,jb l k<=m->m<=x.col.length->(k<l.length->m<=frN l k)->rwS x l d s m=rwL x l d s k++rwC x s (jb l k) m:=by
 have com: ∀k,k<=l.length-> ∀i,jb l k+i<=x.col.length->(k<l.length->jb l k+i<=frN l k)->rwS x l d s (jb l k)=rwL x l d s k->rwS x l d s (jb l k+i)=rwL x l d s k++rwC x s (jb l k) (jb l k+i):=by
  intro k hk i
  induction i with
  |zero=>
   intro h1 h2 h3;rw[Nat.add_zero,qoz,lan,h3]
  |succ i ih=>
   intro h1 h2 h3;have e:=ih om (λhk=>by have:=h2 hk;omega) h3;show rwS x l d s (jb l k+i)++rwc x l d s (jb l k+i)=_;have f:=qpV h hk (c:=jb l k+i) (Nat.le_add_right _ _) (λhk=>by have:=h2 hk;omega);have hp:=qiF hc ho hs (c:=jb l k+i) om om;rw[e,<-Nat.add_assoc,qoA (Nat.le_add_right _ _),ipo hp.1,List.append_assoc];congr 2;unfold rwc;rw[ipo om]
 have key: ∀k,k<=l.length->rwS x l d s (jb l k)=rwL x l d s k:=by
  intro k
  induction k with
  |zero=>intro _;rfl
  |succ k ih=>
   intro hk;have h1:=ih om;have hpl:=qdb h (show k<l.length by omega);obtain⟨a1,a2,a3,a4,_⟩:=kX h (show k<l.length by omega);have h2:=com k om (frN l k-jb l k) om (λ_=>by omega) h1;rw[show jb l k+(frN l k-jb l k)=frN l k by omega]at h2;have h3: ∀i,frN l k+1+i<=toN l k->rwS x l d s (frN l k+1+i)=rwL x l d s (k+1):=by
    intro i
    induction i with
    |zero=>
     intro _;show rwS x l d s (frN l k)++rwc x l d s (frN l k)=_;have f:=qrI h (show k<l.length by omega) (nlr (frN l k)) a3;unfold rwc;rw[f,ine om,itn,ipo a1,h2];show _=rwL x l d s k++(rwC x s (jb l k) (frN l k)++rwU x l d s k);rw[List.append_assoc]
    |succ i ih2=>
     intro hi;show rwS x l d s (frN l k+1+i)++rwc x l d s (frN l k+1+i)=_;have f:=qrI h (c:=frN l k+1+i) (show k<l.length by omega) om om;rw[ih2 om];unfold rwc;rw[f,ine om,itn,ine (by rw[a1];omega),lan]
   have h4:=h3 (toN l k-(frN l k+1)) om;rw[show frN l k+1+(toN l k-(frN l k+1))=toN l k by omega]at h4;rw[qbY];exact h4
 intro k hk m h1 h2 h3
 have:=com k hk (m-jb l k) om (λhk=>by have:=h3 hk;omega) (key k hk)
 rwa [show jb l k+(m-jb l k)=m by omega]at this
theorem qs5{x:Co}{l:List Un}(d:List Dc){s:Nat}(h:UG x l=true)(hc:cvA x l=true)(ho:CoOk x)(hs:s<x.sig.length):rwS x l d s x.col.length=rwA x l d s:=
 qs6 d h hc ho hs l.length (nlr _) _ (qaF h (nlr _)) (nlr _) (λh=>absurd h (Nat.lt_irrefl _))
theorem qwb{col:List (List Int)}{s t:Nat}: ∀ {n:Nat},t<cnC col s n-> ∃k,k<n∧(col.getD k []).getD s 0≠ -1∧cnC col s k=t:=by
 intro n
 induction n with
 |zero=>intro h;exact absurd h (nnz _)
 |succ n ih=>
  intro h;unfold cnC at h
  by_cases g:t<cnC col s n
  ·obtain⟨k,h1,h2⟩:=ih g;exact⟨k,om,h2⟩
  ·split at h
   ·omega
   ·rename_i g2;exact⟨n,Nat.lt_succ_self n,g2,om⟩
theorem qbH{x:Co}(ho:CoOk x){s:Nat}(hs:s<x.sig.length){t:Int}(h0:0<=t)(ht:t<((x.tok.getD s []).length:Int)):0<=gm x s t∧gm x s t<x.col.length:=by
 obtain⟨k,k1,k2,k3⟩:=qwb (col:=x.col) (s:=s) (t:=t.toNat) (n:=x.col.length) (by rw[ho.ct s hs];omega);unfold gm;rcases zE (λk=>decide ((x.col.getD k []).getD s 0=t)) x.col.length with⟨i,g1,g2,_,g4⟩|⟨g1,g2⟩
 ·rw[g4];omega
 ·have:=g1 k k1
  rcases ho.ce k k1 s hs with e|⟨e,_⟩
  ·exact absurd e k2
  ·rw[decide_eq_false_iff_not]at this;exact absurd (by rw[e,k3];omega) this
theorem qCX(c:List Int)(s:Nat)(t:Int)(h:wh)(hs:s<c.length)(hc:c.length<=1000000000):ACalls Tryz.prog 180 [qy c,.ip [.int .i64 (s:Int)],.ip [.int .i64 t]] h (.bool (decide (c.getD s 0=t))) h:=by
 have k0:(0<=(s:Int))=True:=wj;have k1:((s:Int)<c.length)=True:=wj;refine acO qw7 ?_;simp (disch:=omega) only[qvh,qy,k0,k1,go_sem]
 repeat' first|exact wc|with_reducible apply aiA|exact clz|fail
theorem qDj(col:List (List Int))(s:Nat)(t:Int)(k v k2 v2:Nat)(h:wh)(hk:qr k h=some (.mem v 3 [.int .i64 (s:Int)]))(hk2:qr k2 h=some (.mem v2 3 [.int .i64 t]))(hl:col.length<=1000000000)(hm: ∀i,i<col.length->s<(col.getD i []).length∧(col.getD i []).length<=1000000000):
  ACalls Tryz.prog 179 [qp col,.fn (.func 180) [] [.op k v 0,.op k2 v2 0]] h (.int .i64 (Uh (λi=>decide ((col.getD i []).getD s 0=t)) col.length 0)) h:=by
 have hc:=qG hk;have hc2:=qG hk2;unfold qp;refine qbP qw5 col.length (λj=> [qy (col.getD j [])]) (λj=>qy (col.getD j [])) _ [] [.op k v 0,.op k2 v2 0] _ h (λi _=>⟨rfl,by simp[jU],rfl,rfl,rfl⟩) (λi hi=> ?_) om;refine ACalls.borrow ?_ rfl;have e:([qy (col.getD i [])]++ [AV.op k v 0,AV.op k2 v2 0]).map (rei (λ_=>true) h 8)= [qy (col.getD i []),.ip [.int .i64 (s:Int)],.ip [.int .i64 t]]:=by
  simp only[lca,lna,List.map_cons,List.map_nil,rei_op,if_true,hc,hc2,ipOf_some,List.drop_zero];rfl
 rw[lna,e];exact qCX _ s t _ (hm i hi).1 (hm i hi).2
theorem qAH(x:Co)(s:Nat)(t:Int)(h:wh)(hz:qaN x)(hp:kY SG h)(h1:coE x=0)(hs:s<x.sig.length):ACalls Tryz.prog 131 [.agg (coC x),.int .i64 (s:Int),.int .i64 t] h (.tup [.int .i64 (if 0<=t∧t<((x.tok.getD s []).length:Int) then gm x s t else 0),.int .i64 (if 0<=t∧t<((x.tok.getD s []).length:Int) then 0 else 2)]) h:=by
 have ho:=SU h1;have hsg:=hz.sg;have htl:=hz.tl s;have htn:=ho.tn;have c1:=λl=>coP x (h++l) hz (hp.app l)
 simp only[h1]at c1;have zu: ∀g l,valL g .len [zT l]= .int .i64 l.length:=λ_ _=>rfl
 have zv: ∀g l,okL g .len [zT l]=True:=λ_ _=>eqt trivial
 have k0:((s:Int)<0)=False:=wm;have k1:((x.sig.length:Int)<=s)=False:=wm;have k5:(0<=(s:Int))=True:=wj;have k6:((s:Int)<x.tok.length)=True:=wj
 by_cases g:0<=t∧t<((x.tok.getD s []).length:Int)
 ·rw[ipo g,ipo g];have k2:(t<0)=False:=wm;have k3:(((x.tok.getD s []).length:Int)<=t)=False:=wm;have c2:=qDj x.col s t (h.length+1) 1 (h.length+2) 1 (h++ [.mem 1 26 (coC x),.mem 1 3 [.int .i64 (s:Int)],.mem 1 3 [.int .i64 t]]) (by simp only[go_sem]) (by simp only[go_sem]) hz.cl (λi hi=>⟨by rw[ho.cl i hi];exact hs,hz.ce i⟩);unfold coC at c1 c2;refine acO qi7 ?_;simp (disch:=omega) only[qmv,coC,qm,strs,go_sem]
  repeat' first|((first|refine cA (c1 _) ?_ ?_|refine cA (c2) ?_ ?_);exact flk;simp (disch:=omega) only[k0,k1,k2,k3,k5,k6,zu,zv,go_sem])|exact wa|with_reducible apply aiA|exact clz|fail
 ·rw[ine g,ine g];unfold coC at c1
  by_cases g2:t<0
  ·have k2:(t<0)=True:=wj;refine acO qi7 ?_;simp (disch:=omega) only[qmv,coC,qm,strs,go_sem]
   repeat' first|(refine cA (c1 _) flk ?_;simp (disch:=omega) only[k0,k1,k2,k5,k6,zu,zv,go_sem])|exact wa|with_reducible apply aiA|exact clz|fail
  ·have k2:(t<0)=False:=wm;have k3:(((x.tok.getD s []).length:Int)<=t)=True:=wj;refine acO qi7 ?_;simp (disch:=omega) only[qmv,coC,qm,strs,go_sem]
   repeat' first|(refine cA (c1 _) flk ?_;simp (disch:=omega) only[k0,k1,k2,k3,k5,k6,zu,zv,go_sem])|exact wa|with_reducible apply aiA|exact clz|fail
theorem qDl(b s:Str)(h:wh)(hb:b.length<=1000000000)(hs:s.length<=1000000000):ACalls Tryz.prog 81 [.str b,.str s] h (.bool (qBs b s)) h:=by
 have c1:=λh=>t88 b h hb
 have c2:=λh=>t88 s h hs
 unfold qBs;cases g1:jR b with
 |false=>
  rw[g1]at c1;rw[ine (by decide)];refine acO qni ?_;simp (disch:=omega) only[qv4,go_sem]
  repeat' first|(refine cA (c1 _) flk ?_;simp (disch:=omega) only[go_sem])|exact wc|fail
 |true=>
  rw[g1]at c1;rw[ipo rfl];cases g2:jR s with
  |true=>
   rw[g2]at c2;refine acO qni ?_;simp (disch:=omega) only[qv4,go_sem]
   repeat' first|((first|refine cA (c1 _) ?_ ?_|refine cA (c2 _) ?_ ?_);exact flk;simp (disch:=omega) only[go_sem])|exact wc|fail
  |false=>
   rw[g2]at c2
   by_cases g3:s= [39]
   ·subst g3;refine acO qni ?_;simp (disch:=omega) only[qv4,go_sem]
    repeat' first|((first|refine cA (c1 _) ?_ ?_|refine cA (c2 _) ?_ ?_);exact flk;simp (disch:=omega) only[go_sem])|exact wc|fail
   ·have k3:(s= [39])=False:=eqf g3;rw[dqf g3];refine acO qni ?_;simp (disch:=omega) only[qv4,go_sem]
    repeat' first|((first|refine cA (c1 _) ?_ ?_|refine cA (c2 _) ?_ ?_);exact flk;simp (disch:=omega) only[k3,go_sem])|exact wc|fail
def dpN(x:Co)(l:List Un)(o:Dc):Int:=if qaW x l o=0 then FU x l o else 0
theorem dpP(x:Co)(l:List Un)(o:Dc)(h:wh)(hz:qaN x)(hu:qbx l)(hp:kY SG h)(hg:jh h frmN frmC)(h1:coE x=0)(ht:o.txt.length<=1000):ACalls Tryz.prog 76 [.agg (coC x),zA l,.agg (dcC o)] h (.tup [.int .i64 (dpN x l o),.int .i64 (qaW x l o)]) h:=by
 have ho:=SU h1;unfold dpN;have hE:qaW x l o=(if o.kind<1∨3<o.kind then 8 else if o.txt≠ []∧o.kind≠2 then 1 else if tkB x o=false then 6 else if FU x l o<0 then 20 else cjE o):=rfl
 by_cases g1:o.kind<1
 ·have k1:(o.kind<1)=True:=eqt g1;rw[ipo (.inl g1)]at hE;rw[hE,ine (by decide)];refine acO ll ?_;simp (disch:=omega) only[qa7,coC,dcC,k1,go_sem]
  repeat' first|exact wa|fail
 have k1:(o.kind<1)=False:=eqf g1
 by_cases g2:3<o.kind
 ·have k2:(3<o.kind)=True:=eqt g2;rw[ipo (.inr g2)]at hE;rw[hE,ine (by decide)];refine acO ll ?_;simp (disch:=omega) only[qa7,coC,dcC,k1,k2,go_sem]
  repeat' first|exact wa|fail
 have k2:(3<o.kind)=False:=eqf g2;rw[ine (λe=>e.elim g1 g2)]at hE
 by_cases g3:o.txt≠ []∧o.kind≠2
 ·have k3:(o.txt= [])=False:=eqf g3.1;have k4:(o.kind=2)=False:=eqf g3.2;rw[ipo g3]at hE;rw[hE,ine (by decide)];refine acO ll ?_;simp (disch:=omega) only[qa7,coC,dcC,k1,k2,k3,k4,go_sem]
  repeat' first|exact wa|with_reducible apply aiA|exact clz|fail
 rw[ine g3]at hE;have c1:=λh=>qsa x.sig.length (λj=>x.sig.getD j []) o.sig h hz.sg
 have hS:Uh (λj=>decide (o.sig=x.sig.getD j [])) x.sig.length 0=zR x o.sig:=rfl;simp only[hS]at c1
 by_cases g4:o.kind=2
 ·have k4:(o.kind=2)=True:=eqt g4
  by_cases ge:o.txt= []
  ·have k3:(o.txt= [])=True:=eqt ge;have htk:tkB x o=(decide (0<=zR x o.sig)&&(decide (0<=o.tok)&&decide (o.tok<((x.tok.getD (zR x o.sig).toNat []).length:Int)))):=rfl
   by_cases g5:zR x o.sig<0
   ·have k5:(zR x o.sig<0)=True:=eqt g5;rw[dqf om,Bool.false_and]at htk;rw[ipo htk]at hE;rw[hE,ine (by decide)];unfold strs at*;refine acO ll ?_;simp (disch:=omega) only[qa7,coC,dcC,k1,k2,k3,k4,strs,go_sem]
    repeat' first|(refine cA (c1 _) flk ?_;simp (disch:=omega) only[k5,go_sem])|exact wa|with_reducible apply aiA|exact clz|fail
   obtain⟨S,hSn⟩: ∃S:Nat,zR x o.sig=S:=⟨(zR x o.sig).toNat,om⟩
   have hSl:S<x.sig.length:=by
    rcases zE (λj=>decide (o.sig=x.sig.getD j [])) x.sig.length with⟨i,q1,_,_,q4⟩|⟨_,q2⟩
    ·have e:zR x o.sig=i:=q4;omega
    ·have e:zR x o.sig= -1:=q2;omega
   have k5:((S:Int)<0)=False:=wm;rw[hSn,dqt om,Bool.true_and,itn]at htk;simp only[hSn]at c1;have c2:=λl'=>qAH x S o.tok (h++l') hz (hp.app l') h1 hSl
   by_cases g6:0<=o.tok∧o.tok<((x.tok.getD S []).length:Int)
   case neg=>
    have htk:tkB x o=false:=by rw[htk];simpa using λe=>Int.not_lt.1 λhc=>g6 ⟨e,hc⟩
    rw[ipo htk]at hE;rw[hE,ine (by decide)];simp only[ine g6]at c2;unfold coC at c2;refine acO ll ?_;simp (disch:=omega) only[qa7,coC,dcC,k1,k2,k3,k4,strs,go_sem]
    repeat' first|((first|refine cA (c1 _) ?_ ?_|refine cA (c2 _) ?_ ?_);exact flk;simp (disch:=omega) only[k5,go_sem])|exact wa|(with_reducible first|intro _|apply aiA)|exact clz|fail
   have htk:tkB x o=true:=by rw[htk];simpa using g6
   rw[ine (by rw[htk];decide)]at hE;simp only[ipo g6]at c2;have hpl:FU x l o=fnU l (gm x S o.tok):=by unfold FU;rw[hSn,itn]
   have hcn:=qbH ho hSl g6.1 g6.2;have c3:=λh=>qx5 l (gm x S o.tok) h hu.n
   have e1:fnR l (gm x S o.tok)=FU x l o:=by unfold fnR;rw[ine om,hpl]
   have e2:fnE (gm x S o.tok)=0:=by unfold fnE;rw[ine om]
   rw[e1,e2]at c3;unfold coC at c2
   by_cases g7:FU x l o<0
   ·have k7:(FU x l o<0)=True:=eqt g7;rw[ipo g7]at hE;rw[hE,ine (by decide)];refine acO ll ?_;simp (disch:=omega) only[qa7,coC,dcC,k1,k2,k3,k4,strs,go_sem]
    repeat' first|((first|refine cA (c1 _) ?_ ?_|refine cA (c2 _) ?_ ?_|refine cA (c3 _) ?_ ?_);exact flk;simp (disch:=omega) only[k4,k5,k7,go_sem])|exact wa|with_reducible apply aiA|exact clz|fail
   have k7:(FU x l o<0)=False:=eqf g7;rw[ine g7]at hE;unfold cjE at hE;rw[ipo g4]at hE;have c4:=λl'=>qCB o.txt (h++l') ht hg.app
   by_cases g8:qha o.txt=0
   case neg=>
    have k8:(qha o.txt=0)=False:=eqf g8;rw[ipo g8]at hE;rw[hE,ine g8];refine acO ll ?_;simp (disch:=omega) only[qa7,coC,dcC,k1,k2,k3,k4,strs,go_sem]
    repeat' first|((first|refine cA (c1 _) ?_ ?_|refine cA (c2 _) ?_ ?_|refine cA (c3 _) ?_ ?_|refine cA (c4 _) ?_ ?_);exact flk;simp (disch:=omega) only[k4,k5,k7,k8,strs,go_sem])|exact wa|with_reducible apply aiA|exact clz|fail
   rw[ine (by simpa using g8)]at hE;have g9:zM o.txt=0∧qfo o.txt=0:=by
    unfold qha at g8;split at g8
    ·rename_i q;exact absurd g8 q
    ·rename_i q;exact⟨Classical.not_not.1 q,g8⟩
   have hR:qqk o.txt=qlv (qfp o.txt):=by unfold qqk qfp;rw[ipo g8,ipo g9.2];rfl
   simp only[g8,ine (show¬zM o.txt≠0 by simpa using g9.1),<-hR]at c4;cases hL:qqk o.txt with
   |nil=>
    rw[hL]at hE c4;rw[ipo rfl]at hE;rw[hE,ine (by decide)];refine acO ll ?_;simp (disch:=omega) only[qa7,coC,dcC,k1,k2,k3,k4,strs,go_sem]
    repeat' first|((first|refine cA (c1 _) ?_ ?_|refine cA (c2 _) ?_ ?_|refine cA (c3 _) ?_ ?_|refine cA (c4 _) ?_ ?_);exact flk;simp (disch:=omega) only[k4,k5,k7,strs,go_sem])|(apply qa;exact rvk;simp only[go_sem];first|exact qi|skip)|(with_reducible first|intro _|apply aiA)|exact clz|fail
   |cons a r=>
    rw[hL]at hE c4;rw[ine (by simp)]at hE;rw[hE,ipo rfl];have k9:(((a::r).length:Int)=0)=False:=eqf (by simp;omega);refine acO ll ?_;simp (disch:=omega) only[qa7,coC,dcC,k1,k2,k3,k4,strs,go_sem]
    repeat' first|((first|refine cA (c1 _) ?_ ?_|refine cA (c2 _) ?_ ?_|refine cA (c3 _) ?_ ?_|refine cA (c4 _) ?_ ?_);exact flk;simp (disch:=omega) only[k4,k5,k7,strs,go_sem])|(apply qa;exact rvk;simp only[go_sem];first|exact qi|skip)|(with_reducible first|intro _|apply aiA)|exact clz|fail
  ·have k3:(o.txt= [])=False:=eqf ge;have htk:tkB x o=(decide (0<=zR x o.sig)&&(decide (0<=o.tok)&&decide (o.tok<((x.tok.getD (zR x o.sig).toNat []).length:Int)))):=rfl
   by_cases g5:zR x o.sig<0
   ·have k5:(zR x o.sig<0)=True:=eqt g5;rw[dqf om,Bool.false_and]at htk;rw[ipo htk]at hE;rw[hE,ine (by decide)];unfold strs at*;refine acO ll ?_;simp (disch:=omega) only[qa7,coC,dcC,k1,k2,k3,k4,strs,go_sem]
    repeat' first|(refine cA (c1 _) flk ?_;simp (disch:=omega) only[k5,go_sem])|exact wa|with_reducible apply aiA|exact clz|fail
   obtain⟨S,hSn⟩: ∃S:Nat,zR x o.sig=S:=⟨(zR x o.sig).toNat,om⟩
   have hSl:S<x.sig.length:=by
    rcases zE (λj=>decide (o.sig=x.sig.getD j [])) x.sig.length with⟨i,q1,_,_,q4⟩|⟨_,q2⟩
    ·have e:zR x o.sig=i:=q4;omega
    ·have e:zR x o.sig= -1:=q2;omega
   have k5:((S:Int)<0)=False:=wm;rw[hSn,dqt om,Bool.true_and,itn]at htk;simp only[hSn]at c1;have c2:=λl'=>qAH x S o.tok (h++l') hz (hp.app l') h1 hSl
   by_cases g6:0<=o.tok∧o.tok<((x.tok.getD S []).length:Int)
   case neg=>
    have htk:tkB x o=false:=by rw[htk];simpa using λe=>Int.not_lt.1 λhc=>g6 ⟨e,hc⟩
    rw[ipo htk]at hE;rw[hE,ine (by decide)];simp only[ine g6]at c2;unfold coC at c2;refine acO ll ?_;simp (disch:=omega) only[qa7,coC,dcC,k1,k2,k3,k4,strs,go_sem]
    repeat' first|((first|refine cA (c1 _) ?_ ?_|refine cA (c2 _) ?_ ?_);exact flk;simp (disch:=omega) only[k5,go_sem])|exact wa|(with_reducible first|intro _|apply aiA)|exact clz|fail
   have htk:tkB x o=true:=by rw[htk];simpa using g6
   rw[ine (by rw[htk];decide)]at hE;simp only[ipo g6]at c2;have hpl:FU x l o=fnU l (gm x S o.tok):=by unfold FU;rw[hSn,itn]
   have hcn:=qbH ho hSl g6.1 g6.2;have c3:=λh=>qx5 l (gm x S o.tok) h hu.n
   have e1:fnR l (gm x S o.tok)=FU x l o:=by unfold fnR;rw[ine om,hpl]
   have e2:fnE (gm x S o.tok)=0:=by unfold fnE;rw[ine om]
   rw[e1,e2]at c3;unfold coC at c2
   by_cases g7:FU x l o<0
   ·have k7:(FU x l o<0)=True:=eqt g7;rw[ipo g7]at hE;rw[hE,ine (by decide)];refine acO ll ?_;simp (disch:=omega) only[qa7,coC,dcC,k1,k2,k3,k4,strs,go_sem]
    repeat' first|((first|refine cA (c1 _) ?_ ?_|refine cA (c2 _) ?_ ?_|refine cA (c3 _) ?_ ?_);exact flk;simp (disch:=omega) only[k4,k5,k7,go_sem])|exact wa|with_reducible apply aiA|exact clz|fail
   have k7:(FU x l o<0)=False:=eqf g7;rw[ine g7]at hE;unfold cjE at hE;rw[ipo g4]at hE;have c4:=λl'=>qCB o.txt (h++l') ht hg.app
   by_cases g8:qha o.txt=0
   case neg=>
    have k8:(qha o.txt=0)=False:=eqf g8;rw[ipo g8]at hE;rw[hE,ine g8];refine acO ll ?_;simp (disch:=omega) only[qa7,coC,dcC,k1,k2,k3,k4,strs,go_sem]
    repeat' first|((first|refine cA (c1 _) ?_ ?_|refine cA (c2 _) ?_ ?_|refine cA (c3 _) ?_ ?_|refine cA (c4 _) ?_ ?_);exact flk;simp (disch:=omega) only[k4,k5,k7,k8,strs,go_sem])|exact wa|with_reducible apply aiA|exact clz|fail
   rw[ine (by simpa using g8)]at hE;have g9:zM o.txt=0∧qfo o.txt=0:=by
    unfold qha at g8;split at g8
    ·rename_i q;exact absurd g8 q
    ·rename_i q;exact⟨Classical.not_not.1 q,g8⟩
   have hR:qqk o.txt=qlv (qfp o.txt):=by unfold qqk qfp;rw[ipo g8,ipo g9.2];rfl
   simp only[g8,ine (show¬zM o.txt≠0 by simpa using g9.1),<-hR]at c4;cases hL:qqk o.txt with
   |nil=>
    rw[hL]at hE c4;rw[ipo rfl]at hE;rw[hE,ine (by decide)];refine acO ll ?_;simp (disch:=omega) only[qa7,coC,dcC,k1,k2,k3,k4,strs,go_sem]
    repeat' first|((first|refine cA (c1 _) ?_ ?_|refine cA (c2 _) ?_ ?_|refine cA (c3 _) ?_ ?_|refine cA (c4 _) ?_ ?_);exact flk;simp (disch:=omega) only[k4,k5,k7,strs,go_sem])|(apply qa;exact rvk;simp only[go_sem];first|exact qi|skip)|(with_reducible first|intro _|apply aiA)|exact clz|fail
   |cons a r=>
    rw[hL]at hE c4;rw[ine (by simp)]at hE;rw[hE,ipo rfl];have k9:(((a::r).length:Int)=0)=False:=eqf (by simp;omega);refine acO ll ?_;simp (disch:=omega) only[qa7,coC,dcC,k1,k2,k3,k4,strs,go_sem]
    repeat' first|((first|refine cA (c1 _) ?_ ?_|refine cA (c2 _) ?_ ?_|refine cA (c3 _) ?_ ?_|refine cA (c4 _) ?_ ?_);exact flk;simp (disch:=omega) only[k4,k5,k7,strs,go_sem])|(apply qa;exact rvk;simp only[go_sem];first|exact qi|skip)|(with_reducible first|intro _|apply aiA)|exact clz|fail
 ·have k4:(o.kind=2)=False:=eqf g4;have ge:o.txt= []:=Classical.not_not.1 λhc=>g3 ⟨hc,g4⟩
  have k3:(o.txt= [])=True:=eqt ge;have htk:tkB x o=(decide (0<=zR x o.sig)&&(decide (0<=o.tok)&&decide (o.tok<((x.tok.getD (zR x o.sig).toNat []).length:Int)))):=rfl
  by_cases g5:zR x o.sig<0
  ·have k5:(zR x o.sig<0)=True:=eqt g5;rw[dqf om,Bool.false_and]at htk;rw[ipo htk]at hE;rw[hE,ine (by decide)];unfold strs at*;refine acO ll ?_;simp (disch:=omega) only[qa7,coC,dcC,k1,k2,k3,k4,strs,go_sem]
   repeat' first|(refine cA (c1 _) flk ?_;simp (disch:=omega) only[k5,go_sem])|exact wa|with_reducible apply aiA|exact clz|fail
  obtain⟨S,hSn⟩: ∃S:Nat,zR x o.sig=S:=⟨(zR x o.sig).toNat,om⟩
  have hSl:S<x.sig.length:=by
   rcases zE (λj=>decide (o.sig=x.sig.getD j [])) x.sig.length with⟨i,q1,_,_,q4⟩|⟨_,q2⟩
   ·have e:zR x o.sig=i:=q4;omega
   ·have e:zR x o.sig= -1:=q2;omega
  have k5:((S:Int)<0)=False:=wm;rw[hSn,dqt om,Bool.true_and,itn]at htk;simp only[hSn]at c1;have c2:=λl'=>qAH x S o.tok (h++l') hz (hp.app l') h1 hSl
  by_cases g6:0<=o.tok∧o.tok<((x.tok.getD S []).length:Int)
  case neg=>
   have htk:tkB x o=false:=by rw[htk];simpa using λe=>Int.not_lt.1 λhc=>g6 ⟨e,hc⟩
   rw[ipo htk]at hE;rw[hE,ine (by decide)];simp only[ine g6]at c2;unfold coC at c2;refine acO ll ?_;simp (disch:=omega) only[qa7,coC,dcC,k1,k2,k3,k4,strs,go_sem]
   repeat' first|((first|refine cA (c1 _) ?_ ?_|refine cA (c2 _) ?_ ?_);exact flk;simp (disch:=omega) only[k5,go_sem])|exact wa|(with_reducible first|intro _|apply aiA)|exact clz|fail
  have htk:tkB x o=true:=by rw[htk];simpa using g6
  rw[ine (by rw[htk];decide)]at hE;simp only[ipo g6]at c2;have hpl:FU x l o=fnU l (gm x S o.tok):=by unfold FU;rw[hSn,itn]
  have hcn:=qbH ho hSl g6.1 g6.2;have c3:=λh=>qx5 l (gm x S o.tok) h hu.n
  have e1:fnR l (gm x S o.tok)=FU x l o:=by unfold fnR;rw[ine om,hpl]
  have e2:fnE (gm x S o.tok)=0:=by unfold fnE;rw[ine om]
  rw[e1,e2]at c3;unfold coC at c2
  by_cases g7:FU x l o<0
  ·have k7:(FU x l o<0)=True:=eqt g7;rw[ipo g7]at hE;rw[hE,ine (by decide)];refine acO ll ?_;simp (disch:=omega) only[qa7,coC,dcC,k1,k2,k3,k4,strs,go_sem]
   repeat' first|((first|refine cA (c1 _) ?_ ?_|refine cA (c2 _) ?_ ?_|refine cA (c3 _) ?_ ?_);exact flk;simp (disch:=omega) only[k4,k5,k7,go_sem])|exact wa|with_reducible apply aiA|exact clz|fail
  have k7:(FU x l o<0)=False:=eqf g7;rw[ine g7]at hE;unfold cjE at hE;rw[ine g4]at hE;rw[hE,ipo rfl];refine acO ll ?_;simp (disch:=omega) only[qa7,coC,dcC,k1,k2,k3,k4,strs,go_sem]
  repeat' first|((first|refine cA (c1 _) ?_ ?_|refine cA (c2 _) ?_ ?_|refine cA (c3 _) ?_ ?_);exact flk;simp (disch:=omega) only[k4,k5,k7,go_sem])|exact wa|with_reducible apply aiA|exact clz|fail
theorem qq8(x:Co)(l:List Un)(h:wh)(hz:qaN x)(hu:qbx l)(hp:kY SG h):ACalls Tryz.prog 75 [.agg (coC x),zA l] h (.int .i64 (vaE x l)) h:=by
 have c1:=λl'=>coP x (h++l') hz (hp.app l')
 have c2:=λl'=>vaP x l (h++l') hz hu (hp.app l')
 have hE:vaE x l=(if coE x≠0 then 1 else if rgB x l=false then 20 else 0):=rfl
 by_cases g:coE x=0
 case neg=>
  have k1:(coE x=0)=False:=eqf g;rw[ipo g]at hE;rw[hE];unfold coC at c1;refine acO qrG ?_;simp (disch:=omega) only[qz4,coC,go_sem]
  repeat' first|(refine cA (c1 _) flk ?_;simp (disch:=omega) only[k1,go_sem])|exact wa|fail
 rw[ine (by simpa using g)]at hE;simp only[g]at c1
 by_cases g2:rgB x l=false
 ·rw[ipo g2]at hE;rw[hE];simp only[hE]at c2;unfold coC at c1 c2;refine acO qrG ?_;simp (disch:=omega) only[qz4,coC,go_sem]
  repeat' first|((first|refine cA (c1 _) ?_ ?_|refine cA (c2 _) ?_ ?_);exact flk;simp (disch:=omega) only[go_sem])|(apply qa;exact rvk;simp only[go_sem];first|exact qi|apply qh)|(with_reducible first|intro _|apply aiA)|exact clz|fail
 ·rw[ine g2]at hE;rw[hE];simp only[hE]at c2;unfold coC at c1 c2;refine acO qrG ?_;simp (disch:=omega) only[qz4,coC,go_sem]
  repeat' first|((first|refine cA (c1 _) ?_ ?_|refine cA (c2 _) ?_ ?_);exact flk;simp (disch:=omega) only[go_sem])|exact wa|fail
def plG(x:Co)(l:List Un)(d:List Dc)(n:Nat):List Int:=(d.take n).map (FU x l)
def qyN(x:Co)(l:List Un)(d:List Dc):List Int:=if Ur x l d=0 then plG x l d d.length else []
theorem qBG(x:Co)(l:List Un)(d:List Dc)(h:wh)(hz:qaN x)(hu:qbx l)(hp:kY SG h)(hg:jh h frmN frmC)(h1:coE x=0)(hd:d.length<=1000000)(ht: ∀o∈d,o.txt.length<=1000):ACalls Tryz.prog 78 [.agg (coC x),zA l,kz d] h (.tup [qy (qyN x l d),.int .i64 (Ur x l d)]) h:=by
 unfold qyN
 by_cases g:256<d.length
 ·have k1:((256:Int)<d.length)=True:=wj;have hE:Ur x l d=4:=by unfold Ur;rw[ipo g]
  rw[hE,ine (by decide)];refine acO qx1 ?_;simp (disch:=omega) only[qAu,coC,kz,k1,go_sem]
  repeat' first|(apply qa;exact rvk;simp only[go_sem])
  exact VLe.tup ⟨qW,qi,trivial⟩
 have k1:((256:Int)<d.length)=False:=wm;have hE:Ur x l d=SE (λi=>qaW x l (d.getD i default)) 0 d.length:=by unfold Ur;rw[ine g]
 rw[hE];refine acO qx1 ?_;simp (disch:=omega) only[qAu,coC,kz,k1,go_sem];refine qu (T:=λs:Nat×Nat×AObj×AObj×AObj=>zf 38 [(1,zA l),(3,.op h.length 1 0),(16,kz d),(17,.int .i64 d.length),(18,.int .i64 s.1),(8,.osl (h.length+2) s.2.1 1 0 s.1)])
  (H:=λs=>h++ [.mem 1 26 (coC x),.emp 1,qZ s.2.1 3 (qP (plG x l d s.1)),s.2.2.1,s.2.2.2.1,s.2.2.2.2])
  (inv:=λs=>s.1<=d.length∧(∀j,j<s.1->qaW x l (d.getD j default)=0)∧qJ [s.2.2.1] 0=true∧qJ [s.2.2.2.1] 0=true∧qJ [s.2.2.2.2] 0=true) (m:=λs=>d.length-s.1) (0,1,.emp 0,.emp 0,.emp 0) ⟨nzl _,λj hj=>absurd hj (nnz j),rfl,rfl,rfl⟩ (Wk.temps ?_) ?_
 ·(simp only[kz,go_sem,qg,qc,qb,qf];try exact we)
 rintro⟨i,v,O1,O2,O3⟩ ⟨i1,i0,i2,i3,i4⟩ K hK;simp only at i0 i1 i2 i3 i4 hK;have i2': ∀m,qJ (O1::m) 0=true:=λ_=>i2
 have i3': ∀m,qJ (O2::m) 0=true:=λ_=>i3
 have i4': ∀m,qJ (O3::m) 0=true:=λ_=>i4
 have eL:(plG x l d i).length=i:=by unfold plG;rw[List.length_map,List.length_take];omega
 by_cases hi:i<d.length
 ·have k2:((i:Int)<d.length)=True:=wj;obtain⟨o,ho⟩:=wg (d.getD i default)
  have eo:=ho.symm;have hom:o∈d:=by rw[ho];exact zJ hi
  have hS:plG x l d (i+1)=plG x l d i++ [FU x l o]:=by
   unfold plG;rw[List.take_add_one,zn hi,List.map_append,ho,gdqA,zn hi];rfl
  have c1:=λl'=>dpP x l o (h++l') hz hu (hp.app l') hg.app h1 (ht o hom)
  by_cases g3:qaW x l o=0
  case neg=>
   have k3:(qaW x l o=0)=False:=eqf g3;have hf:SE (λi=>qaW x l (d.getD i default)) 0 d.length=qaW x l o:=by
    rw[kM hi i0 (by rw[eo];exact g3),eo]
   rw[hf,ine g3];unfold coC dcC at c1;simp (disch:=omega) only[coC,kz,dcC,k2,eo,i2',go_sem]
   repeat' first|(refine cA (c1 _) flk ?_;simp (disch:=omega) only[k3,i3',go_sem])|(apply qa;exact rvk;simp only[go_sem])|with_reducible apply aiA|exact clz|fail
   exact VLe.tup ⟨qW,qi,trivial⟩
  unfold dpN at c1;rw[g3]at c1;simp only[if_true]at c1;obtain⟨L,hL⟩:=wg (plG x l d i)
  rw[<-hL]at hS eL ⊢;have eC:=jk L;have eTk:List.take i (qP L)=qP L:=ltl om;unfold coC dcC at c1;simp (disch:=omega) only[coC,kz,dcC,k2,eo,i2',go_sem]
  repeat' first|(refine cA (c1 _) flk ?_;simp (disch:=omega) only[i3',eC,eL,eTk,Nat.mul_one,go_sem])|with_reducible apply aiA|exact clz|fail
  rw[show qP L++ [AV.int IntKind.i64 (FU x l o)]=qP (L++ [FU x l o]) by simp[qP],<-hS];refine hK _ _ (i+1,v+1,.mem (qn (some O1)+1) 43 (dcC o),.mem (qn (some O2)+1) 3 [.int .i64 (FU x l o)],O3) ⟨hi,λj hj=> ?_,rfl,rfl,i4⟩ (by simp only;omega) ?_
  ·by_cases e:j=i
   ·rw[e,eo];exact g3
   ·exact i0 j om
  refine Wk.temps ?_
  (simp only[kz,dcC,go_sem,qg,qc,qb,qf];try exact we)
 have k2:((i:Int)<d.length)=False:=wm;obtain rfl:i=d.length:=by omega
 have hf:SE (λi=>qaW x l (d.getD i default)) 0 d.length=0:=z8 i0;rw[hf,ipo rfl];simp (disch:=omega) only[k2,go_sem]
 repeat' first|(apply qa;exact rvk;simp only[go_sem])
 exact VLe.tup ⟨qfh (λ_=>rfl) eL.symm,qi,trivial⟩
def pcC(p:Pc):wi:=tkC p.t++ [.int .i64 p.c]
def spX(x:Co)(s f d:Nat):List wi:=(spk x s f d).map λp=> [.agg (pcC p)]
theorem qzn(x:Co)(f t s:Nat)(h:wh):ACalls Tryz.prog 83 [.agg (coC x),.int .i64 (f:Int),.int .i64 (t:Int),.int .i64 (s:Int)] h (.fn (.func 135) [] [.ip [.int .i64 (f:Int)],.ip [.int .i64 (t:Int)],.ip (coC x),.ip [.int .i64 (s:Int)]]) h:=by
 unfold coC;refine acO qBb ?_;simp (disch:=omega) only[qCh,go_sem]
 repeat' first|exact wa|fail
theorem qk6(x:Co)(s f d:Nat):(spX x s f d).length=(spk x s f d).length:=by unfold spX;rw[List.length_map]
theorem qth(x:Co)(s f:Nat): ∀d e,d<=e-> ∃r,spk x s f e=spk x s f d++r:=by
 intro d e h
 induction e with
 |zero=>
  obtain rfl:d=0:=by omega
  exact⟨[],by simp⟩
 |succ e ih=>
  by_cases g:d=e+1
  ·subst g;exact⟨[],by simp⟩
  ·obtain⟨r,hr⟩:=ih om;refine⟨r++(if pcB x s (f+e)=true then [pcT x s (f+e)] else []),?_⟩
   conv=>lhs;unfold spk
   rw[hr,List.append_assoc]
theorem qzm{x:Co}{s f k d:Nat}(hk:k<d)(hb:pcB x s (f+k)=true): ∃g:(spk x s f k).length<(spX x s f d).length,(spX x s f d)[(spk x s f k).length]= [.agg (pcC (pcT x s (f+k)))]∧(spk x s f (k+1)).length=(spk x s f k).length+1:=by
 have e1:spk x s f (k+1)=spk x s f k++ [pcT x s (f+k)]:=by
  conv=>lhs;unfold spk
  rw[ipo hb]
 obtain⟨r,hr⟩:=qth x s f (k+1) d hk;refine⟨by rw[qk6,hr,e1];simp,?_,by rw[e1];simp⟩;unfold spX;simp only[List.getElem_map,hr,e1];rw[List.getElem_append_left (by simp),List.getElem_append_right (nlr _)];simp
structure SpS where
 k:Nat
 hh:wh
theorem itS(x:Co)(s f t:Nat)(hz:qaN x)(ho:CoOk x)(hs:s<x.sig.length)(ht:t<=x.col.length)(ft:f<=t):qhc Tryz.prog 135 [.ip [.int .i64 (f:Int)],.ip [.int .i64 (t:Int)],.ip (coC x),.ip [.int .i64 (s:Int)]] (spX x s f (t-f)):=by
 intro h ts LI S E hS hE body start hts;have hsg:=hz.sg;have hcl:=hz.cl;have htn:=ho.tn;have htl:=hz.tl s;have q5:(0<=(s:Int))=True:=wj;have q6:((s:Int)<x.tok.length)=True:=wj;refine acQ qwK ?_;simp (disch:=omega) only[quX,coC,go_sem]
 repeat' first|with_reducible apply aiA|exact clz|fail
 refine qu (T:=λi:SpS=>zf 39 [(0,.yld h.length),(2,.ip [.int .i64 (t:Int)]),(3,.ip (coC x)),(4,.ip [.int .i64 (s:Int)]),(6,.int .i64 ((f+i.k:Nat):Int))]) (H:=λi=>i.hh++ [.lp .ready ts LI])
  (inv:=λi=>f+i.k<=t∧S (spk x s f i.k).length i.hh) (m:=λi=>t-f-i.k) ⟨0,h⟩ ⟨by simp only;omega,start⟩ (Wk.temps ?_) ?_
 ·(simp only[coC,go_sem,qg,qc,qb,qf];try exact we)
 rintro⟨k,hh⟩ ⟨i1,i4⟩ K hK;simp only at i1 i4 hK;obtain⟨hlen,hlow⟩:=hS _ _ i4;have hb:(h++ [AObj.lp LS.ready ts LI]).length=(hh++ [AObj.lp LS.ready ts LI]).length:=by simp[hlen]
 by_cases hi:f+k<t
 ·have q0:(((f+k:Nat):Int)<t)=True:=wj;have q1:(0<=((f+k:Nat):Int))=True:=wj;have q2:(((f+k:Nat):Int)<x.col.length)=True:=wj;obtain⟨c,hcx⟩:=wg (x.col.getD (f+k) [])
  have ec:=hcx.symm;have hcl2:=ho.cl (f+k) om;have hce:=ho.ce (f+k) om s hs;rw[ec]at hcl2 hce;have q3:((s:Int)<c.length)=True:=wj;have hpb:pcB x s (f+k)=decide (0<=c.getD s 0):=by unfold pcB;rw[ec]
  by_cases g:0<=c.getD s 0
  ·obtain⟨N,hN⟩: ∃N:Nat,c.getD s 0=N:=⟨(c.getD s 0).toNat,om⟩
   have hNt:N<(x.tok.getD s []).length:=by
    rcases hce with e|⟨_,e⟩
    ·omega
    ·rw[hN]at e;omega
   have q4:(0<=(N:Int))=True:=wj;obtain⟨T,hT⟩:=wg (x.tok.getD s [])
   have eT:=hT.symm;rw[eT]at hNt;have q7:((N:Int)<T.length)=True:=wj;obtain⟨hdl,hxx,hln⟩:=qzm (x:=x) (s:=s) (f:=f) (k:=k) (d:=t-f) om (by rw[hpb,dqt g]);have hpc:pcT x s (f+k)=⟨T.getD N default,((f+k:Nat):Int)⟩:=by
    unfold pcT;rw[ec,eT,hN,itn]
   have hb':=body _ hh [] hdl i4;rw[hxx,hpc]at hb';unfold pcC tkC at hb';simp only[lca,lna]at hb';simp (disch:=omega) only[coC,qp,qy,qm,zT,tkC,q0,q1,q2,q3,q4,q5,q6,q7,ec,hN,eT,go_sem]
   repeat' first|with_reducible apply aiA|exact clz|fail
   ·exact⟨.ready,ts,LI,kp hlen⟩
   ·refine jP.mono ?_ hb';rintro v h' ⟨hh',⟨rfl,hn',rfl⟩|⟨st,rfl,hs',rfl⟩⟩
    ·simp (disch:=omega) only[go_sem];refine hK _ _ ⟨k+1,hh'⟩ ⟨by simp only;omega,by simp only;rw[hln];exact hn'⟩ (by simp only;omega) (Wk.temps ?_)
     (simp only[coC,go_sem,qg,qc,qb,qf];try exact we)
    ·simp (disch:=omega) only[go_sem];obtain⟨r1,r2⟩:=(hE _ _ hs').ret (L:=LI) st hts;exact ju trivial r1 r2 ⟨_,.inr ⟨st,hs',rfl⟩⟩ (qi)
  ·have q4:(0<=c.getD s 0)=False:=eqf g;have e1:spk x s f (k+1)=spk x s f k:=by
    conv=>lhs;unfold spk
    rw[hpb,dqf g,ine (by decide),lan]
   simp (disch:=omega) only[coC,qp,qy,q0,q1,q2,q3,q4,q5,ec,go_sem]
   repeat' first|with_reducible apply aiA|exact clz|fail
   refine hK _ _ ⟨k+1,hh⟩ ⟨by simp only;omega,by rw[e1];exact i4⟩ (by simp only;omega) (Wk.temps ?_)
   (simp only[coC,go_sem,qg,qc,qb,qf];try exact we)
 ·have q0:(((f+k:Nat):Int)<t)=False:=wm;have hk:k=t-f:=by omega
  rw[hk]at i4;simp (disch:=omega) only[coC,qp,q0,go_sem]
  repeat' first|with_reducible apply aiA|exact clz|fail
  obtain⟨r1,r2⟩:=(hS _ _ i4).ret (L:=LI) .ready hts;exact ju trivial r1 r2 ⟨hh,.inl ⟨by rw[qk6];exact i4,rfl⟩⟩ (qi)
end RC
end
section
open Go Go.Proofs AF
def qnx:List Nat:= []
def qvn:C:=
 (vU [O1 2 (.box 0 126) 0,ON 4 (.nilo 1 7 120) []] (((C.wk.seq (vY [MV 6 1])).seq (C.block 0 (C.range (.t 6) [7] (vY [⟨some 5,none,.alloc 2 120 [.str [],.str [],.str [],i6 0,i6
 0,.str [],i6 0],[]⟩,ST 7 5 7]) (C.block 1 (vY [LD 8 2,O1 9 (.load (some 7)) 5,⟨some 10,none,.bslc 3 7 1 120 [.str [],.str [],.str [],i6 0,i6 0,.str [],i6 0] [(0,7)],[.t 9]⟩,O2
 11 (.app 4 7 120 88) 8 10,ST 1 2 11]))))).seq (vX [LD 12 2,MV 4 12])))
theorem qxd:qM Tryz.prog 188 13 5 [RV.tmp 4] qvn:=fi Tryz.f188 [2,4,5,10,11] qnx [1]
end
section
open Go Go.Proofs AF HY LN
namespace RC
def Tq(L:List Pc):wi:=L.flatMap pcC
instance:Inhabited Pc:=⟨⟨default,0⟩⟩
def qcA(L:List Pc):AV:= .sl L.length λi=>pcC (L.getD i default)
theorem qi3(l:List Pc):(qcA l).flag=true:=rfl
theorem qgO(l:List Pc):(qcA l).strip=qcA l:=rfl
theorem qoq{fz:Nat->Bool}{h:wh}{n:Nat}(l:List Pc):rei fz h (n+1) (qcA l)=qcA l:=rfl
theorem qno{fz:Nat->Bool}{h:wh}{n:Nat}(l:List Pc):frz fz h (n+1) (qcA l)=qcA l:=rfl
attribute [go_sem] qi3 qgO qoq qno
theorem qj5(p:Pc):(pcC p).length=7:=rfl
theorem qbX(L:List Pc):(Tq L).length=L.length*7:=by
 unfold Tq
 induction L with
 |nil=>rfl
 |cons a L ih=>rw[List.flatMap_cons,lap,ih,lco,qj5];omega
theorem TN(A B:List Pc):Tq (A++B)=Tq A++Tq B:=by simp[Tq]
theorem TO(a:Pc):Tq [a]=pcC a:=by simp[Tq]
theorem qj7(L:List Pc): ∀i,(Tq L).drop (i*7)=Tq (L.drop i):=by
 induction L with
 |nil=>intro i;simp[Tq]
 |cons a L ih=>
  intro i;cases i with
  |zero=>simp
  |succ i=>
   rw[show Tq (a::L)=pcC a++Tq L from rfl,show (a::L).drop (i+1)=L.drop i from rfl,<-ih i];rw[show (i+1)*7=(pcC a).length+i*7 by rw[qj5];omega,List.drop_append,List.drop_eq_nil_of_le om,lna,Nat.add_sub_cancel_left]
theorem qn9{L:List Pc}{i:Nat}(hi:i<L.length):((Tq L).drop (i*7)).take 7=pcC (L.getD i default):=by
 rw[qj7,List.drop_eq_getElem_cons hi,gdqA,zn hi];rfl
theorem qoa(L:List Pc)(n:Nat): ∀c∈Tq L,qS n c=true:=by
 intro c hc;unfold Tq at hc;obtain⟨x,_,hx⟩:=List.mem_flatMap.1 hc;unfold pcC tkC at hx;simp only[lca,lna,List.mem_cons,List.not_mem_nil,or_false]at hx;rcases hx with rfl|rfl|rfl|rfl|rfl|rfl|rfl<;>rfl
theorem qfi{v n:Nat}{L:List Pc}{ty:TypeId}{fz:Nat->Bool}{h:wh}{d:Nat}(hn:n=L.length):VLe (qec (some (qZ v ty (Tq L))) v 7 0 n (rei fz h (d+1))) (qcA L):=by
 subst hn;unfold qZ;split
 ·rename_i e
  have:L= []:=by
   cases L with
   |nil=>rfl
   |cons a r=>exact absurd e (by simp[Tq,pcC,tkC])
  subst this;rw[slOf_emp,ipo rfl];exact qW
 ·rw[slOf_mem,ipo ⟨rfl,by rw[qbX];omega⟩];refine VLe.sl_eq rfl (λi hi=> ?_);simp only[Nat.zero_add];rw[qn9 hi];rfl
theorem qCP(f:FuncId)(A B C D:wi)(L:List Pc)(h:wh)(hf:qhc Tryz.prog f [.ip A,.ip B,.ip C,.ip D] (L.map λp=> [.agg (pcC p)]))(hL:L.length<=1000000000):ACalls Tryz.prog 188 [.nl,.fn (.func f) [] [.ip A,.ip B,.ip C,.ip D]] h (qcA L) h:=by
 refine acO qxd ?_;simp (disch:=omega) only[qvn,go_sem];refine⟨_,_,Wk.ownNil (j:=h.length) (i:=0) (k:=h.length+4) (v:=1) (ty:=126) (cs:= [.nl]) (ve:=0) (sz:=7) ?m1 rfl ?m2,?_⟩
 case m1=>simp only[go_sem]
 case m2=>simp only[go_sem]
 simp (disch:=omega) only[List.set_cons_zero,go_sem];have hxl:(L.map λp=> [AV.agg (pcC p)]).length=L.length:=List.length_map ..;have hLow: ∀(i n:Nat) O1 O2,(∀n,lowO n O1)->(∀n,lowO n O2)->LowI (h++ [.mem 1 126 [.osl (h.length+4) 0 7 0 0],.emp 1,.emp 0,.emp 0,.emp 0]) (h++ [.mem 1 126 [.osl (h.length+4) i 7 0 n],.emp 1,O1,O2,qZ i 120 (Tq (L.take i))]):=λi n O1 O2 l1 l2=>by
  refine⟨by simp,λo ho=> ?_⟩;rcases List.mem_append.1 ho with h1|h1
  ·exact .inl (List.mem_append_left _ h1)
  ·simp only[List.mem_cons,List.not_mem_nil,or_false]at h1;have hb: ∀n,lowO n (qZ i 120 (Tq (L.take i))):=λn=>ji (qoa _ n)
   rcases h1 with rfl|rfl|rfl|rfl|rfl
   ·right;refine⟨λc hc=> ?_,λc hc=> ?_⟩<;>
    ·rw[List.mem_singleton]at hc;subst hc;simp[qS]
     try omega
   ·left;simp
   ·right;exact⟨l1 _,l1 _⟩
   ·right;exact⟨l2 _,l2 _⟩
   ·right;exact⟨hb _,hb _⟩
 refine zh hf (λa ha=> ?_)
  (S:=λi hh=> ∃O1 O2,qJ [O1] 0=true∧qJ [O2] 0=true∧(∀n,lowO n O1)∧(∀n,lowO n O2)∧hh=h++ [.mem 1 126 [.osl (h.length+4) i 7 0 i],.emp 1,O1,O2,qZ i 120 (Tq (L.take i))]) (E:=λ_ _=>False) ?_ ?_ ?_ ?_ ?_ ?_ ?_
 ·obtain⟨c,_,rfl⟩:=List.mem_map.1 ha;rfl
 ·rintro i hh ⟨O1,O2,_,_,l1,l2,rfl⟩;exact hLow _ _ _ _ l1 l2
 ·intro s hh hf;exact hf.elim
 ·exact⟨.emp 0,.emp 0,rfl,rfl,λ_=>trivial,λ_=>trivial,rfl⟩
 ·simp[qS,qS.lowVs]
  try omega
 ·rintro i hh tl LI TS hi ⟨O1,O2,s1,s2,l1,l2,rfl⟩ hlen K K2 hK hN hR' hX;have hi':i<L.length:=by rw[hxl]at hi;exact hi
  rw[List.getElem_map];have s1': ∀m,qJ (O1::m) 0=true:=λ_=>s1
  have s2': ∀m,qJ (O2::m) 0=true:=λ_=>s2
  have hS:L.take (i+1)=L.take i++ [L.getD i default]:=by
   rw[List.take_add_one,zn hi',gdqA,zn hi'];rfl
  have eG:L[i]=L.getD i default:=by rw[gdqA,zn hi'];rfl
  rw[eG];obtain⟨p,hp⟩:=wg (L.getD i default)
  rw[<-hp]at hS ⊢;obtain⟨M,hM⟩:=wg (L.take i)
  have eM:M.length=i:=by rw[hM,List.length_take];omega
  rw[<-hM]at hS ⊢;have eC:=qbX M;have eTk:List.take (i*7) (Tq M)=Tq M:=ltl om;simp only[kg,List.append_assoc,lca,lna];simp (disch:=omega) only[s1',pcC,tkC,go_sem];refine hK _ _ (h++ [.mem 1 126 [.osl (h.length+4) i 7 0 i],.emp 1,.mem (qn (some O1)+1) 120 (pcC p),O2,qZ i 120 (Tq M)]) ?_ ?_ ?_
  ·simp[pcC,tkC]
  ·simp
  ·simp only[List.append_assoc,lca,lna];simp (disch:=omega) only[s2',pcC,tkC,eC,eTk,eM,go_sem]
   repeat' first|with_reducible apply aiA|exact clz|fail
   have eA:Tq M++ [AV.str p.t.text,AV.str p.t.norm,AV.str p.t.page,.int .i64 p.t.line,.int .i64 p.t.flags,.str p.t.name,.int .i64 p.c]=Tq (M++ [p]):=by rw[TN,TO];rfl
   refine hN _ _ (h++ [.mem 1 126 [.osl (h.length+4) (i+1) 7 0 (i+1)],.emp 1,.mem (qn (some O1)+1) 120 (pcC p),.mem (qn (some O2)+1) 120 (pcC p),qZ (i+1) 120 (Tq (M++ [p]))]) ?_ ?_ ⟨_,_,rfl,rfl,?_,?_,by rw[hS]⟩
   ·rw[<-eA];simp[pcC,tkC];exact nlr _
   ·simp
   ·intro n c hc;simp[pcC,tkC]at hc;rcases hc with rfl|rfl|rfl|rfl|rfl|rfl|rfl<;>rfl
   ·intro n c hc;simp[pcC,tkC]at hc;rcases hc with rfl|rfl|rfl|rfl|rfl|rfl|rfl<;>rfl
 ·rintro hh ⟨O1,O2,s1,s2,l1,l2,rfl⟩;rw[hxl,List.take_length];simp (disch:=omega) only[go_sem]
  repeat' first|(apply qa;exact rvk;simp only[go_sem])|with_reducible apply aiA|exact clz|fail
  exact qfi rfl
 ·intro e hh hf;exact hf.elim
theorem qC1(f:FuncId)(A B C D:wi)(L:List Pc)(h:wh)(hf:qhc Tryz.prog f [.ip A,.ip B,.ip C,.ip D] (L.map λp=> [.agg (pcC p)]))(hL:L.length<=1000000000):ACalls Tryz.prog 137 [.fn (.func f) [] [.ip A,.ip B,.ip C,.ip D]] h (qcA L) h:=by
 have c1:=λh=>qCP f A B C D L h hf hL
 refine acO qwM ?_;simp (disch:=omega) only[quZ,go_sem]
 repeat' first|(refine cA (c1 _) flk ?_;simp (disch:=omega) only[go_sem])|exact wa|fail
theorem qDq(h:wh):ACalls Tryz.prog 84 [] h (.agg [.nilfn,.fn (.func 136) [] [],.fn (.func 138) [] [],.fn (.func 140) [] []]) h:=by
 refine acO qBc ?_;simp (disch:=omega) only[qCi,go_sem]
 repeat' first|exact wa|fail
theorem qDp(x:Co)(u:Un)(o:Dc)(h:wh):ACalls Tryz.prog 140 [.agg (coC x),.agg (unC u),.agg (dcC o)] h (qcA []) h:=by
 refine acO qwP ?_;simp (disch:=omega) only[qu2,coC,unC,dcC,go_sem]
 repeat' first|(apply qa;exact rvk;simp only[go_sem])
 exact qW
theorem qDn(x:Co)(u:Un)(o:Dc)(s f t:Nat)(h:wh)(hz:qaN x)(ho:CoOk x)(hx:zR x o.sig=s)(hs:s<x.sig.length)(hf:u.frm=f)(hu:u.to=t)(ht:t<=x.col.length)(ft:f<=t):ACalls Tryz.prog 136 [.agg (coC x),.agg (unC u),.agg (dcC o)] h (qcA (spk x s f (t-f))) h:=by
 have c1:=λh=>qsa x.sig.length (λj=>x.sig.getD j []) o.sig h hz.sg
 have hS:Uh (λj=>decide (o.sig=x.sig.getD j [])) x.sig.length 0=zR x o.sig:=rfl;simp only[hS,hx]at c1;have c2:=λh=>qzn x f t s h
 have hcl:=hz.cl;have c3:=λh=>qC1 135 [.int .i64 (f:Int)] [.int .i64 (t:Int)] (coC x) [.int .i64 (s:Int)] (spk x s f (t-f)) h (itS x s f t hz ho hs ht ft) (Nat.le_trans (qcc x s f (t-f)) om)
 unfold coC at c2 c3;refine acO qwL ?_;simp (disch:=omega) only[quY,coC,unC,dcC,strs,hf,hu,go_sem]
 repeat' first|((first|refine cA (c1 _) ?_ ?_|refine cA (c2 _) ?_ ?_|refine cA (c3 _) ?_ ?_);exact flk;simp (disch:=omega) only[strs,go_sem])|exact wa|fail
 done
def cjP(L:List Tk)(f:Int):List Pc:=L.map λt=>⟨t,f⟩
theorem qq9(L:List Tk)(f:Int):(cjP L f).length=L.length:=List.length_map ..
theorem qlt{s:Str}{t:Tk}(h:t∈qaZ s):t.name= []∧(t.flags=0∨t.flags=16∨t.flags=8∨t.flags=24):=by
 obtain⟨a,⟨e,g⟩,rfl,_⟩:=qet s h;refine⟨by rw[e];rfl,?_⟩;show a.flags=0∨a.flags=16∨a.flags=8∨a.flags=24;rcases g with⟨g|g,_⟩|⟨g|g,_⟩
 ·exact .inl g
 ·exact .inr (.inl g)
 ·exact .inr (.inr (.inl g))
 ·exact .inr (.inr (.inr g))
theorem qDo(x:Co)(u:Un)(o:Dc)(h:wh)(hl:o.txt.length<=1000)(hs:o.txt≠ [])(hc:zM o.txt=0)(he:qfo o.txt=0)(hg:jh h frmN frmC):ACalls Tryz.prog 138 [.agg (coC x),.agg (unC u),.agg (dcC o)] h (qcA (cjP (qaZ o.txt) u.frm)) h:=by
 have c1:=λl=>qCY o.txt (h++l) hl hs hc hg.app
 have hT:qfp o.txt=qaZ o.txt:=by unfold qfp;rw[ipo he]
 rw[hT]at c1;have hfl:=λt=> @qlt o.txt t
 have hTl:=qck o.txt;obtain⟨T,hTe⟩:=wg (qaZ o.txt)
 rw[<-hTe]at c1 hTl hfl ⊢;have zu: ∀g l,valL g .len [zT l]= .int .i64 l.length:=λ_ _=>rfl
 have zv: ∀g l,okL g .len [zT l]=True:=λ_ _=>eqt trivial
 refine acO qwN ?_;simp (disch:=omega) only[qu0,coC,unC,dcC,go_sem]
 repeat' first|(refine cA (c1 _) flk ?_;simp (disch:=omega) only[zu,zv,go_sem])|with_reducible apply aiA|exact clz|fail
 refine qu (T:=λs:Nat×Nat×AObj×AObj=>zf 32 [(4,.op (h.length+1) 1 0),(12,zT T),(13,.int .i64 T.length),(14,.int .i64 s.1),(7,.osl (h.length+4) s.2.1 7 0 s.1)])
  (H:=λs=>h++ [.mem 1 26 (coC x),.mem 1 64 (unC u),.mem 1 43 (dcC o),.emp 1,qZ s.2.1 120 (Tq (cjP (T.take s.1) u.frm)),s.2.2.1,s.2.2.2,.emp 0])
  (inv:=λs=>s.1<=T.length∧qJ [s.2.2.1] 0=true∧qJ [s.2.2.2] 0=true) (m:=λs=>T.length-s.1) (0,1,.emp 0,.emp 0) ⟨nzl _,rfl,rfl⟩ (Wk.temps ?_) ?_
 ·(simp only[zT,go_sem,qg,qc,qb,qf];try exact we)
 rintro⟨i,v,O1,O2⟩ ⟨i1,i2,i3⟩ K hK;simp only at i1 i2 i3 hK;have i2': ∀m,qJ (O1::m) 0=true:=λ_=>i2
 have i3': ∀m,qJ (O2::m) 0=true:=λ_=>i3
 have eL:(cjP (T.take i) u.frm).length=i:=by rw[qq9,List.length_take];omega
 by_cases hi:i<T.length
 ·have k2:((i:Int)<T.length)=True:=wj;obtain⟨t,ht⟩:=wg (T.getD i default)
  have et:=ht.symm;obtain⟨hn,hf⟩:=hfl t (by rw[ht];exact zJ hi);have hS:cjP (T.take (i+1)) u.frm=cjP (T.take i) u.frm++ [⟨t,u.frm⟩]:=by
   unfold cjP;rw[List.take_add_one,zn hi,List.map_append,ht,gdqA,zn hi];rfl
  obtain⟨L,hL⟩:=wg (cjP (T.take i) u.frm)
  rw[<-hL]at hS eL ⊢;have eC:=qbX L;have eTk:List.take (i*7) (Tq L)=Tq L:=ltl om;obtain⟨tx,nm,pg,ln,fl,na⟩:=t;simp only at hn hf;subst hn;rcases hf with rfl|rfl|rfl|rfl
  all_goals
   simp (disch:=omega) only[coC,unC,dcC,zT,tkC,k2,et,i2',i3',eC,eL,eTk,go_sem]
   repeat' first|with_reducible apply aiA|exact clz|fail
  ·refine hK _ _ (i+1,v+1,.mem (qn (some O1)+1) 92 (tkC ⟨tx,nm,pg,ln,0,[]⟩),.mem (qn (some O2)+1) 120 (pcC ⟨⟨tx,nm,pg,ln,0,[]⟩,u.frm⟩)) ⟨hi,rfl,rfl⟩ (by simp only;omega) ?_;simp only[hS,pcC,tkC,TN,TO,lca,lna];refine Wk.temps ?_
   (simp only[zT,tkC,go_sem,qg,qc,qb,qf];try exact we)
  ·refine hK _ _ (i+1,v+1,.mem (qn (some O1)+1) 92 (tkC ⟨tx,nm,pg,ln,16,[]⟩),.mem (qn (some O2)+1) 120 (pcC ⟨⟨tx,nm,pg,ln,16,[]⟩,u.frm⟩)) ⟨hi,rfl,rfl⟩ (by simp only;omega) ?_;simp only[hS,pcC,tkC,TN,TO,lca,lna];refine Wk.temps ?_
   (simp only[zT,tkC,go_sem,qg,qc,qb,qf];try exact we)
  ·refine hK _ _ (i+1,v+1,.mem (qn (some O1)+1) 92 (tkC ⟨tx,nm,pg,ln,8,[]⟩),.mem (qn (some O2)+1) 120 (pcC ⟨⟨tx,nm,pg,ln,8,[]⟩,u.frm⟩)) ⟨hi,rfl,rfl⟩ (by simp only;omega) ?_;simp only[hS,pcC,tkC,TN,TO,lca,lna];refine Wk.temps ?_
   (simp only[zT,tkC,go_sem,qg,qc,qb,qf];try exact we)
  ·refine hK _ _ (i+1,v+1,.mem (qn (some O1)+1) 92 (tkC ⟨tx,nm,pg,ln,24,[]⟩),.mem (qn (some O2)+1) 120 (pcC ⟨⟨tx,nm,pg,ln,24,[]⟩,u.frm⟩)) ⟨hi,rfl,rfl⟩ (by simp only;omega) ?_;simp only[hS,pcC,tkC,TN,TO,lca,lna];refine Wk.temps ?_
   (simp only[zT,tkC,go_sem,qg,qc,qb,qf];try exact we)
 have k2:((i:Int)<T.length)=False:=wm;obtain rfl:i=T.length:=by omega
 simp (disch:=omega) only[k2,go_sem]
 repeat' first|(apply qa;exact rvk;simp only[go_sem])
 rw[List.take_length]at eL ⊢;exact qfi eL.symm
end RC
end
