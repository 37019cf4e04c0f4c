import Derived.Test.YtgoandblgcjleaaGreatDoorK15
import Derived.Test.YtgoandblgcjleaaGreatDoorK13
import Derived.Test.YtgoandblgcjleaaGreatDoorK3
import Derived.Test.YtgoandblgcjleaaGreatDoorK5
import Derived.Test.YtgoandblgcjleaaGreatDoorK8
import Derived.Test.YtgoandblgcjleaaGreatDoorProg
import Derived.Test.YtgoandblgcjleaaGreatDoorK10
import Derived.Lib.IndexMore
import Derived.Lib.CountLaws
import Derived.Laws.Strings3
import Derived.Test.YtgoandblgcjleaaGreatDoorK14
import Derived.Test.YtgoandblgcjleaaGreatDoorK7
set_option linter.all false
set_option linter.unusedSimpArgs false
set_option linter.unusedVariables false
set_option linter.unusedSectionVars false
set_option maxHeartbeats 64000000
set_option maxRecDepth 100000
section
open Go Go.Proofs AF HY LN
namespace RC
def qax(base:Nat)(L:List Rd):List AV:=(List.range L.length).flatMap fun j=> [strs (L.getD j default).words,.osl (base+j) (L.getD j default).src.length 1 0 (L.getD j default).src.length]
def qhu(L:List Rd):List AObj:=L.map fun r=> .mem r.src.length 3 (qp r.src)
theorem qqy(L:List Rd):(qhu L).length=L.length:=by simp[qhu]
theorem qmY{L:List Rd}{j:Nat}(hj:j<L.length):(qhu L)[j]? =some (.mem (L.getD j default).src.length 3 (qp (L.getD j default).src)):=by
 unfold qhu;rw[List.getElem?_map,zp hj,gdqA,zp hj];rfl
theorem qqx(L M:List Rd):qhu (L++M)=qhu L++qhu M:=by simp[qhu]
theorem qqz{L:List Rd}{j:Nat}(r:Rd):(qhu L).set j (.mem r.src.length 3 (qp r.src))=qhu (L.set j r):=by
 unfold qhu;rw[List.map_set]
theorem qds{α:Type}(f g:Nat→List α): ∀n,(∀i,i<n→f i=g i)→(List.range n).flatMap f=(List.range n).flatMap g:=fun n h=>by
 rw[List.flatMap_def,List.flatMap_def];congr 1;exact List.map_congr_left fun i hi=>h i (List.mem_range.1 hi)
theorem qmX(base:Nat)(L:List Rd)(r:Rd):qax base (L++ [r])=qax base L++ [strs r.words,.osl (base+L.length) r.src.length 1 0 r.src.length]:=by
 unfold qax;rw[lap,List.length_singleton,List.range_succ,List.flatMap_append];congr 1
 ·refine qds _ _ _ fun i hi=> ?_
  rw[gdqA,List.getElem?_append_left hi,←gdqA]
 ·simp
theorem qcq(base:Nat)(L:List Rd):(qax base L).length=2*L.length:=by
 unfold qax;generalize L.length=n;generalize hf:(fun j=> [strs (L.getD j default).words,AV.osl (base+j) (L.getD j default).src.length 1 0 (L.getD j default).src.length])=f;have h2: ∀j,(f j).length=2:=fun j=>by rw[←hf];rfl
 induction n with
 |zero=>rfl
 |succ n ih=>rw[List.range_succ,List.flatMap_append,lap,ih];simp[h2];omega
theorem qdt(base:Nat)(L:List Rd){k:Nat}(hk:k<L.length): ∃A B,A.length=2*k∧qax base L=A++ [strs (L.getD k default).words,.osl (base+k) (L.getD k default).src.length 1 0 (L.getD k default).src.length]++B∧
  ∀s,qax base (L.set k ⟨(L.getD k default).words,s⟩)=A++ [strs (L.getD k default).words,.osl (base+k) s.length 1 0 s.length]++B:=by
 have e:List.range L.length=List.range k++k::(List.range (L.length-(k+1))).map (fun i=>k+1+i):=by
  conv=>lhs;rw[show L.length=k+1+(L.length-(k+1)) by omega,List.range_add,List.range_succ,List.append_assoc]
  rfl
 refine⟨(List.range k).flatMap fun j=> [strs (L.getD j default).words,.osl (base+j) (L.getD j default).src.length 1 0 (L.getD j default).src.length],((List.range (L.length-(k+1))).map (fun i=>k+1+i)).flatMap fun j=> [strs (L.getD j default).words,.osl (base+j) (L.getD j default).src.length 1 0 (L.getD j default).src.length],?_,?_,fun s=> ?_⟩
 ·have h2: ∀(f:Nat→List AV),(∀j,(f j).length=2)→ ∀n,((List.range n).flatMap f).length=2*n:=fun f hf n=>by
   induction n with
   |zero=>rfl
   |succ n ih=>rw[List.range_succ,List.flatMap_append,lap,ih];simp[hf];omega
  exact h2 _ (fun _=>rfl) _
 ·unfold qax;rw[e,List.flatMap_append,List.flatMap_cons,List.append_assoc]
 ·unfold qax;rw[List.length_set,e,List.flatMap_append,List.flatMap_cons,List.append_assoc];have g: ∀j,(L.set k ⟨(L.getD k default).words,s⟩).getD j default=if j=k then ⟨(L.getD k default).words,s⟩ else L.getD j default:=fun j=>jT hk
  congr 1
  ·refine qds _ _ _ fun i hi=> ?_
   rw[g,ine om]
  ·rw[g,ipo rfl];show _::_::_=_::_::_;congr 2;rw[List.flatMap_def,List.flatMap_def,List.map_map,List.map_map];refine congrArg List.flatten (List.map_congr_left fun i _=> ?_);simp only[Function.comp];rw[g,ine om]
theorem qqw{base:Nat}{L:List Rd}{i:Nat}(hi:i<L.length):((qax base L).drop (i*2)).take 2= [strs (L.getD i default).words,.osl (base+i) (L.getD i default).src.length 1 0 (L.getD i default).src.length]:=by
 obtain⟨A,B,h1,h2,_⟩:=qdt base L hi;rw[h2,show i*2=A.length by omega,List.append_assoc,List.drop_append,Nat.sub_self];simp
theorem qpU{L:List Int}{n:Nat}{g:AV→AV}(hg: ∀x,g (.int .i64 x)= .int .i64 x)(hn:n=L.length):ILe (qeh (some (.mem n 3 (qp L))) n 1 0 n g) (ql L):=by
 subst hn;rw[slOf_mem,ipo ⟨rfl,by rw[qy];omega⟩];refine ILe.sl_eq fun i hi=> ?_
 simp only[Nat.zero_add,Nat.mul_one];have e:((qp L).drop i).take 1= [.int .i64 (L.getD i 0)]:=by
  rw[List.drop_eq_getElem_cons (by rw[qy];exact hi),List.take_succ_cons,List.take_zero];have h:=qe3 (C:=L) hi;rw[zp (by rw[qy];exact hi)]at h;rw[Option.some.inj h]
 rw[e,List.map_cons,List.map_nil,hg]
theorem qmZ{base v:Nat}{L:List Rd}{n:Nat}{fz:Nat→Bool}{H:List AObj}{d:Nat}(hn:n=L.length)(hf: ∀j,j<L.length→fz (base+j)=true)(hj: ∀j,j<L.length→qA (base+j) H=some (.mem (L.getD j default).src.length 3 (qp (L.getD j default).src))):
  VLe (qeh (some (zP v 89 (qax base L))) v 2 0 n (rei fz H (d+2))) (jo L):=by
 subst hn
 by_cases h0:L= []
 ·subst h0;show VLe (qeh (some (.emp v)) v 2 0 0 _) _;rw[slOf_emp,ipo rfl];exact jf
 ·have e0:zP v 89 (qax base L)= .mem v 89 (qax base L):=jJ (fun e=>h0 (by
   have:=qcq base L
   rw[e]at this
   exact List.eq_nil_of_length_eq_zero (by simp at this;omega)))
  rw[e0,slOf_mem,ipo ⟨rfl,by rw[qcq];omega⟩];refine VLe.sl (fun i hi=> ?_);simp only[Nat.zero_add];rw[qqw hi];refine⟨ILe.refl _,?_,trivial⟩;show ILe (rei fz H (d+1+1) (.osl (base+i) _ 1 0 _)) _;rw[rei_osl,ipo (hf i hi),hj i hi];exact qpU (fun _=>rfl) rfl
theorem qtQ{A B:List AV}{a b c:AV}{n:Nat}(hn:n=A.length+1):List.take n (A++ [a,b]++B)++ [c]++List.drop (n+1) (A++ [a,b]++B)=A++ [a,c]++B:=by
 have e1:A++ [a,b]++B=(A++ [a])++(b::B):=by simp
 have e2:A++ [a,b]++B=(A++ [a]++ [b])++B:=by simp
 have h1:List.take n (A++ [a,b]++B)=A++ [a]:=by rw[e1];exact List.take_left' (by rw[lap,List.length_singleton,hn])
 have h2:List.drop (n+1) (A++ [a,b]++B)=B:=by rw[e2];exact List.drop_left' (by rw[lap,lap,List.length_singleton,List.length_singleton,hn])
 rw[h1,h2];simp
theorem qfM{hi:Int}: ∀ {S:List Int} {lo:Int},S.Pairwise (· < ·)→(∀x∈S,lo≤x∧x<hi)→S.length≤(hi-lo).toNat:=by
 intro S
 induction S with
 |nil=>intro lo _ _;exact nzl _
 |cons a S ih=>
  intro lo h1 h2;obtain⟨p1,p2⟩:=List.pairwise_cons.1 h1;have ha:=h2 a List.mem_cons_self
  have:=ih (lo:=a+1) p2 fun x hx=>⟨by have:=p1 x hx;omega,(h2 x (List.mem_cons_of_mem _ hx)).2⟩
  rw[lco];omega
theorem qCC{h M:List AObj}{a0 a1 a2 a3 a4 a5 a6 a7 a8:AObj}:(h++a0::a1::a2::a3::a4::a5::a6::a7::a8::M).length=h.length+9+M.length:=by
 simp only[lap,lco];omega
theorem qeZ{h M:List AObj}{a0 a1 a2 a3 a4 a5 a6 a7 a8:AObj}{j:Nat}:qA (h.length+9+j) (h++a0::a1::a2::a3::a4::a5::a6::a7::a8::M)=M[j]? :=by
 unfold qA;rw[List.getElem?_append_right om,show h.length+9+j-h.length=j+9 by omega];rfl
theorem qAU{h M:List AObj}{a0 a1 a2 a3 a4 a5 a6 a7 a8 o:AObj}{j:Nat}:setO (h.length+9+j) (h++a0::a1::a2::a3::a4::a5::a6::a7::a8::M) o=h++a0::a1::a2::a3::a4::a5::a6::a7::a8::M.set j o:=by
 unfold setO;rw[List.set_append_right _ _ om,show h.length+9+j-h.length=j+9 by omega];rfl
theorem qEM(x:Co)(f t:Nat)(h:List AObj)(ho:CoOk x)(ht:t≤x.col.length)(hn:x.col.length≤1000000000):ACalls Tryz.prog 232 [.agg (coC x),.int .i64 (f:Int),.int .i64 (t:Int)] h (jo (qiJ x f t)) h:=by
 have zl: ∀g,valL g .len [strs x.sig]= .int .i64 x.sig.length:=fun _=>rfl
 have zo: ∀g,okL g .len [strs x.sig]=True:=fun _=>eqt trivial
 refine acO qze ?_;simp (disch:=omega) only[qxw,coC,zl,zo,go_sem];refine qn (T:=fun i:Nat×Nat×AObj×AObj×AObj×AObj=>qI 48 [(1,.int .i64 (f:Int)),(2,.int .i64 (t:Int)),(3,.op h.length 1 0),(7,.osl (h.length+2) i.2.1 2 0 (qbW x f (t-f) i.1).length),(13,.int .i64 x.sig.length),(14,.int .i64 i.1)])
  (H:=fun i=>h++ .mem 1 26 (coC x):: .emp 1::zP i.2.1 89 (qax (h.length+9) (qbW x f (t-f) i.1))::i.2.2.1::i.2.2.2.1::i.2.2.2.2.1:: .emp 0::i.2.2.2.2.2:: .emp 0::qhu (qbW x f (t-f) i.1))
  (inv:=fun i=>i.1≤x.sig.length∧qC [i.2.2.1] 0=true∧qC [i.2.2.2.1] 0=true∧qC [i.2.2.2.2.1] 0=true∧qC [i.2.2.2.2.2] 0=true) (m:=fun i=>x.sig.length-i.1) (0,1,.emp 0,.emp 0,.emp 0,.emp 0) ⟨nzl _,rfl,rfl,rfl,rfl⟩ (Wk.temps ?_) ?_
 ·(simp only[qbW,lnl,go_sem,qj,qd,qa,qi];try (repeat' first|(with_reducible apply aiA)|(apply qh;omega)|(apply qg;rfl)|exact qk))
 rintro⟨s,v,O3,O4,O5,O7⟩ ⟨i1,j3,j4,j5,j7⟩ K hK;simp only at i1 j3 j4 j5 j7 hK;have j3': ∀m,qC (O3::m) 0=true:=fun _=>j3
 have j4': ∀m,qC (O4::m) 0=true:=fun _=>j4
 have j5': ∀m,qC (O5::m) 0=true:=fun _=>j5
 have j7': ∀m,qC (O7::m) 0=true:=fun _=>j7
 have hst:qbW x f (t-f) (s+1)=qfC (qbW x f (t-f) s) (rdG x s f (t-f)) s:=rfl;have hln:=qhw x f (t-f) s;have hsg:=ho.sg;obtain⟨L,hL⟩: ∃L,L=qbW x f (t-f) s:=⟨_,rfl⟩
 rw[←hL]at hst hln;have eL:=hL.symm
 by_cases hs:s<x.sig.length
 ·have k1:((s:Int)<x.sig.length)=True:=eqt om;have c21:=fun h=>rdP x f t s h ho ht hs hn
  obtain⟨w,hw⟩: ∃w,w=rdG x s f (t-f):=⟨_,rfl⟩
  rw[←hw]at hst;simp only[←hw]at c21;unfold coC at c21;simp (disch:=omega) only[coC,k1,eL,go_sem]
  repeat' first
   |(refine cA (c21 _) flk ?_;simp (disch:=omega) only[j3',j4',go_sem])
  have hwl:w.length≤1000000000:=by have:=qed x s f (t-f);rw[←hw]at this;omega
  have hRd:=qhv x f (t-f) s;rw[eL]at hRd;have hwL: ∀j,(L.getD j default).words.length≤1000000000:=zh L (fun r=>r.words.length≤1000000000) (by decide) fun j hj=>by
   have h1:=hRd.nn j hj;obtain⟨y,ys,e⟩:=List.exists_cons_of_ne_nil h1;have h2:=hRd.wd j hj y (by rw[e];exact List.mem_cons_self);rw[h2]
   have:=qed x y.toNat f (t-f)
   omega
  have hob:= @qmY L;refine cA (r:= .int .i64 (qjB L w)) ?c (by exact flk) ?_
  case c=>
   refine ACalls.borrow ((fdP L ⟨w,[(s:Int)]⟩ [] om hwl hwL).le ?v (qk)) rfl;simp only[List.map_cons,List.map_nil,go_sem];refine⟨qmZ rfl (fun _ _=>rfl) (fun j hj=>by rw[qeZ];exact hob hj),VLe.agg ⟨qk,VLe.sl_eq rfl (fun i hi=> ?_),trivial⟩,qk,trivial⟩;obtain rfl:i=0:=by simpa using hi
   rfl
  have eKl:=qcq (h.length+9) L;rcases qbv L w with⟨k,b1,b2,b3⟩|⟨b1,b2⟩
  ·have q1:(qjB L w<0)=False:=eqf om;have hst2:qbW x f (t-f) (s+1)=L.set k ⟨w,(L.getD k default).src++ [(s:Int)]⟩:=by
    rw[hst];unfold qfC;rw[b3,ine om,itn]
   obtain⟨A,B,a1,a2,a3⟩:=qdt (h.length+9) L b1;have a3:=a3 ((L.getD k default).src++ [(s:Int)]);have hne:(qax (h.length+9) L≠ [])=True:=eqt fun e=>by rw[e]at eKl;simp at eKl;omega
   have hob:=hob b1;rw[b2]at a2 a3;have hos:= @qqz L k ⟨w,(L.getD k default).src++ [(s:Int)]⟩;rw[←hst2]at hos a3;dsimp only at hos;obtain⟨S,hS⟩: ∃S,S=(L.getD k default).src:=⟨_,rfl⟩
   rw[←hS]at a2 a3 hob hos;rw[lap,List.length_singleton]at a3 hos;rw[qR,show qp [(s:Int)]= [AV.int .i64 (s:Int)]from rfl]at hos;have gg:(qax (h.length+9) L)[k*2+1]? =some (.osl (h.length+9+k) S.length 1 0 S.length):=by
    rw[a2,List.append_assoc,List.getElem?_append_right om,show k*2+1-A.length=1 by omega];rfl
   have gs:List.take (k*2+1) (qax (h.length+9) L)++ [.osl (h.length+9+k) (S.length+1) 1 0 (S.length+1)]++List.drop (k*2+1+1) (qax (h.length+9) L)=qax (h.length+9) (qbW x f (t-f) (s+1)):=by
    rw[a2,a3];exact qtQ om
   have eI:=qy S;have hSl:S.length≤1000:=by
    have:=(qee x f (t-f) s).src (L.getD k default) (by rw[eL,gdqA,zp b1];exact List.getElem_mem b1)
    have:=qfM (hi:=(s:Int)) (lo:=0) this.1 this.2
    rw[←hS]at this;omega
   have eown:zP v 89 (qax (h.length+9) L)= .mem v 89 (qax (h.length+9) L):=jJ (of_eq_true hne);have el2:(qbW x f (t-f) (s+1)).length=L.length:=by rw[hst2,List.length_set]
   have eown2:zP v 89 (qax (h.length+9) (qbW x f (t-f) (s+1)))= .mem v 89 (qax (h.length+9) (qbW x f (t-f) (s+1))):=jJ fun e=>by
    have:=qcq (h.length+9) (qbW x f (t-f) (s+1))
    rw[e,el2]at this;simp at this;omega
   have eTi:List.take S.length (qp S)=qp S:=ltl om;have kL:((k:Int)<L.length)=True:=eqt om;have k0:(0≤(k:Int))=True:=eqt om;rw[eown];simp (disch:=omega) only[b3,j7',gg,eKl,kL,k0,Option.getD_some,Option.isSome_some,qeZ,qAU,hob,eTi,Nat.mul_one,itn,go_sem]
   repeat' first
    |with_reducible first|intro _|apply aiA
   all_goals try exact clz
   all_goals try (simp only[ql8,qcB,qeZ,hob,qiw,qcA,if_true,Option.getD_some,eI,beq_self_eq_true];done)
   all_goals try (simp only[bne_iff_ne];omega)
   all_goals try (simp only[qcB,qeZ,hob,qcA,if_true,Option.getD_some,eI];exact nlr _)
   rw[gs];have eD:(AV.int .i64 (s:Int)::List.drop 1 (qS [i6 0] 1))= [AV.int .i64 (s:Int)]:=rfl;simp only[eD];rw[hos];refine hK _ _ (s+1,v,.mem (qr (some O3)+1) 3 [.int .i64 (s:Int)],.mem (qr (some O4)+1) 89 [strs w,.osl (h.length+3) (qr (some O3)+1) 1 0 1],O5,.mem (qr (some O7)+1) 3 [.int .i64 (s:Int)]) ⟨hs,rfl,rfl,j5,rfl⟩ (by simp only;omega) ?_;simp only[eown2,el2,coC];refine Wk.temps ?_
   (simp only[go_sem,qj,qd,qa,qi];try (repeat' first|(with_reducible apply aiA)|(apply qh;omega)|(apply qg;rfl)|exact qk))
  ·have q1:(qjB L w<0)=True:=eqt b2;have hst2:qbW x f (t-f) (s+1)=L++ [⟨w,[(s:Int)]⟩]:=by
    rw[hst];unfold qfC;rw[ipo b2]
   have eTk:List.take (L.length*2) (qax (h.length+9) L)=qax (h.length+9) L:=ltl om;simp (disch:=omega) only[q1,j5',eTk,eKl,Nat.mul_one,go_sem]
   repeat' first
    |with_reducible apply aiA
   all_goals try exact clz
   have el2:(qbW x f (t-f) (s+1)).length=L.length+1:=by rw[hst2,lap];rfl
   have eo:qhu (qbW x f (t-f) (s+1))=qhu L++ [.mem 1 3 [.int .i64 (s:Int)]]:=by rw[hst2,qqx];rfl
   have ek:qax (h.length+9) (qbW x f (t-f) (s+1))=qax (h.length+9) L++ [strs w,.osl (h.length+9+L.length) 1 1 0 1]:=by rw[hst2,qmX];rfl
   have eown:zP (v+1) 89 (qax (h.length+9) L++ [strs w,.osl (h.length+3) (qr (some O3)+1) 1 0 1])= .mem (v+1) 89 (qax (h.length+9) L++ [strs w,.osl (h.length+3) (qr (some O3)+1) 1 0 1]):=jJ (by simp);have eown2:zP (v+1) 89 (qax (h.length+9) L++ [strs w,.osl (h.length+9+L.length) 1 1 0 1])= .mem (v+1) 89 (qax (h.length+9) L++ [strs w,.osl (h.length+9+L.length) 1 1 0 1]):=jJ (by simp);have eset:(qax (h.length+9) L++ [strs w,AV.osl (h.length+3) (qr (some O3)+1) 1 0 1]).set (L.length*2+1) (.osl (h.length+9+L.length) 1 1 0 1)=qax (h.length+9) L++ [strs w,.osl (h.length+9+L.length) 1 1 0 1]:=by
    rw[List.set_append_right _ _ om,eKl,show L.length*2+1-2*L.length=1 by omega];rfl
   rw[eown];refine hK _ _ (s+1,v+1,.emp (qr (some O3)+1+1),.mem (qr (some O4)+1) 89 [strs w,.osl (h.length+3) (qr (some O3)+1) 1 0 1],.mem (qr (some O5)+1) 89 [strs w,.osl (h.length+3) (qr (some O3)+1) 1 0 1],O7) ⟨hs,rfl,rfl,rfl,j7⟩ (by simp only;omega)
    (Wk.trans (Wk.moveCell (i:=h.length+2) (j:=h.length+3) (a:=L.length*2+1) (w:=v+1) (v:=qr (some O3)+1) (ty:=3) (ty':=89) (ds:=qax (h.length+9) L++ [strs w,.osl (h.length+3) (qr (some O3)+1) 1 0 1]) (cs:= [.int .i64 (s:Int)]) (sz:=1) (off:=0) (len:=1) ?m1 ?m2 ?m3 om) ?m4)
   case m1=>simp only[go_sem]
   case m2=>
    rw[List.getElem?_append_right om,show L.length*2+1-(qax (h.length+9) L).length=1 by omega];rfl
   case m3=>simp only[go_sem];rfl
   case m4=>
    have eD:(AV.int .i64 (s:Int)::List.drop 1 (qS [i6 0] 1))= [AV.int .i64 (s:Int)]:=rfl;have eD2: ∀c:AV,(strs w::c::List.drop 2 (qS [AV.nl,AV.nl] 1))= [strs w,c]:=fun _=>rfl
    simp only[eo,ek,eown2,el2,coC,eD,eD2,qCC,qqy,go_sem,eset,List.append_assoc,lca];refine Wk.temps ?_
    (simp only[go_sem,qj,qd,qa,qi];try (repeat' first|(with_reducible apply aiA)|(apply qh;omega)|(apply qg;rfl)|exact qk))
 ·have k1:((s:Int)<x.sig.length)=False:=eqf om;obtain rfl:s=x.sig.length:=by omega
  have hF:qiJ x f t=L:=by rw[hL];rfl
  rw[hF];simp (disch:=omega) only[k1,eL,go_sem]
  repeat' first
   |(apply qb;exact rvk;simp only[go_sem])
  exact qmZ rfl (fun j _=>dqt om) (fun j hj=>by rw[qeZ];exact qmY hj)
theorem qD1(l:List Un)(f t:Nat)(k v k2 v2:Nat)(h:List AObj)(hk:qA k h=some (.mem v 3 [.int .i64 (f:Int)]))(hk2:qA k2 h=some (.mem v2 3 [.int .i64 (t:Int)]))(hn:l.length≤1000000000):
  ACalls Tryz.prog 54 [zf l,.fn (.func 234) [] [.op k v 0,.op k2 v2 0]] h (.bool (rnB l (f,t))) h:=by
 have hc:=qQ hk;have hc2:=qQ hk2;unfold zf rnB;refine qo9 qCi ⟨rfl,rfl⟩ ⟨rfl,rfl⟩ (qba qrT l.length (fun j=>unC (l.getD j default)) (fun j=> .agg (unC (l.getD j default))) _ [] [.op k v 0,.op k2 v2 0] _ h (fun i _=>⟨rfl,by simp[ji,unC],rfl,rfl,rfl⟩) (fun i _=> ?_) om);refine ACalls.borrow ?_ rfl;have e:([AV.agg (unC (l.getD i default))]++ [AV.op k v 0,AV.op k2 v2 0]).map (rei (fun _=>true) h 8)= [.agg (unC (l.getD i default)),.ip [.int .i64 (f:Int)],.ip [.int .i64 (t:Int)]]:=by
  simp only[lca,lna,List.map_cons,List.map_nil,rei_op,if_true,hc,hc2,ipOf_some,List.drop_zero,rei_agg];rfl
 rw[lna,e];exact qEN _ _ _ _
theorem qoF(l:List Un)(i:Nat):beH l (i+1)=(l.getD i default).to:=by unfold beH;rw[ine om,Nat.add_sub_cancel]
theorem quG(u:Un)(n v:Nat)(ty:TypeId):lowO n (.mem v ty (unC u)):=by
 intro c hc;simp only[unC,List.mem_cons,List.not_mem_nil,or_false]at hc;rcases hc with rfl|rfl|rfl<;>rfl
theorem qvh(x:Co): ∀a∈rnX x,a.length=2:=by
 intro a ha;unfold rnX at ha;obtain⟨_,_,rfl⟩:=List.mem_map.1 ha;rfl
theorem qm6(x:Co):(rnX x).length=(qgl (cmB x) x.col.length).length:=by simp[rnX]
theorem qvg{x:Co}{i:Nat}(hi:i<(rnX x).length):(rnX x)[i]= [.int .i64 (((qgl (cmB x) x.col.length).getD i (0,0)).1:Int),.int .i64 (((qgl (cmB x) x.col.length).getD i (0,0)).2:Int)]:=by
 have h2:i<(qgl (cmB x) x.col.length).length:=by rw[←qm6];exact hi
 simp only[rnX,List.getElem_map];rw[gdqA,zp h2];rfl
theorem qu9(x:Co)(f d:Nat)(hd:d≤1000000000)(s:Nat)(hs:s≤1000000000):qsJ (qbW x f d s):=by
 have hI:=qee x f d s;have hH:=qhv x f d s;have hl:=qhw x f d s;refine⟨om,?_,?_⟩
 ·exact zh _ (fun r:Rd=>r.src.length≤1000000000) (by decide) fun j hj=>by
   have:=hI.src ((qbW x f d s).getD j default) (by rw[gdqA,zp hj];exact List.getElem_mem hj)
   have:=qfM (hi:=(s:Int)) (lo:=0) this.1 this.2
   omega
 ·exact zh _ (fun r:Rd=>r.words.length≤1000000000) (by decide) fun j hj=>by
   have h1:=hH.nn j hj;obtain⟨y,ys,e⟩:=List.exists_cons_of_ne_nil h1;have h2:=hH.wd j hj y (by rw[e];exact List.mem_cons_self);rw[h2]
   have:=qed x y.toNat f d
   omega
theorem qEO(x:Co)(l:List Un)(h:List AObj)(ho:CoOk x)(hn:x.col.length≤1000000000)(hu:qwJ l):ACalls Tryz.prog 177 [.agg (coC x),zf l] h (.bool (rgB x l)) h:=by
 have hsg:=ho.sg;have hl:=hu.n;obtain⟨R,hR⟩: ∃R,R=rgB x l:=⟨_,rfl⟩
 rw[←hR];unfold rgB at hR;refine acO qyS ?_;simp (disch:=omega) only[qxd,coC,zf,go_sem]
 repeat' first
  |with_reducible apply aiA
 all_goals try exact clz
 refine qn (T:=fun i:Nat×AObj=>qI 63 [(2,.op h.length 1 0),(3,.op (h.length+1) 1 0),(4,.op (h.length+2) 1 0),(5,.int .i64 (beH l i.1)),(10,zf l),(11,.int .i64 l.length),(12,.int .i64 i.1)])
  (H:=fun i=>h++ [.mem 1 26 (coC x),.mem 1 27 [zf l],.mem 1 4 [.bool false],i.2,.emp 0,.emp 0])
  (inv:=fun i=>i.1≤l.length∧qC [i.2] 0=true∧(∀n,lowO n i.2)∧ ∀j,j<i.1→unB x (beH l j) (l.getD j default)=true) (m:=fun i=>l.length-i.1) (0,.emp 0) ⟨nzl _,rfl,fun _=>trivial,fun j hj=>absurd hj (nnz j)⟩ (Wk.temps ?_) ?_
 ·(simp only[zf,beH,go_sem,qj,qd,qa,qi];try (repeat' first|(with_reducible apply aiA)|(apply qh;omega)|(apply qg;rfl)|exact qk))
 rintro⟨i,O⟩ ⟨i1,i2,il,i3⟩ K hK;simp only at i1 i2 il i3 hK;have i2': ∀m,qC (O::m) 0=true:=fun _=>i2
 by_cases hi:i<l.length
 ·have k1:((i:Int)<l.length)=True:=eqt om;have hno:unB x (beH l i) (l.getD i default)=false→R=false:=fun hx=>by
   rw[hR];unfold qop;rw[qG.2 ⟨i,hi,by rw[hx];rfl⟩];rfl
  have hS:unB x (beH l i) (l.getD i default)=true→ ∀j,j<i+1→unB x (beH l j) (l.getD j default)=true:=fun hx j hj=>by
   by_cases e:j=i
   ·subst e;exact hx
   ·exact i3 j om
  have hbs:=qoF l i;have zrd:qsJ (l.getD i default).rds:=⟨hu.rd i,hu.sr i,hu.wd i⟩
  obtain⟨u,hux⟩: ∃u,u=l.getD i default:=⟨_,rfl⟩
  have eu:=hux.symm;rw[eu]at hno hS hbs zrd;obtain⟨b,hb⟩: ∃b,b=beH l i:=⟨_,rfl⟩
  have eb:=hb.symm;rw[eb]at hno hS;have hB:unB x b u= !(decide (u.frm≤b)||(decide (u.frm<0)||(decide (u.to≤u.frm)||(decide ((x.col.length:Int)<u.to)|| !decide (u.rds=qiJ x u.frm.toNat u.to.toNat))))):=rfl
  by_cases g1:u.frm≤b
  ·have q1:(u.frm≤b)=True:=eqt g1;rw[hno (by rw[hB,dqt g1];rfl)];simp (disch:=omega) only[zf,unC,coC,qE,jo,k1,eu,eb,i2',q1,go_sem]
   repeat' first
    |(refine qm ( jo []) ?_;simp (disch:=omega) only[jo,go_sem])
    |(apply qb;exact rvk;simp only[go_sem];exact qk)
    |with_reducible apply aiA
   all_goals try exact clz
  have q1:(u.frm≤b)=False:=eqf g1
  by_cases g2:u.frm<0
  ·have q2:(u.frm<0)=True:=eqt g2;rw[hno (by rw[hB,dqt g2];simp)];simp (disch:=omega) only[zf,unC,coC,qE,jo,k1,eu,eb,i2',q1,q2,go_sem]
   repeat' first
    |(refine qm ( jo []) ?_;simp (disch:=omega) only[jo,go_sem])
    |(apply qb;exact rvk;simp only[go_sem];exact qk)
    |with_reducible apply aiA
   all_goals try exact clz
  have q2:(u.frm<0)=False:=eqf g2
  by_cases g3:u.to≤u.frm
  ·have q3:(u.to≤u.frm)=True:=eqt g3;rw[hno (by rw[hB,dqt g3];simp)];simp (disch:=omega) only[zf,unC,coC,qE,jo,k1,eu,eb,i2',q1,q2,q3,go_sem]
   repeat' first
    |(refine qm ( jo []) ?_;simp (disch:=omega) only[jo,go_sem])
    |(apply qb;exact rvk;simp only[go_sem];exact qk)
    |with_reducible apply aiA
   all_goals try exact clz
  have q3:(u.to≤u.frm)=False:=eqf g3
  by_cases g4:(x.col.length:Int)<u.to
  ·have q4:((x.col.length:Int)<u.to)=True:=eqt g4;rw[hno (by rw[hB,dqt g4];simp)];simp (disch:=omega) only[zf,unC,coC,qE,jo,k1,eu,eb,i2',q1,q2,q3,q4,go_sem]
   repeat' first
    |(refine qm ( jo []) ?_;simp (disch:=omega) only[jo,go_sem])
    |(apply qb;exact rvk;simp only[go_sem];exact qk)
    |with_reducible apply aiA
   all_goals try exact clz
  have q4:((x.col.length:Int)<u.to)=False:=eqf g4;obtain⟨f,hf⟩: ∃f:Nat,u.frm=(f:Int):=⟨u.frm.toNat,om⟩
  obtain⟨t,ht⟩: ∃t:Nat,u.to=(t:Int):=⟨u.to.toNat,om⟩
  have c48:=fun h=>qEM x f t h ho om hn
  have zF:qsJ (qiJ x f t):=qu9 x f (t-f) om x.sig.length om;have c49:=fun h=>qER u.rds (qiJ x f t) h zrd zF
  have eft:qiJ x u.frm.toNat u.to.toNat=qiJ x f t:=by rw[hf,ht,itn,itn]
  rw[dqf g1,dqf g2,dqf g3,dqf g4,eft]at hB;obtain⟨F,hF⟩: ∃F,F=qiJ x f t:=⟨_,rfl⟩
  rw[←hF]at hB;simp only[←hF]at c48 c49;obtain⟨c,hc⟩: ∃c,c=decide (u.rds=F):=⟨_,rfl⟩
  rw[←hc]at hB;simp only[←hc]at c49;rw[hf]at q1 q2 q3;rw[ht]at q3 q4;unfold coC qE at c48;unfold jo at c48 c49;cases c with
  |false=>
   rw[hno hB];simp (disch:=omega) only[zf,unC,coC,qE,jo,k1,eu,eb,i2',q1,q2,q3,q4,hf,ht,go_sem]
   repeat' first
    |((first|refine cG (fun e=>c48 _) ?_ ?_|refine cG (fun e=>c49 _) ?_ ?_);exact flk;simp (disch:=omega) only[go_sem])
    |(apply qb;exact rvk;simp only[go_sem];exact qk)
    |with_reducible apply aiA
   all_goals try exact clz
  |true=>
   simp (disch:=omega) only[zf,unC,coC,qE,jo,k1,eu,eb,i2',q1,q2,q3,q4,hf,ht,go_sem]
   repeat' first
    |((first|refine cG (fun e=>c48 _) ?_ ?_|refine cG (fun e=>c49 _) ?_ ?_);exact flk;simp (disch:=omega) only[go_sem])
    |with_reducible apply aiA
   all_goals try exact clz
   refine hK _ _ (i+1,.mem (qr (some O)+1) 83 (unC u)) ⟨hi,rfl,fun n=>quG u n _ _,hS hB⟩ (by simp only;omega) ?_;simp only[hbs,ht,unC,hf];refine Wk.temps ?_
   (simp only[zf,go_sem,qj,qd,qa,qi];try (repeat' first|(with_reducible apply aiA)|(apply qh;omega)|(apply qg;rfl)|exact qk))
 have k1:((i:Int)<l.length)=False:=eqf om;obtain rfl:i=l.length:=by omega
 have hun:qop x l=true:=by
  unfold qop;rw[qo.2 fun j hj=>by rw[i3 j hj];rfl];rfl
 rw[hun,Bool.true_and]at hR;have hcv:=qtU hun;clear hK;have c56:=fun h=>qEP x h
 unfold coC qE at c56;simp (disch:=omega) only[coC,qE,k1,go_sem]
 repeat' first
  |(refine cA (c56 _) flk ?_;simp (disch:=omega) only[go_sem])
 obtain⟨rs,hrs⟩: ∃rs,rs=qgl (cmB x) x.col.length:=⟨_,rfl⟩
 have hrl:=qm6 x;have hrg:=fun i hi=>qvg (x:=x) (i:=i) hi
 rw[←hrs]at hrl hcv;simp only[←hrs]at hrg;refine qaT (xs:=rnX x) (itR x ho hn) (qvh x)
  (S:=fun i hh=>(∃O8 O9,qC [O8] 0=true∧qC [O9] 0=true∧(∀n,lowO n O8)∧(∀n,lowO n O9)∧hh=h++ [.mem 1 26 (coC x),.mem 1 27 [zf l],.mem 1 4 [.bool false],O,O8,O9])∧ ∀j,j<i→rnB l (rs.getD j (0,0))=true)
  (E:=fun s hh=>s= .ret∧R=false∧ ∃O8 O9,(∀n,lowO n O8)∧(∀n,lowO n O9)∧hh=h++ [.mem 1 26 (coC x),.mem 1 27 [zf l],.mem 1 4 [.bool false],O,O8,O9]) ?_ ?_ ?_ ?_ ?_ ?_ ?_
 ·rintro i hh ⟨⟨O8,O9,_,_,l8,l9,rfl⟩,_⟩;refine LowI.app rfl (fun o ho=> ?_);simp only[List.mem_cons,List.not_mem_nil,or_false]at ho;rcases ho with rfl|rfl|rfl|rfl|rfl|rfl
  ·left;simp[coC,qE]
  ·left;simp
  ·left;simp
  ·left;simp
  ·right;exact⟨l8 _,l8 _⟩
  ·right;exact⟨l9 _,l9 _⟩
 ·rintro s hh ⟨_,_,O8,O9,l8,l9,rfl⟩;refine LowI.app rfl (fun o ho=> ?_);simp only[List.mem_cons,List.not_mem_nil,or_false]at ho;rcases ho with rfl|rfl|rfl|rfl|rfl|rfl
  ·left;simp[coC,qE]
  ·left;simp
  ·left;simp
  ·left;simp
  ·right;exact⟨l8 _,l8 _⟩
  ·right;exact⟨l9 _,l9 _⟩
 ·exact⟨⟨.emp 0,.emp 0,rfl,rfl,fun _=>trivial,fun _=>trivial,rfl⟩,fun j hj=>absurd hj (nnz j)⟩
 ·have lu: ∀n,lowV n (zf l)=true:=fun _=>rfl
  have lt: ∀n,lowV n (qP x.tok)=true:=fun _=>rfl
  simp[lowV,lowV.lowVs,lu,lt,qdZ]
  try omega
 ·rintro i hh tl LI TS hi ⟨⟨O8,O9,s8,s9,l8,l9,rfl⟩,hj⟩ hlen K K2 hK hN hR' hX;rw[hrg i hi];rw[hrl]at hi;obtain⟨⟨f,t⟩,hr⟩: ∃r,r=rs.getD i (0,0):=⟨_,rfl⟩
  have er:=hr.symm;rw[er];have s8': ∀m,qC (O8::m) 0=true:=fun _=>s8
  have s9': ∀m,qC (O9::m) 0=true:=fun _=>s9
  simp only[qb8];simp (disch:=omega) only[List.append_assoc,coC,s8',s9',go_sem];refine hK _ _ (h++ [.mem 1 26 (coC x),.mem 1 27 [zf l],.mem 1 4 [.bool false],O,.mem (qr (some O8)+1) 3 [.int .i64 (f:Int)],.mem (qr (some O9)+1) 3 [.int .i64 (t:Int)]]) (by simp[coC]) (by simp) ?_;simp (disch:=omega) only[List.append_assoc,go_sem]
  repeat' first
   |with_reducible apply aiA
  all_goals try exact clz
  refine cA (qD1 l f t (h.length+4) _ (h.length+5) _ _ ?ka ?kb hl) (by exact flk) ?_
  case ka=>simp only[go_sem]
  case kb=>simp only[go_sem]
  have l8': ∀n,lowO n (.mem (qr (some O8)+1) 3 [.int .i64 (f:Int)]):=fun n c hc=>by simp at hc;subst hc;rfl
  have l9': ∀n,lowO n (.mem (qr (some O9)+1) 3 [.int .i64 (t:Int)]):=fun n c hc=>by simp at hc;subst hc;rfl
  cases hb:rnB l (f,t)with
  |true=>
   simp (disch:=omega) only[go_sem];refine hN _ _ (h++ [.mem 1 26 (coC x),.mem 1 27 [zf l],.mem 1 4 [.bool false],O,.mem (qr (some O8)+1) 3 [.int .i64 (f:Int)],.mem (qr (some O9)+1) 3 [.int .i64 (t:Int)]]) (by simp[coC]) (by simp) ⟨⟨_,_,rfl,rfl,l8',l9',rfl⟩,fun j hj'=> ?_⟩
   by_cases e:j=i
   ·subst e;rw[er];exact hb
   ·exact hj j om
  |false=>
   have hRf:R=false:=by
    rw[hR];cases hc:cvA x l with
    |false=>rfl
    |true=>
     have h2:=List.all_eq_true.1 (hcv.2 hc) (f,t) (by rw[hr,gdqA,zp hi];exact List.getElem_mem hi);rw[hb]at h2;cases h2
   simp (disch:=omega) only[go_sem];refine hR' _ _ (h++ [.mem 1 26 (coC x),.mem 1 27 [zf l],.mem 1 4 [.bool false],O,.mem (qr (some O8)+1) 3 [.int .i64 (f:Int)],.mem (qr (some O9)+1) 3 [.int .i64 (t:Int)]]) (by simp[coC]) (by simp) ⟨rfl,hRf,_,_,l8',l9',rfl⟩
 ·rintro hh ⟨⟨O8,O9,s8,s9,l8,l9,rfl⟩,hj⟩;have hRt:R=true:=by
   rw[hR];refine hcv.1 (List.all_eq_true.2 fun r hr=> ?_);obtain⟨j,hj1,rfl⟩:=List.getElem_of_mem hr
   have:=hj j (by rw[hrl];exact hj1)
   rw[gdqA,zp hj1]at this;exact this
  rw[hRt];simp (disch:=omega) only[go_sem]
  repeat' first
   |(apply qb;exact rvk;simp only[go_sem];exact qk)
 ·rintro e hh ⟨rfl,hRf,O8,O9,l8,l9,rfl⟩;rw[hRf];simp (disch:=omega) only[go_sem]
  repeat' first
   |(apply qb;exact rvk;simp only[go_sem];exact qk)
theorem vaP(x:Co)(l:List Un)(h:List AObj)(hz:qwp x)(hu:qwJ l)(hp:qag SG h):ACalls Tryz.prog 111 [.agg (coC x),zf l] h (.int .i64 (vaE x l)) h:=by
 have c1:=fun l'=>coP x (h++l') hz (hp.app l')
 unfold vaE
 by_cases g:coE x=0
 case neg=>
  have k1:(coE x=0)=False:=eqf g;rw[ipo g];obtain⟨e,he⟩: ∃e,e=coE x:=⟨_,rfl⟩
  rw[←he]at c1 k1;unfold coC at c1;refine acO qrL ?_;simp (disch:=omega) only[qs4,coC,go_sem]
  repeat' first
   |(refine cA (c1 _) flk ?_;simp (disch:=omega) only[k1,go_sem])
   |(apply qb;exact rvk;simp only[go_sem];exact qk)
 rw[ine (fun hc=>hc g)];have c2:=fun h=>qEO x l h (qk9 g) hz.cl hu
 rw[g]at c1;unfold coC at c1 c2;cases g2:rgB x l<;>rw[g2]at c2
 all_goals
  refine acO qrL ?_;simp (disch:=omega) only[qs4,coC,go_sem]
  repeat' first
   |((first|refine cA (c1 _) ?_ ?_|refine cA (c2 _) ?_ ?_);exact flk;simp (disch:=omega) only[go_sem])
   |(apply qb;exact rvk;simp only[go_sem];exact qk)
end RC
end
section
open Go Go.Proofs AF
def quy:List Nat:= [1000072,1000073,1000075,1000076,1000077,1000078,1000079]
def qBP:C:=
 ((C.ops [O1 3 (.box 0 26) 0,MC 6 (i6 0)]).seq (((C.ops [O1 18 (.load (some 4)) 3,MV 19 1,O2 20 (.call 111 true) 18 19,MV 7 20]).seq ((C.ops [MV 21 7,BC 22 .neq 21 (i6 0)]).seq
 (C.cond (.t 22) ((C.ops [MV 23 7,MV 6 23]).seq C.ret) C.skip))).seq ((C.ops [O1 24 (.fldA 3) 3,LD 25 24,O1 26 .len 25,⟨some 27,none,.mkslc 1 1 3 [i6 0] 8,[.t 26,.t 26]⟩,MV
 8 27]).seq ((C.ops [⟨some 9,none,.alloc 2 64 [.str [],i6 0,i6 0,i6 0,.bool false,.bool false,.str []],[]⟩]).seq (((C.ops [MV 28 2,O1 29 .len 28,MC 30 (i6 0)]).seq
 (C.block 0 ((C.ops [BI 31 .lss 30 29]).seq ((C.cond (.t 31) C.skip (C.exit 0)).seq ((C.block 1 ((C.ops [MV 32 30,O2 33 (.idxA 7) 28 30,O1 34 (.load (some 7)) 33,⟨some 11,none,
 .alloc 3 64 [.str [],i6 0,i6 0,i6 0,.bool false,.bool false,.str []],[]⟩,MV 10 32,ST 7 11 34]).seq (((C.ops [O1 35 (.load (some 4)) 3,MV 36 1,O1 37 (.load (some 7)) 11,
 O1 38 (.load (some 7)) 9,MV 39 10,BC 40 .eql 39 (i6 0),ON 41 (.call 112 true) [.t 35,.t 36,.t 37,.t 38,.t 40],MV 12 41]).seq ((C.ops [MV 42 12,BC 43 .neq 42 (i6 0)]).seq
 (C.cond (.t 43) ((C.ops [MV 44 12,MV 6 44]).seq C.ret) C.skip))).seq ((C.ops [O1 45 (.load (some 7)) 11,ST 7 9 45]).seq (C.ops [MV 46 8,O1 47 (.fldA 1) 11,LD 48 47,O2 49
 (.idxA 1) 46 48,LD 50 49,BC 51 .add 50 (i6 1),O2 52 (.idxA 1) 46 48,ST 1 52 51]))))).seq (C.ops [BC 53 .add 30 (i6 1),MV 30 53])))).loop)).seq (((C.ops [O1 54 (.fldA 3) 3,LD
 55 54,O1 56 .len 55,MC 57 (i6 0)]).seq (C.block 2 ((C.ops [BI 58 .lss 57 56]).seq ((C.cond (.t 58) C.skip (C.exit 2)).seq ((C.block 3 ((C.ops [MV 59 57,O2 60 (.idxA 1) 55 57,LD
 61 60,⟨some 13,none,.alloc 4 3 [i6 0],[]⟩,ST 1 13 59,MV 14 61]).seq (((C.ops [MV 63 1,LD 64 13,O2 65 (.call 113 true) 63 64,MV 62 65,O1 66 (.ext 0) 62,O1 67 (.ext 1) 62,
 MV 15 66,MV 16 67]).seq ((C.ops [MV 68 15,BC 69 .geq 68 (i6 0)]).seq (C.cond (.t 69) (C.exit 3) C.skip))).seq ((C.draw (DT.one ⟨some 74,none,.mv,[.t 14]⟩ (DT.one ⟨some 75,
 none,.idxI 1,[.t 74,.c (i6 0)]⟩ (DT.one ⟨some 76,none,.loadI none,[.t 75]⟩ ((DT.one ⟨some 70,none,.fldA 2,[.t 3]⟩ ((DT.one ⟨some 71,none,.load none,[.t 70]⟩ (DT.one
 ⟨some 72,none,.idxI 1,[.t 71,.c (i6 0)]⟩ (DT.one ⟨some 73,none,.loadI none,[.t 72]⟩ (DT.one ⟨some 77,none,.idxI 6,[.t 73,.t 76]⟩ (DT.one ⟨some 78,none,.fldI 0,[.t
 77]⟩ (DT.one ⟨some 79,none,.loadI none,[.t 78]⟩ (DT.one ⟨some 17,none,.alloc 5 9 [.str []],[]⟩ (DT.one ⟨none,none,.store 1,[.t 17,.t 79]⟩ DT.nil)))))))).two (DT.one ⟨some
 17,none,.alloc 5 9 [.str []],[]⟩ (DT.one ⟨some 71,none,.load none,[.t 70]⟩ (DT.one ⟨some 72,none,.idxI 1,[.t 71,.c (i6 0)]⟩ (DT.one ⟨some 73,none,.loadI none,[.t 72]⟩
 (DT.one ⟨some 77,none,.idxI 6,[.t 73,.t 76]⟩ (DT.one ⟨some 78,none,.fldI 0,[.t 77]⟩ (DT.one ⟨some 79,none,.loadI none,[.t 78]⟩ (DT.one ⟨none,none,.store 1,[.t 17,.t
 79]⟩ DT.nil)))))))))).two (DT.one ⟨some 17,none,.alloc 5 9 [.str []],[]⟩ (DT.one ⟨some 70,none,.fldA 2,[.t 3]⟩ (DT.one ⟨some 71,none,.load none,[.t 70]⟩ (DT.one ⟨some 72,
 none,.idxI 1,[.t 71,.c (i6 0)]⟩ (DT.one ⟨some 73,none,.loadI none,[.t 72]⟩ (DT.one ⟨some 77,none,.idxI 6,[.t 73,.t 76]⟩ (DT.one ⟨some 78,none,.fldI 0,[.t 77]⟩ (DT.one
 ⟨some 79,none,.loadI none,[.t 78]⟩ (DT.one ⟨none,none,.store 1,[.t 17,.t 79]⟩ DT.nil)))))))))))))).seq ((C.ops [MV 80 8,LD 81 13,O2 82 (.idxA 1) 80 81,LD 83 82,BC 84
 .neq 83 (i6 1),MV 85 84,MG 86 85 false 2,P2 87 85 false (.mkfn (Fn.func 114) 0) 13 17,P2 88 85 false (.call 92 true) 86 87,P1 89 85 false (.un UnOp.not) 88,PT 90 85 89]).seq
 (C.cond (.t 90) ((C.ops [MC 6 (i6 9)]).seq C.ret) C.skip)))))).seq (C.ops [BC 91 .add 57 (i6 1),MV 57 91])))).loop)).seq ((C.ops [MC 6 (i6 0)]).seq
 C.ret)))))))
theorem qzK:qB Tryz.prog 38 92 6 [RV.tmp 6] qBP:=fi Tryz.f38 [3,27,9,11,13,17] quy []
end
section
open Go Go.Proofs AF HY LN
namespace RC
theorem pc1(w:Wd)(c:Int)(s:Str)(h:List AObj):ACalls Tryz.prog 114 [.agg (wdC w),.ip [.int .i64 c],.ip [.str s]] h (.bool (decide (w.col=c)&&decide (w.text=s))) h:=by
 by_cases g:w.col=c
 ·have k1:(w.col=c)=True:=eqt g;rw[dqt g,Bool.true_and];refine acO qrN ?_;simp (disch:=omega) only[qs6,wdC,k1,go_sem]
  repeat' first
   |(apply qb;exact rvk;simp only[go_sem];exact qk)
   |with_reducible apply aiA
  all_goals try exact clz
 ·have k1:(w.col=c)=False:=eqf g;rw[dqf g,Bool.false_and];refine acO qrN ?_;simp (disch:=omega) only[qs6,wdC,k1,go_sem]
  repeat' first
   |(apply qb;exact rvk;simp only[go_sem];exact qk)
   |with_reducible apply aiA
  all_goals try exact clz
theorem qD0(b:List Wd)(c:Int)(s:Str)(k v k2 v2:Nat)(h:List AObj)(hk:qA k h=some (.mem v 3 [.int .i64 c]))(hk2:qA k2 h=some (.mem v2 9 [.str s]))(hn:b.length≤1000000000):
  ACalls Tryz.prog 92 [qZ b,.fn (.func 114) [] [.op k v 0,.op k2 v2 0]] h (.bool (zd (fun i=>decide ((b.getD i default).col=c)&&decide ((b.getD i default).text=s)) b.length)) h:=by
 have hc:=qQ hk;have hc2:=qQ hk2;unfold qZ;refine qo9 qzS ⟨rfl,rfl⟩ ⟨rfl,rfl⟩ (qba qrK b.length (fun j=>wdC (b.getD j default)) (fun j=> .agg (wdC (b.getD j default))) _ [] [.op k v 0,.op k2 v2 0] _ h (fun i _=>⟨rfl,by simp[ji,wdC],rfl,rfl,rfl⟩) (fun i _=> ?_) om);refine ACalls.borrow ?_ rfl;have e:([AV.agg (wdC (b.getD i default))]++ [AV.op k v 0,AV.op k2 v2 0]).map (rei (fun _=>true) h 8)= [.agg (wdC (b.getD i default)),.ip [.int .i64 c],.ip [.str s]]:=by
  simp only[lca,lna,List.map_cons,List.map_nil,rei_op,if_true,hc,hc2,ipOf_some,List.drop_zero,rei_agg];rfl
 rw[lna,e];exact pc1 _ c s _
theorem qvR{x:Co}{l:List Un}{w bef:Wd}{first:Bool}(h:wdE x l w bef first=0):0≤w.col∧w.col<x.col.length:=by
 unfold wdE at h;split at h
 ·cases h
 split at h
 ·cases h
 ·omega
theorem quW{x:Co}{l:List Un}(ho:CoOk x)(hv:cvA x l=true){c:Nat}(hc:c<x.col.length)(hf:fnU l c<0):0≤(x.col.getD c []).getD 0 0∧(x.col.getD c []).getD 0 0<((x.tok.getD 0 []).length:Int):=by
 unfold cvA at hv;rw[Bool.not_eq_true',qo]at hv;have h1:=hv c hc;have h2:cvB l c=false:=by
  cases e:cvB l c with
  |false=>rfl
  |true=>
   unfold cvB at e;obtain⟨i,hi,hp⟩:=qG.1 e;rw[Bool.and_eq_true,decide_eq_true_iff,decide_eq_true_iff]at hp;exact absurd hp (qsi hf hi)
 rw[h2,Bool.not_false,Bool.true_and,Bool.not_eq_false']at h1;unfold cmB at h1;rw[Bool.not_eq_true',qo]at h1;have h3:=h1 0 ho.sg.1;rw[Bool.or_eq_false_iff]at h3;have h4:clT x c 0≠none:=of_decide_eq_false h3.1;unfold clT at h4;split at h4
 ·exact absurd rfl h4
 ·rename_i g;rcases ho.ce c hc 0 ho.sg.1 with e|⟨_,e⟩
  ·omega
  ·exact⟨om,e⟩
def cwA(b:List Wd)(i k:Nat):AV:= .int .i64 (cW b (k:Int) i:Int)
theorem qBY(b:List Wd)(c:Int): ∀i,cW b c i≤i:=by
 intro i
 induction i with
 |zero=>exact nlr _
 |succ i ih=>unfold cW;split<;>omega
theorem qpe{b:List Wd}{i u n:Nat}(hu:u<n)(h:(b.getD i default).col=(u:Int)):List.take u (gC (cwA b i) n)++ [.int .i64 ((cW b (u:Int) i:Int)+1)]++List.drop (u+1) (gC (cwA b i) n)=gC (cwA b (i+1)) n:=by
 rw[qsk _ hu];refine qaC fun k hk=> ?_
 unfold cwA;have e:cW b (k:Int) (i+1)=cW b (k:Int) i+if (b.getD i default).col=(k:Int) then 1 else 0:=rfl
 rw[e]
 by_cases g:k=u
 ·subst g;rw[ipo rfl,ipo h];rfl
 ·rw[ine g,ine (by rw[h];omega)];rfl
theorem pvP(x:Co)(l:List Un)(b:List Wd)(h:List AObj)(hz:qwp x)(hu:qwJ l)(hb:b.length≤1000000000)(ht: ∀i,(b.getD i default).text.length≤1000000000)(hp:qag SG h):
  ACalls Tryz.prog 38 [.agg (coC x),zf l,qZ b] h (.int .i64 (pvE x l b)) h:=by
 have c1:=fun l'=>vaP x l (h++l') hz hu (hp.app l')
 obtain⟨R,hR⟩: ∃R,R=pvE x l b:=⟨_,rfl⟩
 rw[←hR];unfold pvE at hR
 by_cases g:vaE x l=0
 case neg=>
  have k1:(vaE x l=0)=False:=eqf g;rw[ipo g]at hR;rw[hR];obtain⟨e,he⟩: ∃e,e=vaE x l:=⟨_,rfl⟩
  rw[←he]at c1 k1 ⊢;unfold coC at c1;refine acO qzK ?_;simp (disch:=omega) only[qBP,coC,go_sem]
  repeat' first
   |(refine cA (c1 _) flk ?_;simp (disch:=omega) only[k1,go_sem])
   |(apply qb;exact rvk;simp only[go_sem];exact qk)
 rw[ine (fun hc=>hc g)]at hR;rw[g]at c1;unfold coC qE at c1;have hv:coE x=0∧qop x l=true∧cvA x l=true:=by
  unfold vaE at g;split at g
  ·cases g
  rename_i g1;split at g
  ·cases g
  rename_i g2;have g2:rgB x l=true:=by simpa using g2
  unfold rgB at g2;rw[Bool.and_eq_true]at g2;exact⟨Classical.not_not.1 g1,g2⟩
 have ho:=qk9 hv.1;have hcl:=hz.cl;have k0:(0≤(x.col.length:Int))=True:=eqt om;have k1:((x.col.length:Int)≤9223372036854775807)=True:=eqt om;refine acO qzK ?_;simp (disch:=omega) only[qBP,coC,qE,qZ,go_sem]
 repeat' first
  |(refine cA (c1 _) flk ?_;simp (disch:=omega) only[k0,go_sem])
  |with_reducible apply aiA
 all_goals try exact clz
 all_goals try rw[itn]
 rw[qlP];have e0:gC (fun _=>AV.int .i64 0) x.col.length=gC (cwA b 0) x.col.length:=qaC fun k _=>rfl
 rw[e0];refine qn (T:=fun i:Nat×Nat×AObj=>qI 92 [(1,zf l),(2,qZ b),(3,.op h.length 1 0),(8,.osl (h.length+1) 1 1 0 x.col.length),(9,.op (h.length+2) i.2.1 0),(28,qZ b),(29,.int .i64 b.length),(30,.int .i64 i.1)])
  (H:=fun i=>h++ [.mem 1 26 (coC x),.mem 1 3 (gC (cwA b i.1) x.col.length),.mem i.2.1 64 (wdC (qjK b i.1)),i.2.2,.emp 0,.emp 0])
  (inv:=fun i=>i.1≤b.length∧qC [i.2.2] 0=true∧ ∀j,j<i.1→qoq x l b j=0) (m:=fun i=>b.length-i.1) (0,1,.emp 0) ⟨nzl _,rfl,fun j hj=>absurd hj (nnz j)⟩ (Wk.temps ?_) ?_
 ·(simp only[qZ,zf,go_sem,qj,qd,qa,qi];try (repeat' first|(with_reducible apply aiA)|(apply qh;omega)|(apply qg;rfl)|exact qk))
 rintro⟨i,v,O⟩ ⟨i1,i2,i3⟩ K hK;simp only at i1 i2 i3 hK;have i2': ∀m,qC (O::m) 0=true:=fun _=>i2
 by_cases hi:i<b.length
 ·have k2:((i:Int)<b.length)=True:=eqt om;have hE:=qO (f:=qoq x l b) hi i3;have hS:qoq x l b i=0→ ∀j,j<i+1→qoq x l b j=0:=fun hx j hj=>by
   by_cases e:j=i
   ·subst e;exact hx
   ·exact i3 j om
  have c2:=fun h=>qFe x l (b.getD i default) (qjK b i) (decide (i=0)) h hu.n hcl (ht i)
  have hw:qoq x l b i=wdE x l (b.getD i default) (qjK b i) (decide (i=0)):=rfl;have hrg:= @qvR x l (b.getD i default) (qjK b i) (decide (i=0));have hbn:qjK b (i+1)=b.getD i default:=by unfold qjK;rw[ine om,Nat.add_sub_cancel]
  have hcs:=fun u=> @qpe b i u x.col.length
  have hle:=fun c=>qBY b c i
  have ei:decide ((i:Int)=0)=decide (i=0):=decide_eq_decide.2 om;obtain⟨w,hwx⟩: ∃w,w=b.getD i default:=⟨_,rfl⟩
  have ew:=hwx.symm;obtain⟨w0,hw0⟩: ∃w0,w0=qjK b i:=⟨_,rfl⟩
  have ew0:=hw0.symm;simp only[ew]at c2 hw hrg hbn hcs;simp only[ew0]at c2 hw hrg;rw[←hw]at hrg;simp only[←hw]at c2;obtain⟨e,he⟩: ∃e,e=qoq x l b i:=⟨_,rfl⟩
  rw[←he]at hE hS hrg;simp only[←he]at c2;obtain⟨fb,hfb⟩: ∃fb,fb=decide (i=0):=⟨_,rfl⟩
  rw[←hfb]at ei;simp only[←hfb]at c2;unfold coC qE wdC at c2
  by_cases g1:e=0
  case neg=>
   have k3:(e=0)=False:=eqf g1;have hV:R=e:=by rw[hR,ipo (by rw[hE g1];exact g1),hE g1]
   rw[hV];simp (disch:=omega) only[coC,qE,qZ,wdC,k2,ew,ew0,ei,i2',go_sem]
   repeat' first
    |(refine cA (c2 _) flk ?_;simp (disch:=omega) only[k3,go_sem])
    |(apply qb;exact rvk;simp only[go_sem];exact qk)
    |with_reducible apply aiA
   all_goals try exact clz
  have k3:(e=0)=True:=eqt g1;obtain⟨r1,r2⟩:=hrg g1;obtain⟨u,hu'⟩: ∃u:Nat,w.col=(u:Int):=⟨w.col.toNat,om⟩
  simp only[hu']at c2;have un:u<x.col.length:=by omega
  have t2:(0≤(u:Int))=True:=eqt om;have t3:((u:Int)<x.col.length)=True:=eqt om;have t4:(u<x.col.length)=True:=eqt un;have t5:(u+1≤x.col.length)=True:=eqt un;have gl:=qat (cwA b i) x.col.length;have gg:=qcH (g:=cwA b i) un;have hst:=hcs u un hu';have hle:=hle (u:Int);have hcw:cwA b i u= .int .i64 (cW b (u:Int) i:Int):=rfl;rw[hcw]at gg;obtain⟨q,hq⟩: ∃q,q=cW b (u:Int) i:=⟨_,rfl⟩
  rw[←hq]at gg hst hle;have b2:((q:Int)+1≤9223372036854775807)=True:=eqt om;have b3:(-9223372036854775808≤(q:Int)+1)=True:=eqt om;simp (disch:=omega) only[coC,qE,qZ,wdC,k2,ew,ew0,ei,i2',hu',Nat.zero_add,Option.isSome_some,go_sem]
  repeat' first
   |(refine cA (c2 _) flk ?_;simp (disch:=omega) only[k3,t2,t3,t4,t5,gl,gg,hst,Nat.mul_one,Nat.zero_add,Option.isSome_some,go_sem])
   |with_reducible apply aiA
  all_goals try exact clz
  try rw[hst]
  refine hK _ _ (i+1,v,.mem (qr (some O)+1) 64 (wdC w)) ⟨hi,rfl,hS g1⟩ (by simp only;omega) ?_;simp only[hbn,wdC,hu'];refine Wk.temps ?_
  (simp only[qZ,zf,go_sem,qj,qd,qa,qi];try (repeat' first|(with_reducible apply aiA)|(apply qh;omega)|(apply qg;rfl)|exact qk))
 have k2:((i:Int)<b.length)=False:=eqf om;obtain rfl:i=b.length:=by omega
 have hn0:=qz (f:=qoq x l b) (fun j (hj:j<b.length)=>i3 j hj);rw[ine (fun hc=>hc hn0)]at hR;clear hK;obtain⟨w0,hw0⟩: ∃w0,w0=qjK b b.length:=⟨_,rfl⟩
 have ew0:=hw0.symm;rw[ew0];simp (disch:=omega) only[coC,qE,qZ,k2,i2',go_sem]
 repeat' first
  |with_reducible apply aiA
 all_goals try exact clz
 obtain⟨cb,hcb⟩: ∃f:Nat→Int,f=qB2 x l b:=⟨_,rfl⟩
 rw[←hcb]at hR;have z0:((0:Nat):Int)=0:=rfl;have hto:0<x.tok.length:=by have:=ho.tn;have:=ho.sg;omega
 refine qn (T:=fun i:Nat×AObj×AObj=>qI 92 [(1,zf l),(2,qZ b),(3,.op h.length 1 0),(8,.osl (h.length+1) 1 1 0 x.col.length),(55,qE x.col),(56,.int .i64 x.col.length),(57,.int .i64 i.1)])
  (H:=fun i=>h++ [.mem 1 26 (coC x),.mem 1 3 (gC (cwA b b.length) x.col.length),.mem v 64 (wdC w0),O,i.2.1,i.2.2])
  (inv:=fun i=>i.1≤x.col.length∧qC [i.2.1] 0=true∧qC [i.2.2] 0=true∧ ∀j,j<i.1→cb j=0) (m:=fun i=>x.col.length-i.1) (0,.emp 0,.emp 0) ⟨nzl _,rfl,rfl,fun j hj=>absurd hj (nnz j)⟩ (Wk.temps ?_) ?_
 ·(simp only[qZ,zf,qE,go_sem,qj,qd,qa,qi];try (repeat' first|(with_reducible apply aiA)|(apply qh;omega)|(apply qg;rfl)|exact qk))
 rintro⟨i,O1,O2⟩ ⟨i1,j1,j2,j3⟩ K hK;simp only at i1 j1 j2 j3 hK;have j1': ∀m,qC (O1::m) 0=true:=fun _=>j1
 have j2': ∀m,qC (O2::m) 0=true:=fun _=>j2
 by_cases hi:i<x.col.length
 ·have k3:((i:Int)<x.col.length)=True:=eqt om;have t2:(0≤(i:Int))=True:=eqt om;have hE:=qO (f:=cb) hi j3;have hS:cb i=0→ ∀j,j<i+1→cb j=0:=fun hx j hj=>by
   by_cases e:j=i
   ·subst e;exact hx
   ·exact j3 j om
  have hci:cb i=if 0≤fnU l (i:Int) then 0 else if ccB x b i=true then 0 else 9:=by rw[hcb];rfl
  have hcc:ccB x b i=(decide (cW b (i:Int) b.length=1)&&zd (fun j=>decide ((b.getD j default).col=(i:Int))&&decide ((b.getD j default).text=txA x i)) b.length):=rfl;have hto2:= @quW x l ho hv.2.2 i hi;have eF:fnR l (i:Int)=fnU l (i:Int):=ine om;have eE:fnE (i:Int)=0:=ine om;have c3:=fun h=>qDy l (i:Int) h hu.n
  simp only[eF,eE]at c3;have htx:txA x i=((x.tok.getD 0 []).getD ((x.col.getD i []).getD 0 0).toNat default).text:=rfl;have hcl0:=ho.cl i hi;obtain⟨c,hcx⟩: ∃c,c=x.col.getD i []:=⟨_,rfl⟩
  have ec:=hcx.symm;rw[ec]at hto2 htx hcl0;obtain⟨t,htt⟩: ∃t,t=c.getD 0 0:=⟨_,rfl⟩
  have et:=htt.symm;rw[et]at hto2 htx;obtain⟨tk,htk⟩: ∃tk,tk=x.tok.getD 0 []:=⟨_,rfl⟩
  have etk:=htk.symm;rw[etk]at hto2 htx;obtain⟨p,hpx⟩: ∃p,p=fnU l (i:Int):=⟨_,rfl⟩
  rw[←hpx]at hci hto2;simp only[←hpx]at c3;unfold zf at c3
  by_cases g1:0≤p
  ·have k4:(0≤p)=True:=eqt g1;rw[ipo g1]at hci;simp (disch:=omega) only[coC,qE,zf,ql,k3,ec,j1',go_sem]
   repeat' first
    |(refine cA (c3 _) flk ?_;simp (disch:=omega) only[k4,go_sem])
    |with_reducible apply aiA
   all_goals try exact clz
   refine hK _ _ (i+1,.mem (qr (some O1)+1) 3 [.int .i64 (i:Int)],O2) ⟨hi,rfl,j2,hS hci⟩ (by simp only;omega) (Wk.temps ?_)
   (simp only[qZ,zf,qE,go_sem,qj,qd,qa,qi];try (repeat' first|(with_reducible apply aiA)|(apply qh;omega)|(apply qg;rfl)|exact qk))
  have k4:(0≤p)=False:=eqf g1;rw[ine g1]at hci;obtain⟨o1,o2⟩:=hto2 om;have k5:(0≤t)=True:=eqt o1;have k6:(t<tk.length)=True:=eqt o2;have k7:((0:Int)<c.length)=True:=eqt (by have:=ho.sg;omega);have k8:((0:Int)<x.tok.length)=True:=eqt om;obtain⟨tt,htt2⟩: ∃tt,tt=tk.getD t.toNat default:=⟨_,rfl⟩
  have ett:=htt2.symm;rw[ett]at htx;rw[htx]at hcc;have gl:=qat (cwA b b.length) x.col.length;have gg:=qcH (g:=cwA b b.length) hi;have hcw:cwA b b.length i= .int .i64 (cW b (i:Int) b.length:Int):=rfl;rw[hcw]at gg;have t4:(i<x.col.length)=True:=eqt hi;have t5:(i+1≤x.col.length)=True:=eqt hi;obtain⟨q,hq⟩: ∃q,q=cW b (i:Int) b.length:=⟨_,rfl⟩
  rw[←hq]at gg hcc;have c4:=fun v v2 H hk hk2=>qD0 b (i:Int) tt.text (h.length+4) v (h.length+5) v2 H hk hk2 hb
  simp (disch:=omega) only[coC,qE,zf,ql,k3,ec,j1',go_sem]
  repeat' first
   |(refine cA (c3 _) flk ?_;simp (disch:=omega) only[k4,go_sem])
   |with_reducible apply aiA
  all_goals try exact clz
  refine qtW ?T ?H ?h1 ?h2
  case h1=>
   simp (disch:=omega) only[qP,qbK,tkC,k5,k6,k7,k8,et,etk,ett,j2',Int.toNat_zero,go_sem]
   repeat' first
    |with_reducible apply aiA
   all_goals first
    |omega
    |rfl
  case h2=>
  by_cases g2:q=1
  case neg=>
   have k9:((q:Int)=1)=False:=eqf om;rw[dqf g2,Bool.false_and]at hcc;rw[hcc,ine (by simp)]at hci;have hV:R=9:=by rw[hR,hE (by rw[hci];decide),hci]
   rw[hV];simp (disch:=omega) only[k9,t2,t4,gl,gg,Nat.mul_one,Nat.zero_add,go_sem]
   repeat' first
    |(refine qm ( .bool false) ?_;simp (disch:=omega) only[go_sem])
    |(apply qb;exact rvk;simp only[go_sem];exact qk)
    |with_reducible apply aiA
   all_goals try exact clz
  have k9:((q:Int)=1)=True:=eqt om;rw[dqt g2,Bool.true_and]at hcc;have c4:=c4 (qr (some O1)+1) (qr (some O2)+1);obtain⟨B,hB⟩: ∃B,B=zd (fun j=>decide ((b.getD j default).col=(i:Int))&&decide ((b.getD j default).text=tt.text)) b.length:=⟨_,rfl⟩
  rw[←hB]at hcc;simp only[←hB]at c4;unfold qZ at c4;simp (disch:=omega) only[k9,t2,t4,gl,gg,Nat.mul_one,Nat.zero_add,qZ,go_sem]
  repeat' first
   |with_reducible apply aiA
  all_goals try exact clz
  refine cG (fun _=>c4 _ ?ka ?kb) (fun _=>by exact flk) ?_
  case ka=>simp only[go_sem]
  case kb=>simp only[go_sem]
  cases B with
  |false=>
   rw[hcc,ine (by simp)]at hci;have hV:R=9:=by rw[hR,hE (by rw[hci];decide),hci]
   rw[hV];simp (disch:=omega) only[go_sem]
   repeat' first
    |(apply qb;exact rvk;simp only[go_sem];exact qk)
  |true=>
   rw[hcc,ipo rfl]at hci;simp (disch:=omega) only[go_sem];refine hK _ _ (i+1,.mem (qr (some O1)+1) 3 [.int .i64 (i:Int)],.mem (qr (some O2)+1) 9 [.str tt.text]) ⟨hi,rfl,rfl,hS hci⟩ (by simp only;omega) (Wk.temps ?_)
   (simp only[qZ,zf,qE,go_sem,qj,qd,qa,qi];try (repeat' first|(with_reducible apply aiA)|(apply qh;omega)|(apply qg;rfl)|exact qk))
 ·have k3:((i:Int)<x.col.length)=False:=eqf om;rw[qz (fun j (hj:j<x.col.length)=>j3 j om)]at hR;rw[hR];simp (disch:=omega) only[coC,qE,k3,go_sem]
  repeat' first
   |(apply qb;exact rvk;simp only[go_sem];exact qk)
end RC
end
section
open Go Go.Proofs AF
def jI:List Nat:= []
def qBx:C:=
 ((C.ops [MC 4 (i6 0),MC 5 (i6 0)]).seq (((C.ops [MV 9 0,O1 10 .len 9,MV 6 10]).seq (C.block 0 ((C.ops [MV 12 6,BC 13 .eql 12 (i6 0),MV 11 13]).seq (C.cond (.t 11) ((C.ops [MC
 4 (i6 0),MC 5 (i6 5)]).seq C.ret) ((C.ops [MV 15 6,BC 16 .gtr 15 (i6 16),MV 14 16]).seq (C.cond (.t 14) ((C.ops [MC 4 (i6 0),MC 5 (i6 4)]).seq C.ret) C.skip)))))).seq (((C.ops
 [MV 17 0,O1 18 .len 17,MC 19 (i6 0)]).seq (C.block 1 ((C.ops [BI 20 .lss 19 18]).seq ((C.cond (.t 20) C.skip (C.exit 1)).seq ((C.block 2 ((C.ops [MV 21 19,O2 22 (.idxA 1) 17 19,
 LD 23 22,MV 7 21,MV 8 23]).seq ((C.ops [MV 24 8,OC 25 (.call 44 true) 24 (.str [32]),MV 26 1,O2 27 (.call 43 true) 25 26,MV 28 27,MG 29 28 true 1,PC 30 28 true (.bin .neq)
 29 (.str []),PF 31 28 30]).seq (C.cond (.t 31) ((C.ops [MV 32 7,MV 4 32,MC 5 (i6 0)]).seq C.ret) C.skip)))).seq (C.ops [BC 33 .add 19 (i6 1),MV 19 33])))).loop)).seq ((C.ops
 [MV 34 0,O1 35 .len 34,BC 36 .sub 35 (i6 1),MV 4 36,MC 5 (i6 0)]).seq
 C.ret))))
theorem qul:qB Tryz.prog 27 37 0 [RV.tmp 4,RV.tmp 5] qBx:=fi Tryz.f27 [] jI []
def qBO:C:=
 ((C.ops [O1 3 (.box 0 3) 1,MC 4 (i6 0),MC 5 (i6 0),MC 6 (i6 0)]).seq ((C.ops [O1 10 (.mkfn (Fn.func 105) 0) 3,MV 7 10]).seq ((C.ops [MV 11 0,MV 12 7,O2 13 (.call 106 true) 11
 12,MV 8 13]).seq (((C.ops [MV 14 8,BC 15 .lss 14 (i6 0)]).seq (C.cond (.t 15) ((C.ops [MC 4 (i6 0),MC 5 (i6 0),MC 6 (i6 6)]).seq C.ret) C.skip)).seq ((C.ops [MV 16 8,MV 9
 16]).seq ((C.block 0 (((C.ops [MV 17 9,MV 18 0,O1 19 .len 18,BI 20 .lss 17 19,MV 21 20,MG 22 21 true 7,MG 23 21 true 0,MG 24 21 true 9,P2 25 21 true (.idxA 7) 23 24,P1 26
 21 true (.load (some 7)) 25,P2 27 21 true .callv 22 26,PF 28 21 27]).seq (C.cond (.t 28) C.skip (C.exit 0))).seq (C.block 1 (C.ops [MV 29 9,BC 30 .add 29 (i6 1),MV 9
 30]))).loop).seq (((C.ops [MV 31 0,MV 32 9,O2 33 (.slc 7 true false) 31 32,MV 34 7,O2 35 (.call 92 true) 33 34]).seq (C.cond (.t 35) ((C.ops [MC 4 (i6 0),MC 5 (i6 0),MC 6 (i6
 10)]).seq C.ret) C.skip)).seq ((C.ops [MV 36 8,MV 37 9,MV 4 36,MV 5 37,MC 6 (i6 0)]).seq
 C.ret))))))))
theorem qzJ:qB Tryz.prog 31 38 1 [RV.tmp 4,RV.tmp 5,RV.tmp 6] qBO:=fi Tryz.f31 [3] jI []
def qwU:C:=
 ((C.ops [O1 2 (.box 0 64) 0,MC 3 (.bool false)]).seq ((C.ops [O1 4 (.fldA 2) 2,LD 5 4,LD 6 1,BI 7 .eql 5 6,MV 3 7]).seq
 C.ret))
theorem qyx:qB Tryz.prog 105 8 1 [RV.tmp 3] qwU:=fi Tryz.f105 [2] jI []
def qte:C:=
 ((C.ops [O1 5 (.box 0 83) 2,MC 6 (i6 0),MC 7 (i6 0)]).seq (((C.ops [MV 15 0,MV 16 1,O2 17 (.call 31 true) 15 16,MV 14 17,O1 18 (.ext 0) 14,O1 19 (.ext 1) 14,O1 20 (.ext 2)
 14,MV 8 18,MV 9 19,MV 10 20]).seq ((C.ops [MV 21 10,BC 22 .eql 21 (i6 0)]).seq (C.cond (.t 22) ((C.ops [MV 23 8,MV 24 9,MV 6 23,MV 7 24]).seq C.ret) C.skip))).seq ((C.ops
 [MC 11 (i6 0)]).seq (((C.ops [MV 25 0,O1 26 .len 25,MC 27 (i6 0)]).seq (C.block 0 ((C.ops [BI 28 .lss 27 26]).seq ((C.cond (.t 28) C.skip (C.exit 0)).seq ((C.block 1 ((C.ops [O2
 29 (.idxA 7) 25 27,O1 30 (.load (some 7)) 29,⟨some 13,none,.alloc 1 64 [.str [],i6 0,i6 0,i6 0,.bool false,.bool false,.str []],[]⟩,ST 7 13 30]).seq ((C.ops [O1 31
 (.fldA 1) 13,LD 32 31,O1 33 (.fldA 0) 5,LD 34 33,BI 35 .lss 32 34]).seq (C.cond (.t 35) (C.ops [MV 36 11,BC 37 .add 36 (i6 1),MV 11 37]) C.skip)))).seq (C.ops [BC 38 .add 27
 (i6 1),MV 27 38])))).loop)).seq ((C.ops [MV 39 11,MV 40 11,MV 6 39,MV 7 40]).seq
 C.ret)))))
theorem qrZ:qB Tryz.prog 160 41 2 [RV.tmp 6,RV.tmp 7] qte:=fi Tryz.f160 [5,13] jI []
def qw6:C:=
 ((C.ops [O1 5 (.box 0 83) 0,O1 6 (.box 1 22) 1,O1 7 (.box 2 22) 2,O1 8 (.box 3 22) 3,O1 9 (.box 4 3) 4,MC 10 .nilfn]).seq ((C.ops [ON 11 (.mkfn (Fn.func 215) 0) [.t 5,.t 8,
 .t 6,.t 9,.t 7],MV 10 11]).seq
 C.ret))
theorem qyL:qB Tryz.prog 161 12 5 [RV.tmp 10] qw6:=fi Tryz.f161 [5,6,7,8,9] jI []
def qxs:C:=
 ((C.ops [O1 11 (.fldA 2) 1,LD 12 11,O1 13 .len 12,MC 14 (i6 0)]).seq (C.block 0 ((C.ops [BI 15 .lss 14 13]).seq ((C.cond (.t 15) C.skip (C.exit 0)).seq ((C.block 1 ((C.ops [MV
 16 14,O2 17 (.idxA 2) 12 14,O1 18 (.load (some 2)) 17,⟨some 8,none,.alloc 0 89 [.nl,.nl],[]⟩,MV 7 16,ST 2 8 18]).seq ((C.ops [LD 20 2,LD 21 3,MV 22 7,O2 23 (.idxA 1) 21
 22,LD 24 23,O2 25 (.call 27 true) 20 24,MV 19 25,O1 26 (.ext 0) 19,O1 27 (.ext 1) 19,MV 9 26,MV 10 27]).seq ((C.ops [MV 28 9,LD 29 4,BI 30 .eql 28 29,MV 31 30,P1 32 31
 true (.fldA 0) 8,P1 33 31 true (.load none) 32,P1 34 31 true (.load none) 5,P2 35 31 true (.call 139 true) 33 34,P1 36 31 true (.un UnOp.not) 35,PF 37 31 36,MV 38 37,MG 39
 38 true 0,P1 40 38 true (.load (some 2)) 8,P2 41 38 true .callv 39 40,P1 42 38 true (.un UnOp.not) 41,PF 43 38 42]).seq (C.cond (.t 43) C.ret C.skip))))).seq (C.ops [BC 44 .add
 14 (i6 1),MV 14
 44])))).loop))
theorem qza:qB Tryz.prog 215 45 1 [] qxs:=fi Tryz.f215 [8] jI []
def qw7:C:=
 ((C.ops [O1 2 (.box 0 89) 0,MC 3 (.bool false)]).seq ((C.ops [O1 4 (.fldA 0) 2,LD 5 4,LD 6 1,O2 7 (.call 139 true) 5 6,MV 3 7]).seq
 C.ret))
theorem qyM:qB Tryz.prog 162 8 1 [RV.tmp 3] qw7:=fi Tryz.f162 [2] jI []
def qwT:C:=
 ((C.ops [ON 4 (.nilo 0 1 9) []]).seq ((C.ops [⟨some 7,none,.bslc 1 1 0 9 [.str []] [],[]⟩,MV 5 7]).seq (((C.ops [MC 6 (i6 0)]).seq (C.block 0 (((C.ops [MV 8 6,MV 9 0,O1 10
 .len 9,BI 11 .lss 8 10]).seq (C.cond (.t 11) C.skip (C.exit 0))).seq ((C.block 1 ((C.ops [MV 14 0,MV 15 6,O2 16 (.idxA 7) 14 15,O1 17 (.fldA 2) 16,LD 18 17,MV 19 1,BI 20
 .eql 18 19]).seq (C.cond (.t 20) (C.ops [MV 21 5,MV 22 0,MV 23 6,O2 24 (.idxA 7) 22 23,O1 25 (.fldA 0) 24,LD 26 25,⟨some 27,none,.bslc 2 1 1 9 [.str []] [(0,1)],[.t 26]⟩,
 O2 28 (.app 3 1 9 16) 21 27,MV 5 28]) C.skip))).seq (C.ops [MV 12 6,BC 13 .add 12 (i6 1),MV 6 13]))).loop)).seq ((C.ops [MV 29 5,MV 4 29]).seq
 C.ret))))
theorem qyw:qB Tryz.prog 100 30 4 [RV.tmp 4] qwT:=fi Tryz.f100 [4,7,27,28] jI []
def qxY:C:=
 ((C.ops [⟨some 8,none,.alloc 0 58 [i6 0,i6 0,i6 0,.bool false,.nl,.nl],[]⟩,MC 9 (i6 0)]).seq (((C.ops [MV 17 0,MV 18 1,O2 19 (.call 98 true) 17 18,BC 20 .neq 19 (i6
 0)]).seq (C.cond (.t 20) ((C.ops [⟨some 21,none,.build [i6 0,i6 0,i6 0,.bool false,.nl,.nl] [],[]⟩,ST 6 8 21,MC 9 (i6 1)]).seq C.ret) C.skip)).seq (((C.ops [MV 22 3,BC
 23 .lss 22 (i6 0),MV 24 23,MG 25 24 false 3,MG 26 24 false 2,P1 27 24 false .len 26,P2 28 24 false (.bin .geq) 25 27,PT 29 24 28]).seq (C.cond (.t 29) ((C.ops [⟨some 30,
 none,.build [i6 0,i6 0,i6 0,.bool false,.nl,.nl] [],[]⟩,ST 6 8 30,MC 9 (i6 6)]).seq C.ret) C.skip)).seq ((C.ops [⟨some 31,none,.bslc 1 1 0 3 [i6 0] [],[]⟩,MV 10
 31]).seq (((C.ops [MC 11 (i6 0)]).seq (C.block 0 (((C.ops [MV 32 11,MV 33 2,O1 34 .len 33,BI 35 .lss 32 34]).seq (C.cond (.t 35) C.skip (C.exit 0))).seq ((C.block 1 ((C.ops [MV
 38 2,MV 39 11,O2 40 (.idxA 6) 38 39,O1 41 (.fldA 1) 40,LD 42 41,MV 43 2,MV 44 3,O2 45 (.idxA 6) 43 44,O1 46 (.fldA 1) 45,LD 47 46,BI 48 .eql 42 47,MV 49 48,MG 50 49
 true 2,MG 51 49 true 11,P2 52 49 true (.idxA 6) 50 51,P1 53 49 true (.fldA 2) 52,P1 54 49 true (.load none) 53,MG 55 49 true 2,MG 56 49 true 3,P2 57 49 true (.idxA 6) 55 56,
 P1 58 49 true (.fldA 2) 57,P1 59 49 true (.load none) 58,P2 60 49 true (.bin .eql) 54 59,PF 61 49 60]).seq (C.cond (.t 61) ((C.ops [MV 63 0,MV 64 1,MV 65 2,MV 66 11,O2 67
 (.idxA 6) 65 66,O1 68 (.load (some 6)) 67,ON 69 (.call 72 true) [.t 63,.t 64,.t 68],MV 62 69,O1 70 (.ext 0) 62,O1 71 (.ext 1) 62,MV 12 70,MV 13 71]).seq (((C.ops [MV 72
 13,BC 73 .neq 72 (i6 0)]).seq (C.cond (.t 73) ((C.ops [⟨some 74,none,.build [i6 0,i6 0,i6 0,.bool false,.nl,.nl] [],[]⟩,MV 75 13,ST 6 8 74,MV 9 75]).seq C.ret)
 C.skip)).seq (C.ops [MV 77 10,MV 78 12,O2 79 (.call 146 true) 77 78,MV 76 79,O1 80 (.ext 0) 76,O1 81 (.ext 1) 76,MV 10 80]))) C.skip))).seq (C.ops [MV 36 11,BC 37 .add 36
 (i6 1),MV 11 37]))).loop)).seq ((C.ops [MV 82 2,MV 83 3,O2 84 (.idxA 6) 82 83,O1 85 (.load (some 6)) 84,⟨some 14,none,.alloc 2 58 [i6 0,i6 0,i6 0,.bool false,.nl,.nl],
 []⟩,ST 6 14 85]).seq ((C.ops [MV 86 2,MV 87 3,O2 88 (.idxA 6) 86 87,O1 89 (.fldA 3) 88,LD 90 89,O1 91 (.un UnOp.not) 90,O1 92 (.fldA 3) 14,ST 1 92 91]).seq ((C.ops [O1 93
 (.fldA 4) 14,⟨none,none,.store 1,[.t 93,.c .nl]⟩]).seq (((C.ops [O1 94 (.fldA 3) 14,LD 95 94]).seq (C.cond (.t 95) ((C.ops [MV 97 0,O1 98 .len 97,MV 99 10,O2 100 (.call
 148 true) 98 99,MV 96 100,O1 101 (.ext 0) 96,O1 102 (.ext 1) 96,MV 15 101,MV 16 102]).seq (C.ops [MV 104 0,MV 105 1,MV 106 15,ON 107 (.call 102 true) [.t 104,.t 105,.t
 106],MV 103 107,O1 108 (.ext 0) 103,O1 109 (.ext 1) 103,O1 110 (.fldA 4) 14,ST 1 110 108])) C.skip)).seq ((C.ops [O1 111 (.load (some 6)) 14,ST 6 8 111,MC 9 (i6 0)]).seq
 C.ret))))))))))
theorem qpG:qB Tryz.prog 74 112 3 [RV.cell 8 (some 6),RV.tmp 9] qxY:=fi Tryz.f74 [8,31,14] jI []
def qDq:C:=
 ((C.ops [MC 4 (i6 0),MC 5 (i6 0),MC 6 (i6 0)]).seq ((C.ops [MC 7 (i6 0)]).seq ((C.block 0 (((C.ops [MV 10 7,MV 11 0,O1 12 .len 11,BI 13 .lss 10 12,MV 14 13,MG 15 14 true 0,
 MG 16 14 true 7,P2 17 14 true (.idxA 7) 15 16,P1 18 14 true (.fldA 2) 17,P1 19 14 true (.load none) 18,MG 20 14 true 1,P2 21 14 true (.bin .neq) 19 20,PF 22 14 21]).seq
 (C.cond (.t 22) C.skip (C.exit 0))).seq (C.block 1 (C.ops [MV 23 7,BC 24 .add 23 (i6 1),MV 7 24]))).loop).seq (((C.ops [MV 25 7,MV 26 0,O1 27 .len 26,BI 28 .eql 25 27]).seq
 (C.cond (.t 28) ((C.ops [MC 4 (i6 0),MC 5 (i6 0),MC 6 (i6 6)]).seq C.ret) C.skip)).seq ((C.ops [MV 29 7,MV 30 0,MV 31 1,O2 32 (.call 100 true) 30 31,O1 33 .len 32,BI 34 .add
 29 33,MV 8 34]).seq (((C.ops [MV 35 7,MV 9 35]).seq (C.block 2 (((C.ops [MV 36 9,MV 37 8,BI 38 .lss 36 37]).seq (C.cond (.t 38) C.skip (C.exit 2))).seq ((C.block 3 ((C.ops [MV
 41 0,MV 42 9,O2 43 (.idxA 7) 41 42,O1 44 (.fldA 2) 43,LD 45 44,MV 46 1,BI 47 .neq 45 46]).seq (C.cond (.t 47) ((C.ops [MC 4 (i6 0),MC 5 (i6 0),MC 6 (i6 10)]).seq C.ret)
 C.skip))).seq (C.ops [MV 39 9,BC 40 .add 39 (i6 1),MV 9 40]))).loop)).seq ((C.ops [MV 48 7,MV 49 8,MV 4 48,MV 5 49,MC 6 (i6 0)]).seq
 C.ret)))))))
theorem qCn:qB Tryz.prog 75 50 0 [RV.tmp 4,RV.tmp 5,RV.tmp 6] qDq:=fi Tryz.f75 [] jI []
def qDr:C:=
 ((C.ops [ON 4 (.nilo 0 6 58) []]).seq ((C.ops [⟨some 7,none,.bslc 1 6 0 58 [i6 0,i6 0,i6 0,.bool false,.nl,.nl] [],[]⟩,MV 5 7]).seq (((C.ops [MC 6 (i6 0)]).seq (C.block 0
 (((C.ops [MV 8 6,MV 9 0,O1 10 .len 9,BI 11 .lss 8 10]).seq (C.cond (.t 11) C.skip (C.exit 0))).seq ((C.block 1 ((C.ops [MV 14 0,MV 15 6,O2 16 (.idxA 6) 14 15,O1 17 (.fldA 0)
 16,LD 18 17,MV 19 1,BI 20 .eql 18 19]).seq (C.cond (.t 20) (C.ops [MV 21 5,MV 22 0,MV 23 6,O2 24 (.idxA 6) 22 23,O1 25 (.load (some 6)) 24,⟨some 26,none,.bslc 2 6 1 58
 [i6 0,i6 0,i6 0,.bool false,.nl,.nl] [(0,6)],[.t 25]⟩,O2 27 (.app 3 6 58 80) 21 26,MV 5 27]) C.skip))).seq (C.ops [MV 12 6,BC 13 .add 12 (i6 1),MV 6 13]))).loop)).seq
 ((C.ops [MV 28 5,MV 4 28]).seq
 C.ret))))
theorem qCo:qB Tryz.prog 76 29 4 [RV.tmp 4] qDr:=fi Tryz.f76 [4,7,26,27] jI []
def qs7:C:=
 ((C.ops [O1 2 (.box 0 58) 0,MC 3 (.bool false)]).seq ((C.ops [O1 4 (.fldA 0) 2,LD 5 4,LD 6 1,BI 7 .neq 5 6,MV 3 7]).seq
 C.ret))
theorem qrO:qB Tryz.prog 120 8 1 [RV.tmp 3] qs7:=fi Tryz.f120 [2] jI []
end
section
set_option linter.unusedVariables false
namespace Go.Proofs
open Go.Shelf Go.RowKit Go.Lib
set_option maxHeartbeats 1000000 in
set_option maxRecDepth 100000 in
theorem qk8(s:ByteArray)(c:UInt8)(w:World):
  Calls Tryz.prog 183 #[.string s,.string ⟨#[c]⟩] w fun e w'=>e= .returned (.int .i64 (Lib.countByte s.data.toList c))∧w'=w:=by
 go_enter Tryz.func183,Tryz.ntmps183
 go_wp2
 rw[run_callFunc_extern Tryz.func239 (by kernel_rfl) (by kernel_rfl) (by kernel_rfl) (e:=Extern.BytealgCount.count) (by kernel_rfl),Lib.run_countString];simp only[Result.andThen];rw[Oper.upon_value]
 go_wp2
 go_ret
 exact⟨rfl,rfl⟩
set_option maxHeartbeats 2000000 in
set_option maxRecDepth 100000 in
theorem ql7(s:ByteArray)(c:UInt8)(w:World):
  Calls Tryz.prog 240 #[.string s,.string ⟨#[c]⟩] w fun e w'=>e= .returned (.int .i64 (Lib.indexByte s.data.toList c))∧w'=w:=by
 have e95: ∀args w,(callFunc 280 args).run Tryz.prog w= .ok (.enter 280 args) w:=enters_of Tryz.func280 (by kernel_rfl) rfl
 go_enter Tryz.func240,Tryz.ntmps240
 go_wp2_with (go_at_fn 280;refine (qhh _ _ _).mono ?_;rintro e w' ⟨rfl,rfl⟩)
 ·have h:([c]==s.toList)=true:=by assumption
  go_ret
  refine⟨?_,rfl⟩;have e:s.data.toList= [c]:=by rw[←Lib.toList_data];exact (beq_iff_eq.1 h).symm
  rw[e];simp[Lib.indexByte]
 ·go_ret
  exact⟨rfl,rfl⟩
set_option maxHeartbeats 1000000 in
theorem qpV(s:ByteArray)(c:UInt8)(w:World):
  Calls Tryz.prog 184 #[.string s,.string ⟨#[c]⟩] w fun e w'=>e= .returned (.int .i64 (Lib.indexByte s.data.toList c))∧w'=w:=by
 have e114: ∀args w,(callFunc 240 args).run Tryz.prog w= .ok (.enter 240 args) w:=enters_of Tryz.func240 (by kernel_rfl) rfl
 go_enter Tryz.func184,Tryz.ntmps184
 go_wp2_with (go_at_fn 240;refine (ql7 _ _ _).mono ?_;rintro e w' ⟨rfl,rfl⟩)
 go_ret
 exact⟨rfl,rfl⟩
end Go.Proofs
end
section
open Go Go.Proofs AF HY
namespace HY
theorem qE6(s:List UInt8)(c:UInt8)(h:List AObj):ACalls Tryz.prog 183 [.str s,.str [c]] h (.int .i64 (s.count c)) h:=by
 refine⟨qwz Tryz.func183 (by kernel_rfl) (by kernel_rfl),fun w σ xs H hv=> ?_⟩;obtain⟨x,y,rfl,hx,hy⟩:=hv.two;rw[zU hx,zU hy];refine (callsIn_wide.2 (qk8 ⟨s.toArray⟩ c w)).mono ?_;rintro e w' ⟨rfl,rfl⟩;exact⟨_,σ,rfl,H,.imm .int,Ext.refl _ _⟩
theorem qE7(s:List UInt8)(c:UInt8)(h:List AObj):ACalls Tryz.prog 184 [.str s,.str [c]] h (.int .i64 (Go.Lib.indexByte s c)) h:=by
 refine⟨qwz Tryz.func184 (by kernel_rfl) (by kernel_rfl),fun w σ xs H hv=> ?_⟩;obtain⟨x,y,rfl,hx,hy⟩:=hv.two;rw[zU hx,zU hy];refine (callsIn_wide.2 (qpV ⟨s.toArray⟩ c w)).mono ?_;rintro e w' ⟨rfl,rfl⟩;exact⟨_,σ,rfl,H,.imm .int,Ext.refl _ _⟩
def qah(c:UInt8)(s:List UInt8):Nat:=(s.takeWhile (· !=c)).length
def qab(c:UInt8)(s:List UInt8):Nat→List UInt8
 |0=>s
 |i+1=>(qab c s i).drop (qah c (qab c s i)+1)
def ko(c:UInt8)(s:List UInt8)(i:Nat):List UInt8:=if i<s.count c then (qab c s i).take (qah c (qab c s i)) else qab c s i
def km(c:UInt8)(s:List UInt8):List (List UInt8):=(List.range (s.count c+1)).map (ko c s)
theorem qbG(c:UInt8)(s:List UInt8):(km c s).length=s.count c+1:=by simp[km]
theorem qaB(c b:UInt8)(s:List UInt8):qah c (b::s)=if b=c then 0 else qah c s+1:=by
 unfold qah;rw[List.takeWhile_cons]
 by_cases e:b=c
 ·simp[e]
 ·simp[e]
theorem ql1(c:UInt8): ∀(s:List UInt8),0<s.count c→Go.Lib.indexByte s c=qah c s:=by
 intro s
 induction s with
 |nil=>intro h;simp at h
 |cons b s ih=>
  intro h;unfold Go.Lib.indexByte;rw[qaB]
  by_cases e:b=c
  ·simp[e]
  ·rw[List.count_cons,ine (by simpa using e)]at h
   have:=ih om
   rw[ine (by simpa using e),ine e,this,ine (by simp<;>omega)];rfl
theorem qpa(c:UInt8): ∀(s:List UInt8),0<s.count c→qah c s<s.length:=by
 intro s
 induction s with
 |nil=>intro h;simp at h
 |cons b s ih=>
  intro h;rw[qaB]
  by_cases e:b=c
  ·simp[e]
  ·rw[List.count_cons,ine (by simpa using e)]at h
   have:=ih om
   rw[ine e,lco];omega
theorem qeN(c:UInt8): ∀(s:List UInt8),0<s.count c→(s.drop (qah c s+1)).count c=s.count c-1:=by
 intro s
 induction s with
 |nil=>intro h;simp at h
 |cons b s ih=>
  intro h;rw[qaB]
  by_cases e:b=c
  ·simp[e]
  ·rw[List.count_cons,ine (by simpa using e)]at h
   have:=ih om
   rw[ine e,List.drop_succ_cons,this,List.count_cons,ine (by simpa using e)];rfl
theorem qh9(c:UInt8)(s:List UInt8): ∀i,i≤s.count c→(qab c s i).count c=s.count c-i:=by
 intro i
 induction i with
 |zero=>intro _;rfl
 |succ i ih=>
  intro h
  have:=ih om
  show ((qab c s i).drop _).count c=_;rw[qeN _ _ om,this];omega
theorem qqG(c:UInt8)(s:List UInt8): ∀i,(qab c s i).length≤s.length:=by
 intro i
 induction i with
 |zero=>exact nlr _
 |succ i ih=>show ((qab c s i).drop _).length≤_;rw[List.length_drop];omega
def qaI(c:UInt8)(s:List UInt8)(i:Nat):List (List UInt8):=(List.range (s.count c+1)).map fun j=>if j<i then ko c s j else []
theorem qfw(c:UInt8)(s:List UInt8)(i:Nat):(qaI c s i).length=s.count c+1:=by simp[qaI]
theorem qnC(c:UInt8)(s:List UInt8){i:Nat}(hi:i<s.count c+1):(qaI c s i).set i (ko c s i)=qaI c s (i+1):=by
 apply List.ext_getElem
 ·simp[qaI]
 ·intro j h1 h2;simp only[qaI,List.length_set,List.length_map,List.length_range]at h1;rw[List.getElem_set];simp only[qaI,List.getElem_map,List.getElem_range]
  by_cases e:i=j
  ·subst e;simp
  ·rw[ine e]
   by_cases e2:j<i
   ·rw[ipo e2,ipo om]
   ·rw[ine e2,ine om]
theorem qnB(c:UInt8)(s:List UInt8):qaI c s (s.count c+1)=km c s:=by
 unfold qaI km;apply List.map_congr_left;intro j hj;rw[ipo (by simpa using hj)]
theorem qq8(L:List (List UInt8)){i:Nat}(x:List UInt8)(hi:i<L.length):List.take i (zY L)++ [.str x]++List.drop (i+1) (zY L)=zY (L.set i x):=by
 unfold zY;rw[List.map_set,List.set_eq_take_append_cons_drop,ipo (by simpa using hi),List.append_assoc];rfl
theorem qix(n:Nat):qS [.str []] n=zY (List.replicate n []):=by
 induction n with
 |zero=>rfl
 |succ n ih=>simp only[qS,ih,List.replicate_succ];rfl
theorem qi7(c:UInt8)(s:List UInt8):List.replicate (s.count c+1) []=qaI c s 0:=by
 apply List.ext_getElem
 ·simp[qaI]
 ·intro j h1 h2;simp[qaI]
set_option maxHeartbeats 4000000 in
theorem u78(s:List UInt8)(c:UInt8)(h:List AObj)(hs:s.length≤1000000000):ACalls Tryz.prog 118 [.str s,.str [c],.int .i64 0,.int .i64 (-1)] h (strs (km c s)) h:=by
 have c100:=fun h=>qE6 s c h
 have hcl:s.count c≤s.length:=List.count_le_length;obtain⟨N,hN⟩: ∃N,N=s.count c:=⟨_,rfl⟩
 have k1:((N:Int)+1≤(s.length:Int)+1)=True:=eqt om;have e1:min ((N:Int)+1) ((s.length:Int)+1)=(N:Int)+1:=by omega
 have e2:((N:Int)+1).toNat=N+1:=by omega
 have e3:qS [AV.str []] (N+1)=zY (qaI c s 0):=by rw[qix,←qi7,hN]
 have e4:((N:Int)+1-1)=N:=by omega
 simp only[←hN]at c100;refine acO qyz ?_;simp (disch:=omega) only[qwV,go_sem]
 repeat' first
  |(refine cA (c100 _) flk ?_;simp (disch:=omega) only[e1,e2,e3,e4,go_sem])
  |(apply qb;exact rvk;simp only[go_sem])
  |with_reducible first|intro _|apply aiA
 all_goals try exact clz
 refine qn (T:=fun i:Nat=>qI 66 [(0,.str (qab c s i)),(1,.str [c]),(2,.int .i64 0),(3,.int .i64 N),(9,.osl (h.length+1) 1 1 0 (N+1)),(10,.int .i64 i)]) (H:=fun i=>h++ [.emp 1,.mem 1 9 (zY (qaI c s i))])
  (inv:=fun i=>i≤N) (m:=fun i=>N-i) 0 om (Wk.temps ?_) ?_
 ·(simp only[qab,go_sem,qj,qd,qa,qi];try (repeat' first|(with_reducible apply aiA)|(apply qh;omega)|(apply qg;rfl)|exact qk))
 rintro i i1 K hK;have eL:=jb (qaI c s i);rw[qfw,←hN]at eL;have hst:=qq8 (qaI c s i) (i:=i) (ko c s i) (by rw[qfw];omega);rw[qnC c s om]at hst
 by_cases hi:i<N
 ·obtain⟨r,hr⟩: ∃r,r=qab c s i:=⟨_,rfl⟩
  have hcr:=qh9 c s i om;rw[←hr]at hcr;have hix:=ql1 c r om;have hlt:=qpa c r om;have hrl:=qqG c s i;rw[←hr]at hrl;have hP:ko c s i=r.take (qah c r):=by unfold ko;rw[ipo om,←hr]
  have hR:qab c s (i+1)=r.drop (qah c r+1):=by rw[hr];rfl
  obtain⟨m,hm⟩: ∃m,m=qah c r:=⟨_,rfl⟩
  rw[←hm]at hix hlt hP hR;have c101:=fun h=>qE7 r c h
  simp only[hix]at c101;rw[hP]at hst;simp (disch:=omega) only[qI,List.foldl,hr.symm,eL,go_sem]
  repeat' first
   |(refine cA (c101 _) flk ?_;simp (disch:=omega) only[eL,go_sem])
   |(apply qb;exact rvk;simp only[go_sem])
   |with_reducible first|intro _|apply aiA
  all_goals try exact clz
  have f1:(((m:Nat):Int)+0).toNat-0=m:=by omega
  have f2:(((m:Nat):Int)+((1:Nat):Int)).toNat=m+1:=by omega
  have f3:List.take (r.length-(m+1)) (List.drop (m+1) r)=qab c s (i+1):=by rw[hR];exact ltl (by rw[List.length_drop];exact nlr _)
  rw[f1,hst,f2,f3];refine hK _ _ (i+1) om om (Wk.temps ?_)
  (simp only[go_sem,qj,qd,qa,qi];try (repeat' first|(with_reducible apply aiA)|(apply qh;omega)|(apply qg;rfl)|exact qk))
 ·have e:i=N:=by omega
  subst e;simp (disch:=omega) only[qI,List.foldl,eL,go_sem]
  repeat' first
   |(apply qb;exact rvk;simp only[go_sem])
   |with_reducible first|intro _|apply aiA
  all_goals try exact clz
  have hP:ko c s i=qab c s i:=by unfold ko;rw[ine om]
  have f1:(((i:Nat):Int)+1).toNat-0=i+1:=by omega
  have hall:=qnB c s;rw[←hN]at hall;rw[hP,hall]at hst;rw[hst,f1,ipo (by rw[jb,qbG];omega)];exact qcW (by rw[qbG];omega)
theorem qCq(L:List (List UInt8)):(strs L).flag=true:=rfl
theorem qCU(L:List (List UInt8)):(strs L).strip=strs L:=rfl
theorem u45(s:List UInt8)(c:UInt8)(h:List AObj)(hs:s.length≤1000000000):ACalls Tryz.prog 44 [.str s,.str [c]] h (strs (km c s)) h:=by
 have c78:=fun h=>u78 s c h hs
 refine acO qCg ?_;simp (disch:=omega) only[qDm,go_sem]
 repeat' first
  |(refine cA (c78 _) flk ?_;simp (disch:=omega) only[qCq,qCU,go_sem])
  |(apply qb;exact rvk;simp only[go_sem];exact qk)
end HY
end
section
open Go Go.Proofs AF HY LN
namespace HY
def spl(cur:List UInt8):List UInt8→List (List UInt8)
 | []=> [cur]
 |c::r=>if c=32 then cur::spl [] r else spl (cur++ [c]) r
theorem qiL(s:List UInt8): ∀i,qab 32 s (i+1)=qab 32 (s.drop (qah 32 s+1)) i:=by
 intro i
 induction i with
 |zero=>rfl
 |succ i ih=>
  show (qab 32 s (i+1)).drop (qah 32 (qab 32 s (i+1))+1)=_;rw[ih];rfl
theorem qgu{s:List UInt8}(h:0<s.count 32):km 32 s=s.take (qah 32 s)::km 32 (s.drop (qah 32 s+1)):=by
 have hc:=qeN 32 s h;unfold km;rw[hc,List.range_succ_eq_map,List.map_cons,List.map_map];have e0:ko 32 s 0=s.take (qah 32 s):=by unfold ko;rw[ipo h];rfl
 rw[e0,show s.count 32-1+1=s.count 32 by omega];congr 1;refine List.map_congr_left (fun i _=> ?_);show ko 32 s (i+1)=_;unfold ko;rw[qiL,hc]
 by_cases hi:i+1<s.count 32
 ·rw[ipo hi,ipo om]
 ·rw[ine hi,ine om]
theorem qgv{s:List UInt8}(h:s.count 32=0):km 32 s= [s]:=by
 unfold km;rw[h];show [ko 32 s 0]= [s];unfold ko;rw[ine om];rfl
theorem qq0: ∀(s cur:List UInt8),s.count 32=0→spl cur s= [cur++s]:=by
 intro s
 induction s with
 |nil=>intro cur _;simp[spl]
 |cons c r ih=>
  intro cur h;unfold spl
  by_cases e:c=32
  ·subst e;simp at h
  ·rw[ine e];rw[List.count_cons,ine (by simpa using e)]at h;rw[ih _ om];simp
theorem qq1: ∀(s cur:List UInt8),0<s.count 32→spl cur s=(cur++s.take (qah 32 s))::spl [] (s.drop (qah 32 s+1)):=by
 intro s
 induction s with
 |nil=>intro cur h;simp at h
 |cons c r ih=>
  intro cur h
  conv=>lhs;unfold spl
  rw[qaB]
  by_cases e:c=32
  ·subst e;simp
  ·rw[ine e,ine e];rw[List.count_cons,ine (by simpa using e)]at h;rw[ih _ om];simp
theorem qi5: ∀(n:Nat) (s:List UInt8),s.length≤n→spl [] s=km 32 s:=by
 intro n
 induction n with
 |zero=>
  intro s h
  have:s= []:=List.eq_nil_of_length_eq_zero om
  subst this;rfl
 |succ n ih=>
  intro s h
  by_cases hc:0<s.count 32
  ·rw[qq1 s [] hc,qgu hc,ih _ (by rw[List.length_drop];omega)];rfl
  ·rw[qq0 s [] om,qgv om];rfl
end HY
namespace RC
theorem qvv{x:Str}(hx:x≠ []): ∀(s cur:Str),x∈spl cur s↔x∈qqs cur s:=by
 intro s
 induction s with
 |nil=>
  intro cur;unfold spl qqs;split
  ·rename_i e;subst e;simp[hx]
  ·rfl
 |cons c r ih=>
  intro cur;unfold spl qqs;split
  ·rw[List.mem_cons,List.mem_append,ih];split
   ·rename_i e;subst e;simp[hx]
   ·rw[List.mem_singleton]
  ·exact ih _
theorem qf7(x s:Str):qdV x s=(decide (x≠ [])&&decide (x∈km 32 s)):=by
 unfold qdV
 by_cases hx:x= []
 ·subst hx;rw[dqf (qAy s [])];rfl
 ·rw[dqt hx,Bool.true_and];refine decide_eq_decide.2 ?_;rw[←qi5 s.length s (nlr _),qvv hx]
end RC
end
section
open Go Go.Proofs AF HY LN
namespace RC
theorem qox(L:List Str)(x:Str):zd (fun j=>decide (x=L.getD j [])) L.length=decide (x∈L):=by
 by_cases h:x∈L
 ·rw[dqt h,qG];obtain⟨j,hj,e⟩:=List.getElem_of_mem h;exact⟨j,hj,dqt (by rw[gdqA,zp hj];exact e.symm)⟩
 ·rw[dqf h,qo];intro j hj;refine dqf fun e=>h ?_
  rw[e,gdqA,zp hj];exact List.getElem_mem hj
theorem ctS(L:List Str)(x:Str)(h:List AObj)(hn:L.length≤1000000000):ACalls Tryz.prog 43 [strs L,.str x] h (.bool (decide (x∈L))) h:=by
 rw[←qox];exact qla L.length (fun j=>L.getD j []) x h hn
theorem lyP(lay:List Str)(cls:Str)(h:List AObj)(hl:lay.length≤1000000000)(hs: ∀i,(lay.getD i []).length≤100000000):ACalls Tryz.prog 27 [strs lay,.str cls] h (.tup [.int .i64 (lyR lay cls),.int .i64 (lyE lay)]) h:=by
 obtain⟨R,hR⟩: ∃R,R=lyR lay cls:=⟨_,rfl⟩
 obtain⟨E,hE⟩: ∃E,E=lyE lay:=⟨_,rfl⟩
 rw[←hR,←hE];unfold lyR at hR;rw[←hE]at hR;unfold lyE at hE
 by_cases g1:lay.length=0
 ·have k1:((lay.length:Int)=0)=True:=eqt om;rw[ipo g1]at hE;rw[hR,hE];refine acO qul ?_;simp (disch:=omega) only[qBx,strs,k1,go_sem]
  repeat' first
   |(apply qe;exact rvk;simp only[go_sem];exact qk)
 have k1:((lay.length:Int)=0)=False:=eqf om;rw[ine g1]at hE
 by_cases g2:16<lay.length
 ·have k2:((16:Int)<lay.length)=True:=eqt om;rw[ipo g2]at hE;rw[hR,hE];refine acO qul ?_;simp (disch:=omega) only[qBx,strs,k1,k2,go_sem]
  repeat' first
   |(apply qe;exact rvk;simp only[go_sem];exact qk)
 have k2:((16:Int)<lay.length)=False:=eqf om;rw[ine g2]at hE;rw[hE,ipo rfl]at hR;rw[hE];unfold lyN at hR;refine acO qul ?_;simp (disch:=omega) only[qBx,strs,k1,k2,go_sem];refine qn (T:=fun i:Nat=>qI 37 [(0,strs lay),(1,.str cls),(17,strs lay),(18,.int .i64 lay.length),(19,.int .i64 i)]) (H:=fun _=>h) (inv:=fun i=>i≤lay.length∧ ∀j,j<i→qdV cls (lay.getD j [])=false) (m:=fun i=>lay.length-i) 0 ⟨nzl _,fun j hj=>absurd hj (nnz j)⟩ (Wk.temps ?_) ?_
 ·(simp only[strs,go_sem,qj,qd,qa,qi];try (repeat' first|(with_reducible apply aiA)|(apply qh;omega)|(apply qg;rfl)|exact qk))
 rintro i ⟨i1,i2⟩ K hK
 by_cases hi:i<lay.length
 ·have k3:((i:Int)<lay.length)=True:=eqt om;have hH:=fun h=>kg (p:=fun i=>qdV cls (lay.getD i [])) hi i2 h
  have hS:qdV cls (lay.getD i [])=false→ ∀j,j<i+1→qdV cls (lay.getD j [])=false:=fun hx j hj=>by
   by_cases e:j=i
   ·subst e;exact hx
   ·exact i2 j om
  have hsp:=qf7 cls (lay.getD i []);have hsi:=hs i;obtain⟨s,hsx⟩: ∃s,s=lay.getD i []:=⟨_,rfl⟩
  have es:=hsx.symm;rw[es]at hsp hS hsi;simp only[es]at hH;have c1:=fun h=>u45 s 32 h om
  have hcl:=List.count_le_length (a:=(32:UInt8)) (l:=s);have hll:=qbG 32 s;obtain⟨P,hP⟩: ∃P,P=km 32 s:=⟨_,rfl⟩
  rw[←hP]at hsp hll;simp only[←hP]at c1;have c2:=fun h=>ctS P cls h om
  unfold strs at c1 c2;obtain⟨b,hb⟩: ∃b,b=decide (cls∈P):=⟨_,rfl⟩
  rw[←hb]at hsp;simp only[←hb]at c2
  by_cases g3:cls= []
  ·have q1:(cls= [])=True:=eqt g3;rw[dqf (fun h=>h g3),Bool.false_and]at hsp;cases b
   all_goals
    simp (disch:=omega) only[strs,k3,es,go_sem]
    repeat' first
     |((first|refine cA (c1 _) ?_ ?_|refine cA (c2 _) ?_ ?_);exact flk;simp (disch:=omega) only[q1,go_sem])
     |with_reducible apply aiA
    all_goals try exact clz
    refine hK _ _ (i+1) ⟨hi,hS hsp⟩ om (Wk.temps ?_)
    (simp only[strs,go_sem,qj,qd,qa,qi];try (repeat' first|(with_reducible apply aiA)|(apply qh;omega)|(apply qg;rfl)|exact qk))
  have q1:(cls= [])=False:=eqf g3;rw[dqt (show cls≠ []from g3),Bool.true_and]at hsp;cases b with
  |false=>
   simp (disch:=omega) only[strs,k3,es,go_sem]
   repeat' first
    |((first|refine cA (c1 _) ?_ ?_|refine cA (c2 _) ?_ ?_);exact flk;simp (disch:=omega) only[q1,go_sem])
    |with_reducible apply aiA
   all_goals try exact clz
   refine hK _ _ (i+1) ⟨hi,hS hsp⟩ om (Wk.temps ?_)
   (simp only[strs,go_sem,qj,qd,qa,qi];try (repeat' first|(with_reducible apply aiA)|(apply qh;omega)|(apply qg;rfl)|exact qk))
  |true=>
   have e1:=hH hsp;rw[e1,ine om]at hR;rw[hR];simp (disch:=omega) only[strs,k3,es,go_sem]
   repeat' first
    |((first|refine cA (c1 _) ?_ ?_|refine cA (c2 _) ?_ ?_);exact flk;simp (disch:=omega) only[q1,go_sem])
    |(apply qe;exact rvk;simp only[go_sem];exact qk)
    |with_reducible apply aiA
   all_goals try exact clz
 ·have k3:((i:Int)<lay.length)=False:=eqf om;have e1:j8 (fun i=>qdV cls (lay.getD i [])) lay.length 0= -1:=kA fun j hj=>i2 j om
  rw[e1,ipo (by decide)]at hR;rw[hR];simp (disch:=omega) only[strs,k3,go_sem]
  repeat' first
   |(apply qe;exact rvk;simp only[go_sem];exact qk)
theorem sp1(w:Wd)(u:Int)(h:List AObj):ACalls Tryz.prog 105 [.agg (wdC w),.ip [.int .i64 u]] h (.bool (decide (w.unit=u))) h:=by
 refine acO qyx ?_;simp (disch:=omega) only[qwU,wdC,go_sem]
 repeat' first
  |(apply qb;exact rvk;simp only[go_sem];exact qk)
  |with_reducible apply aiA
 all_goals try exact clz
theorem qDJ(w:Wd)(u:Int)(k v:Nat)(h:List AObj)(hk:qA k h=some (.mem v 3 [.int .i64 u])):ACalls Tryz.prog 105 [.agg (wdC w),.op k v 0] h (.bool (decide (w.unit=u))) h:=by
 have hc:=qQ hk;refine ACalls.borrow ?_ rfl;have e:([AV.agg (wdC w),AV.op k v 0]).map (rei (fun _=>true) h 8)= [.agg (wdC w),.ip [.int .i64 u]]:=by
  simp only[List.map_cons,List.map_nil,rei_op,if_true,hc,ipOf_some,List.drop_zero,rei_agg];rfl
 rw[e];exact sp1 _ u _
theorem qDB(n:Nat)(g:Nat→Wd)(u:Int)(k v:Nat)(h:List AObj)(hk:qA k h=some (.mem v 3 [.int .i64 u]))(hn:n≤1000000000):
  ACalls Tryz.prog 106 [.sl n (fun j=>wdC (g j)),.fn (.func 105) [] [.op k v 0]] h (.int .i64 (j8 (fun j=>decide ((g j).unit=u)) n 0)) h:=by
 refine qba qrK n (fun j=>wdC (g j)) (fun j=> .agg (wdC (g j))) _ [] [.op k v 0] _ h (fun i _=>⟨rfl,by simp[ji,wdC],rfl,rfl,rfl⟩) (fun i _=> ?_) om;rw[lna];exact qDJ _ u k v h hk
theorem qD4(n:Nat)(g:Nat→Wd)(u:Int)(k v:Nat)(h:List AObj)(hk:qA k h=some (.mem v 3 [.int .i64 u]))(hn:n≤1000000000):
  ACalls Tryz.prog 92 [.sl n (fun j=>wdC (g j)),.fn (.func 105) [] [.op k v 0]] h (.bool (zd (fun j=>decide ((g j).unit=u)) n)) h:=
 qo9 qzS ⟨rfl,rfl⟩ ⟨rfl,rfl⟩ (qDB n g u k v h hk hn)
theorem qkx{q:Nat→Bool}{n f t:Nat}(hf:f≤t)(ht:t≤n)(h1: ∀j,f≤j→j<t→q j=true)(h2:t<n→q t=false):qc0 q n f=t:=by
 obtain⟨b1,b2,b3,b4⟩:=qeG q (n:=n) (f:=f) om;rcases Nat.lt_trichotomy (qc0 q n f) t with h|h|h
 ·have:=b4 om
  rw[h1 _ b1 h]at this;cases this
 ·exact h
 ·have:=b3 t hf h
  rw[h2 om]at this;cases this
theorem qsY{q:Nat→Bool}{n f t:Nat}(ht:qc0 q n f=t)(htn:t≤n):qoG q n f=zd (fun j=>q (t+j)) (n-t):=by
 unfold qoG;rw[ht];cases e:zd (fun j=>q (t+j)) (n-t)with
 |true=>
  obtain⟨j,hj,hq⟩:=qG.1 e;exact qG.2 ⟨t+j,om,by rw[hq,dqt om];rfl⟩
 |false=>
  refine qo.2 fun i hi=> ?_
  by_cases g:t≤i
  ·have:=qo.1 e (i-t) om
   rw[show t+(i-t)=i by omega]at this;rw[this,Bool.and_false]
  ·rw[dqf g,Bool.false_and]
theorem qDK(b:List Wd)(u:Int)(h:List AObj)(hn:b.length≤1000000000):ACalls Tryz.prog 31 [qZ b,.int .i64 u] h (.tup [.int .i64 (qq2 (inU b u) b.length),.int .i64 (qq3 (inU b u) b.length),.int .i64 (qgw (inU b u) b.length)]) h:=by
 have c1:=qDB b.length (fun j=>b.getD j default) u h.length 1 (h++ [.mem 1 3 [.int .i64 u]]) (by rw[getO_app0];rfl) hn;have ei:j8 (fun j=>decide ((b.getD j default).unit=u)) b.length 0=j8 (inU b u) b.length 0:=rfl;rw[ei]at c1;unfold qq2 qq3;unfold qgw;rcases zy (inU b u) b.length with⟨f,f1,f2,_,f4⟩|⟨f1,f2⟩
 case inr=>
  rw[f2]at c1 ⊢;simp only[show ((-1:Int)<0)=True from eqt (by decide),if_true,show ((6:Int)=0)=False from eqf (by decide),if_false];refine acO qzJ ?_;simp (disch:=omega) only[qBO,qZ,go_sem]
  repeat' first
   |(refine cA (c1) flk ?_;simp (disch:=omega) only[go_sem])
   |(apply qb;exact rvk;simp only[go_sem];exact qk)
   |with_reducible first|intro _|apply aiA
  all_goals try exact clz
 rw[f4]at c1 ⊢;have k1:((f:Int)<0)=False:=eqf om;simp only[k1,if_false,itn];refine acO qzJ ?_;simp (disch:=omega) only[qBO,qZ,go_sem]
 repeat' first
  |(refine cA (c1) flk ?_;simp (disch:=omega) only[k1,go_sem])
 refine qn (T:=fun t:Nat=>qI 38 [(0,qZ b),(7,.fn (.func 105) [] [.op h.length 1 0]),(8,.int .i64 f),(9,.int .i64 t)]) (H:=fun _=>h++ [.mem 1 3 [.int .i64 u]]) (inv:=fun t=>f≤t∧t≤b.length∧ ∀j,f≤j→j<t→inU b u j=true) (m:=fun t=>b.length-t) f ⟨nlr _,om,fun j h1 h2=>by omega⟩ (Wk.temps ?_) ?_
 ·(simp only[qZ,go_sem,qj,qd,qa,qi];try (repeat' first|(with_reducible apply aiA)|(apply qh;omega)|(apply qg;rfl)|exact qk))
 rintro t ⟨t1,t2,t3⟩ K hK;have hex:(t<b.length→inU b u t=false)→qc0 (inU b u) b.length f=t:=fun hx=>qkx t1 t2 t3 hx
 have kt:((t:Int)≤b.length)=True:=eqt om;have c3:=qD4 (b.length-t) (fun j=>b.getD (t+j) default) u h.length 1 (h++ [.mem 1 3 [.int .i64 u]]) (by rw[getO_app0];rfl) om;have eb:zd (fun j=>decide ((b.getD (t+j) default).unit=u)) (b.length-t)=zd (fun j=>inU b u (t+j)) (b.length-t):=rfl;rw[eb]at c3;have hbe:(t<b.length→inU b u t=false)→qoG (inU b u) b.length f=zd (fun j=>inU b u (t+j)) (b.length-t):=fun hx=>qsY (hex hx) t2
 obtain⟨B,hB⟩: ∃B,B=zd (fun j=>inU b u (t+j)) (b.length-t):=⟨_,rfl⟩
 rw[←hB]at c3 hbe;have c2:=qDJ (b.getD t default) u h.length 1 (h++ [.mem 1 3 [.int .i64 u]]) (by rw[getO_app0];rfl);have ed:decide ((b.getD t default).unit=u)=inU b u t:=rfl;rw[ed]at c2
 by_cases ht:t<b.length
 ·have k2:((t:Int)<b.length)=True:=eqt om;obtain⟨w,hw⟩: ∃w,w=b.getD t default:=⟨_,rfl⟩
  have ew:=hw.symm;rw[ew]at c2;unfold wdC at c2;cases g:inU b u t with
  |true=>
   rw[g]at c2;simp (disch:=omega) only[qZ,wdC,k2,ew,go_sem]
   repeat' first
    |(refine qw (c2) ?_;simp (disch:=omega) only[go_sem])
    |with_reducible apply aiA
   all_goals try exact clz
   refine hK _ _ (t+1) ⟨om,ht,fun j h1 h2=> ?_⟩ om (Wk.temps ?_)
   ·by_cases e:j=t
    ·subst e;exact g
    ·exact t3 j h1 om
   ·(simp only[qZ,go_sem,qj,qd,qa,qi];try (repeat' first|(with_reducible apply aiA)|(apply qh;omega)|(apply qg;rfl)|exact qk))
  |false=>
   rw[g]at c2;have e1:=hex fun _=>g
   have e2:=hbe fun _=>g
   simp only[e1,e2];unfold wdC at c3;cases B with
   |true=>
    simp only[if_true,show ((10:Int)=0)=False from eqf (by decide),if_false];simp (disch:=omega) only[qZ,wdC,k2,ew,go_sem]
    repeat' first
     |(refine qw (c2) ?_;simp (disch:=omega) only[kt,go_sem])
     |(refine cA (c3) flk ?_;simp (disch:=omega) only[go_sem])
     |(apply qb;exact rvk;simp only[go_sem];exact qk)
     |with_reducible apply aiA
    all_goals try exact clz
   |false=>
    simp only[Bool.false_eq_true,if_false,if_true];simp (disch:=omega) only[qZ,wdC,k2,ew,go_sem]
    repeat' first
     |(refine qw (c2) ?_;simp (disch:=omega) only[kt,go_sem])
     |(refine cA (c3) flk ?_;simp (disch:=omega) only[go_sem])
     |(apply qb;exact rvk;simp only[go_sem];exact qk)
     |with_reducible apply aiA
    all_goals try exact clz
 ·have k2:((t:Int)<b.length)=False:=eqf om;have e1:=hex fun hx=>absurd hx ht
  have e2:=hbe fun hx=>absurd hx ht
  simp only[e1,e2];unfold wdC at c3;cases B with
  |true=>
   simp only[if_true,show ((10:Int)=0)=False from eqf (by decide),if_false];simp (disch:=omega) only[qZ,wdC,k2,kt,go_sem]
   repeat' first
    |(refine cA (c3) flk ?_;simp (disch:=omega) only[go_sem])
    |(apply qb;exact rvk;simp only[go_sem];exact qk)
    |with_reducible apply aiA
   all_goals try exact clz
  |false=>
   simp only[Bool.false_eq_true,if_false,if_true];simp (disch:=omega) only[qZ,wdC,k2,kt,go_sem]
   repeat' first
    |(refine cA (c3) flk ?_;simp (disch:=omega) only[go_sem])
    |(apply qb;exact rvk;simp only[go_sem];exact qk)
    |with_reducible apply aiA
   all_goals try exact clz
def spF(b:List Wd)(k:Int)(c:Int):Int:=if qgw (inU b k) b.length=0 then qq2 (inU b k) b.length else (cP (bfU b c) b.length:Int)
def spT(b:List Wd)(k:Int)(c:Int):Int:=if qgw (inU b k) b.length=0 then qq3 (inU b k) b.length else (cP (bfU b c) b.length:Int)
theorem qCT(b:List Wd)(k:Int)(u:Un)(h:List AObj)(hn:b.length≤1000000000):ACalls Tryz.prog 160 [qZ b,.int .i64 k,.agg (unC u)] h (.tup [.int .i64 (spF b k u.frm),.int .i64 (spT b k u.frm)]) h:=by
 have c1:=fun h=>qDK b k h hn
 unfold spF spT;obtain⟨F,hF⟩: ∃F,F=qq2 (inU b k) b.length:=⟨_,rfl⟩
 obtain⟨T,hT⟩: ∃T,T=qq3 (inU b k) b.length:=⟨_,rfl⟩
 obtain⟨E,hE⟩: ∃E,E=qgw (inU b k) b.length:=⟨_,rfl⟩
 simp only[←hF,←hT,←hE]at c1 ⊢
 by_cases g:E=0
 ·have k1:(E=0)=True:=eqt g;simp only[k1,if_true];unfold qZ at c1;refine acO qrZ ?_;simp (disch:=omega) only[qte,qZ,unC,go_sem]
  repeat' first
   |(refine cA (c1 _) flk ?_;simp (disch:=omega) only[k1,go_sem])
   |(apply qb;exact rvk;simp only[go_sem];exact qk)
   |with_reducible apply aiA
  all_goals try exact clz
 have k1:(E=0)=False:=eqf g;simp only[k1,if_false];unfold qZ at c1;refine acO qrZ ?_;simp (disch:=omega) only[qte,qZ,unC,go_sem]
 repeat' first
  |(refine cA (c1 _) flk ?_;simp (disch:=omega) only[k1,go_sem])
  |with_reducible apply aiA
 all_goals try exact clz
 have hle:=qoT (bfU b u.frm);have hst: ∀n,cP (bfU b u.frm) (n+1)=cP (bfU b u.frm) n+if bfU b u.frm n=true then 1 else 0:=fun _=>rfl
 refine qn (T:=fun i:Nat×AObj=>qI 41 [(5,.op h.length 1 0),(11,.int .i64 (cP (bfU b u.frm) i.1:Int)),(25,qZ b),(26,.int .i64 b.length),(27,.int .i64 i.1)]) (H:=fun i=>h++ [.mem 1 83 (unC u),i.2]) (inv:=fun i=>i.1≤b.length∧qC [i.2] 0=true) (m:=fun i=>b.length-i.1) (0,.emp 0) ⟨nzl _,rfl⟩ (Wk.temps ?_) ?_
 ·(simp only[qZ,cP,go_sem,qj,qd,qa,qi];try (repeat' first|(with_reducible apply aiA)|(apply qh;omega)|(apply qg;rfl)|exact qk))
 rintro⟨i,O⟩ ⟨i1,i2⟩ K hK;simp only at i1 i2 hK;have i2': ∀m,qC (O::m) 0=true:=fun _=>i2
 have hle:=hle i;have hst:=hst i;have hb:bfU b u.frm i=decide ((b.getD i default).col<u.frm):=rfl;obtain⟨c,hc⟩: ∃c,c=cP (bfU b u.frm) i:=⟨_,rfl⟩
 have ec:=hc.symm;rw[ec]at hle hst
 by_cases hi:i<b.length
 ·have k2:((i:Int)<b.length)=True:=eqt om;obtain⟨w,hw⟩: ∃w,w=b.getD i default:=⟨_,rfl⟩
  have ew:=hw.symm;rw[ew]at hb
  by_cases g2:w.col<u.frm
  ·have k3:(w.col<u.frm)=True:=eqt g2;rw[hb,dqt g2,ipo rfl]at hst;simp (disch:=omega) only[qZ,wdC,unC,k2,ec,ew,i2',k3,go_sem]
   repeat' first
    |with_reducible apply aiA
   all_goals try exact clz
   refine hK _ _ (i+1,.mem (qr (some O)+1) 64 (wdC w)) ⟨hi,rfl⟩ (by simp only;omega) ?_;simp only[hst];refine Wk.temps ?_
   (simp only[qZ,go_sem,qj,qd,qa,qi];try (repeat' first|(with_reducible apply aiA)|(apply qh;omega)|(apply qg;rfl)|exact qk))
  ·have k3:(w.col<u.frm)=False:=eqf g2;rw[hb,dqf g2,ine (by simp),Nat.add_zero]at hst;simp (disch:=omega) only[qZ,wdC,unC,k2,ec,ew,i2',k3,go_sem]
   repeat' first
    |with_reducible apply aiA
   all_goals try exact clz
   refine hK _ _ (i+1,.mem (qr (some O)+1) 64 (wdC w)) ⟨hi,rfl⟩ (by simp only;omega) ?_;simp only[hst];refine Wk.temps ?_
   (simp only[qZ,go_sem,qj,qd,qa,qi];try (repeat' first|(with_reducible apply aiA)|(apply qh;omega)|(apply qg;rfl)|exact qk))
 ·have k2:((i:Int)<b.length)=False:=eqf om;obtain rfl:i=b.length:=by omega
  rw[ec];simp (disch:=omega) only[qZ,k2,go_sem]
  repeat' first
   |(apply qb;exact rvk;simp only[go_sem];exact qk)
end RC
end
section
open Go Go.Proofs AF
def qux:List Nat:= []
def qtw:C:=
 ((C.ops [O1 7 (.box 0 26) 0,O1 11 (.box 1 44) 4,⟨some 14,none,.alloc 2 49 [.nl],[]⟩,⟨some 15,none,.alloc 3 35 [i6 0],[]⟩]).seq (((C.ops [O1 37 (.load (some 4)) 7,MV 38 1,
 MV 39 3,ON 40 (.call 38 true) [.t 37,.t 38,.t 39],MV 16 40]).seq ((C.ops [MV 41 16,BC 42 .neq 41 (i6 0)]).seq (C.cond (.t 42) ((C.ops [MV 43 16,⟨none,none,.store 1,[.t 14,
 .c .nl]⟩,ST 1 15 43]).seq C.ret) C.skip))).seq (((C.ops [O1 44 (.fldA 1) 7,LD 45 44,LD 46 11,O2 47 (.call 122 true) 45 46,BC 48 .neq 47 (i6 0)]).seq (C.cond (.t 48) ((C.ops
 [⟨none,none,.store 1,[.t 14,.c .nl]⟩,⟨none,none,.store 1,[.t 15,.c (i6 1)]⟩]).seq C.ret) C.skip)).seq (((C.ops [MV 50 5,OC 51 (.call 27 true) 50 (.str []),MV 49 51,O1
 52 (.ext 0) 49,O1 53 (.ext 1) 49,MV 17 52,MV 18 53]).seq ((C.ops [MV 54 18,BC 55 .neq 54 (i6 0)]).seq (C.cond (.t 55) ((C.ops [MV 56 18,⟨none,none,.store 1,[.t 14,.c
 .nl]⟩,ST 1 15 56]).seq C.ret) C.skip))).seq (((C.ops [MV 57 6,O1 58 .len 57,MV 59 5,O1 60 .len 59,BI 61 .neq 58 60,MV 62 61,MG 63 62 false 2,P1 64 62 false .len 63,MG 65
 62 false 1,P1 66 62 false .len 65,P2 67 62 false (.bin .neq) 64 66,PT 68 62 67]).seq (C.cond (.t 68) ((C.ops [⟨none,none,.store 1,[.t 14,.c .nl]⟩,⟨none,none,.store 1,[.t
 15,.c (i6 9)]⟩]).seq C.ret) C.skip)).seq (((C.ops [MV 69 1,O1 70 .len 69,MC 71 (i6 0)]).seq (C.block 0 ((C.ops [BI 72 .lss 71 70]).seq ((C.cond (.t 72) C.skip (C.exit 0)).seq
 ((C.block 1 ((C.ops [MV 73 71,O2 74 (.idxA 3) 69 71,O1 75 (.load (some 3)) 74,⟨some 20,none,.alloc 4 83 [i6 0,i6 0,.nl],[]⟩,MV 19 73,ST 3 20 75]).seq ((C.ops [MV 76 2,MV
 77 19,O2 78 (.idxA 1) 76 77,LD 79 78,O1 80 .len 79,O1 81 (.fldA 2) 20,LD 82 81,O1 83 .len 82,BI 84 .neq 80 83]).seq (C.cond (.t 84) ((C.ops [⟨none,none,.store 1,[.t 14,
 .c .nl]⟩,⟨none,none,.store 1,[.t 15,.c (i6 9)]⟩]).seq C.ret) C.skip)))).seq (C.ops [BC 85 .add 71 (i6 1),MV 71 85])))).loop)).seq ((C.ops [ON 21 (.nilo 5 6 58) []]).seq
 (((C.ops [MV 86 1,O1 87 .len 86,MC 88 (i6 0)]).seq (C.block 2 ((C.ops [BI 89 .lss 88 87]).seq ((C.cond (.t 89) C.skip (C.exit 2)).seq ((C.block 3 ((C.ops [MV 90 88,O2 91 (.idxA
 3) 86 88,O1 92 (.load (some 3)) 91,⟨some 23,none,.alloc 6 83 [i6 0,i6 0,.nl],[]⟩,MV 22 90,ST 3 23 92]).seq ((C.ops [MV 94 3,MV 95 22,O1 96 (.load (some 3)) 23,ON 97
 (.call 160 true) [.t 94,.t 95,.t 96],MV 93 97,O1 98 (.ext 0) 93,O1 99 (.ext 1) 93,MV 24 98,MV 25 99]).seq ((C.ops [⟨some 26,none,.alloc 7 22 [.nl],[]⟩]).seq (((C.ops [MV
 100 3,MV 101 24,MV 102 25,ON 103 (.slc 7 true true) [.t 100,.t 101,.t 102],O1 104 .len 103,MC 105 (i6 0)]).seq (C.block 4 ((C.ops [BI 106 .lss 105 104]).seq ((C.cond (.t
 106) C.skip (C.exit 4)).seq ((C.block 5 ((C.ops [O2 107 (.idxA 7) 103 105,O1 108 (.load (some 7)) 107,⟨some 28,none,.alloc 8 64 [.str [],i6 0,i6 0,i6 0,.bool false,.bool
 false,.str []],[]⟩,ST 7 28 108]).seq (C.ops [LD 109 26,O1 110 (.fldA 0) 28,LD 111 110,⟨some 112,none,.bslc 9 1 1 9 [.str []] [(0,1)],[.t 111]⟩,O2 113 (.app 10 1 9 16)
 109 112,ST 1 26 113]))).seq (C.ops [BC 114 .add 105 (i6 1),MV 105 114])))).loop)).seq ((C.ops [MV 115 5,O1 116 .len 115,MC 117 (i6 0)]).seq (C.block 6 ((C.ops [BI 118 .lss 117
 116]).seq ((C.cond (.t 118) C.skip (C.exit 6)).seq ((C.block 7 ((C.ops [MV 119 117,MV 29 119]).seq ((C.ops [MV 120 29,MV 121 24,MV 122 25,MV 123 6,MV 124 29,O2 125 (.idxA 1)
 123 124,LD 126 125,⟨some 127,none,.build [i6 0,i6 0,i6 0,.bool false,.nl,.nl] [(0,1),(1,1),(2,1),(3,1)],[.t 120,.t 121,.t 122,.t 126]⟩,⟨some 30,none,.alloc
 11 58 [i6 0,i6 0,i6 0,.bool false,.nl,.nl],[]⟩,ST 6 30 127]).seq (((C.wk.seq (C.ops [O1 128 (.load (some 3)) 23,MV 129 2,MV 130 22,O2 131 (.idxA 1) 129 130,LD 132 131,
 LD 133 26,MV 134 5,MV 135 29,ON 136 (.call 161 true) [.t 128,.t 132,.t 133,.t 134,.t 135]])).seq (C.block 8 (C.range (.t 136) [137] (C.ops [⟨some 31,none,.alloc 12 89
 [.nl,.nl],[]⟩,ST 2 31 137]) (C.block 9 ((C.ops [O1 139 (.fldA 1) 7,LD 140 139,LD 141 11,O1 142 (.fldA 1) 31,LD 143 142,ON 144 (.call 142 true) [.t 140,.t 141,.t 143],MV
 138 144,O1 145 (.ext 0) 138,O1 146 (.ext 1) 138,MV 32 145,MV 33 146]).seq (((C.ops [MV 147 33,BC 148 .neq 147 (.int .i64 (Int.ofNat 0))]).seq (C.cond (.t 148) ((C.ops [MV 149
 33,⟨none,none,.store 1,[.t 14,.c .nl]⟩,ST 1 15 149]).seq C.ret) C.skip)).seq (C.ops [O1 150 (.fldA 5) 30,LD 151 150,O1 152 (.fldA 0) 31,LD 153 152,MV 154 32,⟨some 155,
 none,.build [.nl,.nl] [(0,1),(1,1)],[.t 153,.t 154]⟩,⟨some 156,none,.bslc 13 2 1 85 [.nl,.nl] [(0,2)],[.t 155]⟩,O2 157 (.app 14 2 85 48) 151 156,O1 158 (.fldA 5) 30,
 ST 1 158 157]))))))).seq (((C.wk.seq (C.ops [O1 159 (.fldA 5) 30,LD 160 159,O1 161 .len 160,BC 162 .eql 161 (i6 0)])).seq (C.cond (.t 162) (C.exit 7) C.skip)).seq ((C.ops [O1
 163 (.fldA 2) 23,LD 164 163,O1 165 (.mkfn (Fn.func 162) 0) 26,O2 166 (.call 127 true) 164 165,MV 34 166]).seq (((C.ops [MV 167 6,MV 168 29,O2 169 (.idxA 1) 167 168,LD 170
 169,MV 171 170,MG 172 171 true 34,PC 173 171 true (.bin .geq) 172 (i6 0),PF 174 171 173]).seq (C.cond (.t 174) ((C.ops [O1 176 (.fldA 1) 7,LD 177 176,LD 178 11,O1 179 (.fldA
 2) 23,LD 180 179,MV 181 34,O2 182 (.idxA 2) 180 181,O1 183 (.fldA 1) 182,LD 184 183,ON 185 (.call 142 true) [.t 177,.t 178,.t 184],MV 175 185,O1 186 (.ext 0) 175,O1 187
 (.ext 1) 175,MV 35 186,MV 36 187]).seq (((C.ops [MV 188 36,BC 189 .neq 188 (.int .i64 (Int.ofNat 0))]).seq (C.cond (.t 189) ((C.ops [MV 190 36,⟨none,none,.store 1,[.t 14,.c
 .nl]⟩,ST 1 15 190]).seq C.ret) C.skip)).seq (C.ops [MV 191 35,O1 192 (.fldA 4) 30,ST 1 192 191]))) C.skip)).seq (C.ops [MV 193 21,O1 194 (.load (some 6)) 30,⟨some 195,none,
 .bslc 15 6 1 58 [i6 0,i6 0,i6 0,.bool false,.nl,.nl] [(0,6)],[.t 194]⟩,O2 196 (.app 16 6 58 80) 193 195,MV 21 196])))))))).seq (C.ops [BC 197 .add 117 (i6 1),MV 117
 197])))).loop))))))).seq (C.ops [BC 198 .add 88 (i6 1),MV 88 198])))).loop)).seq ((C.ops [MV 199 21,ST 1 14 199,⟨none,none,.store 1,[.t 15,.c (i6 0)]⟩]).seq
 C.ret)))))))))
theorem qir:qB Tryz.prog 96 200 17 [RV.cell 14 none,RV.cell 15 none] qtw:=fi Tryz.f96 [7,11,14,15,20,21,23,26,28,112,113,30,31,156,157,195,196] qux [32,38]
end
section
open Go Go.Proofs AF HY LN
namespace RC
def flG{α:Type}(p:Nat→Bool)(g:Nat→α):Nat→List α
 |0=> []
 |i+1=>flG p g i++if p i=true then [g i] else []
theorem qyt{α:Type}{p:Nat→Bool}{g:Nat→α}{i:Nat}(hp:p i=true): ∀ {n:Nat},i<n→ ∃h:(flG p g i).length<(flG p g n).length,(flG p g n)[(flG p g i).length]=g i:=by
 intro n
 induction n with
 |zero=>intro h;exact absurd h (nnz _)
 |succ n ih=>
  intro hi
  by_cases e:i=n
  ·subst e;have e1:flG p g (i+1)=flG p g i++ [g i]:=by
    show flG p g i++(if p i=true then [g i] else [])=_;rw[ipo hp]
   refine⟨by rw[e1];simp,?_⟩;simp only[e1];rw[List.getElem_append_right (nlr _)];simp
  ·obtain⟨h1,h2⟩:=ih om;have e1:flG p g (n+1)=flG p g n++(if p n=true then [g n] else []):=rfl;refine⟨by rw[e1,lap];omega,?_⟩;simp only[e1];rw[List.getElem_append_left h1];exact h2
theorem qyv{α:Type}(p:Nat→Bool)(g:Nat→α): ∀n,(flG p g n).length≤n:=by
 intro n
 induction n with
 |zero=>exact nlr _
 |succ n ih=>
  show (flG p g n++if p n=true then [g n] else []).length≤_;rw[lap];split
  ·simp only[lco,lnl];omega
  ·simp only[lnl];omega
theorem qlu{α β:Type}(p:Nat→Bool)(g:Nat→α)(k:Nat→β): ∀n,(flG p g n).length=(flG p k n).length:=by
 intro n
 induction n with
 |zero=>rfl
 |succ n ih=>
  show (flG p g n++if p n=true then [g n] else []).length=(flG p k n++if p n=true then [k n] else []).length;rw[lap,lap,ih];split<;>rfl
def vtB(rds:List Rd)(cls own lay:List Str)(y:Int)(r:Nat):Bool:=decide (lyR lay (cls.getD r [])=y)&& !decide ((rds.getD r default).words=own)
def vtX(rds:List Rd)(cls own lay:List Str)(y:Int)(n:Nat):List (List AV):=flG (vtB rds cls own lay y) (fun r=> [.agg (rdC (rds.getD r default))]) n
theorem qAL(a b:List Str)(h:List AObj)(h1:a.length≤1000000000)(h2:b.length≤1000000000):ACalls Tryz.prog 139 [strs a,strs b] h (.bool (decide (a=b))) h:=by
 have c:=qvl a b.length (fun j=>b.getD j []) h h1 h2;have e:decide (a.length=b.length∧ ∀i,i<a.length→a.getD i []=b.getD i [])=decide (a=b):=decide_eq_decide.2 (je ([]:Str)).symm;rw[e]at c;exact c
theorem qE8(u:Un)(cls own lay:List Str)(y:Int)(h:List AObj):
  ACalls Tryz.prog 161 [.agg (unC u),strs cls,strs own,strs lay,.int .i64 y] h (.fn (.func 215) [] [.ip (unC u),.ip [strs lay],.ip [strs cls],.ip [.int .i64 y],.ip [strs own]]) h:=by
 refine acO qyL ?_;simp (disch:=omega) only[qw6,unC,go_sem]
 repeat' first
  |(apply qb;exact rvk;simp only[go_sem];exact qk)
theorem itV(u:Un)(cls own lay:List Str)(y:Int)(hr:u.rds.length≤1000000000)(hc:cls.length=u.rds.length)(hw: ∀j,(u.rds.getD j default).words.length≤1000000000)(ho:own.length≤1000000000)(hl:lay.length≤1000000000)(hs: ∀i,(lay.getD i []).length≤100000000):
  qwq Tryz.prog 215 [.ip (unC u),.ip [strs lay],.ip [strs cls],.ip [.int .i64 y],.ip [strs own]] (vtX u.rds cls own lay y u.rds.length):=by
 intro h ts LI S E hS hE body start hts;refine acQ qza ?_;simp (disch:=omega) only[qxs,unC,jo,go_sem]
 repeat' first
  |with_reducible apply aiA
 all_goals try exact clz
 obtain⟨p,hp⟩: ∃p,p=vtB u.rds cls own lay y:=⟨_,rfl⟩
 obtain⟨g,hg⟩: ∃g:Nat→List AV,g=fun r=> [.agg (rdC (u.rds.getD r default))]:=⟨_,rfl⟩
 have hX:vtX u.rds cls own lay y u.rds.length=flG p g u.rds.length:=by rw[hp,hg];rfl
 refine qn (T:=fun i:Nat×List AObj×AObj=>qI 45 [(0,.yld h.length),(2,.ip [strs lay]),(3,.ip [strs cls]),(4,.ip [.int .i64 y]),(5,.ip [strs own]),(12,jo u.rds),(13,.int .i64 u.rds.length),(14,.int .i64 i.1)])
  (H:=fun i=>i.2.1++ [.lp .ready ts LI]++ [i.2.2])
  (inv:=fun i=>i.1≤u.rds.length∧S (flG p g i.1).length i.2.1∧qC [i.2.2] 0=true) (m:=fun i=>u.rds.length-i.1) (0,h,.emp 0) ⟨nzl _,start,rfl⟩ (Wk.temps ?_) ?_
 ·(simp only[jo,strs,go_sem,qj,qd,qa,qi];try (repeat' first|(with_reducible apply aiA)|(apply qh;omega)|(apply qg;rfl)|exact qk))
 rintro⟨i,hh,O⟩ ⟨i1,i2,i3⟩ K hK;simp only at i1 i2 i3 hK;obtain⟨hlen,hlow⟩:=hS _ _ i2;have hb:(h++ [AObj.lp LS.ready ts LI]).length=(hh++ [AObj.lp LS.ready ts LI]).length:=by simp[hlen]
 rw[hb];have i3': ∀m,qC (O::m) 0=true:=fun _=>i3
 by_cases hi:i<u.rds.length
 ·have q0:((i:Int)<u.rds.length)=True:=eqt om;have qc:((i:Int)<cls.length)=True:=eqt om;have hst:flG p g (i+1)=flG p g i++if p i=true then [g i] else []:=rfl
  have hpi:p i=(decide (lyR lay (cls.getD i [])=y)&& !decide ((u.rds.getD i default).words=own)):=by rw[hp];rfl
  have c27:=fun h=>lyP lay (cls.getD i []) h hl hs
  have c139:=fun h=>qAL (u.rds.getD i default).words own h (hw i) ho
  have hgi:g i= [.agg (rdC (u.rds.getD i default))]:=by rw[hg]
  have hat:=fun hpp=>qyt (p:=p) (g:=g) (i:=i) hpp hi
  obtain⟨r,hr⟩: ∃r,r=u.rds.getD i default:=⟨_,rfl⟩
  have er:=hr.symm;obtain⟨c,hcx⟩: ∃c,c=cls.getD i []:=⟨_,rfl⟩
  have ec:=hcx.symm;simp only[er,ec]at hpi c27 c139 hgi;obtain⟨z,hz⟩: ∃z,z=lyR lay c:=⟨_,rfl⟩
  obtain⟨ze,hze⟩: ∃ze,ze=lyE lay:=⟨_,rfl⟩
  rw[←hz]at hpi;simp only[←hz,←hze]at c27;obtain⟨b,hbx⟩: ∃b,b=decide (r.words=own):=⟨_,rfl⟩
  rw[←hbx]at hpi;simp only[←hbx]at c139;unfold strs at c27 c139
  by_cases gz:z=y
  ·have q1:(z=y)=True:=eqt gz;rw[dqt gz,Bool.true_and]at hpi;cases b with
   |false=>
    rw[Bool.not_false]at hpi;rw[hpi,ipo rfl]at hst;obtain⟨hdl,hxx⟩:=hat hpi;rw[hgi]at hxx;have hdl':(flG p g i).length<(vtX u.rds cls own lay y u.rds.length).length:=by rw[hX];exact hdl
    have hxx':(vtX u.rds cls own lay y u.rds.length)[(flG p g i).length]= [.agg (rdC r)]:=by simp only[hX];exact hxx
    have hb':=fun O'=>body (flG p g i).length hh [O'] hdl' i2
    rw[hxx']at hb';have hlst:(flG p g (i+1)).length=(flG p g i).length+1:=by rw[hst];simp
    simp (disch:=omega) only[jo,strs,i3',q0,qc,er,ec,rdC,go_sem]
    repeat' first
     |((first|refine cA (c27 _) ?_ ?_|refine cG (fun e=>c139 _) ?_ ?_);exact flk;simp (disch:=omega) only[q1,go_sem])
     |with_reducible apply aiA
    all_goals try exact clz
    ·exact⟨.ready,ts,LI,by rw[List.append_assoc];exact kz hlen⟩
    ·rw[List.append_assoc];refine ku.mono ?_ (hb' _);rintro v h' ⟨hh',⟨rfl,hn,rfl⟩|⟨st,rfl,hs',rfl⟩⟩
     ·simp (disch:=omega) only[go_sem];refine hK _ _ (i+1,hh',.mem (qr (some O)+1) 89 (rdC r)) ⟨hi,by simp only;rw[hlst];exact hn,rfl⟩ (by simp only;omega) ?_;simp only[List.append_assoc];refine Wk.temps ?_
      (simp only[jo,strs,go_sem,qj,qd,qa,qi];try (repeat' first|(with_reducible apply aiA)|(apply qh;omega)|(apply qg;rfl)|exact qk))
     ·simp (disch:=omega) only[go_sem];obtain⟨r1,r2⟩:=(hE _ _ hs').ret (L:=LI) st hts;have eO: ∀O',hh'++AObj.lp st ts LI:: [O']=(hh'++ [AObj.lp st ts LI])++ [O']:=fun _=>by simp
      rw[eO];exact qlK trivial r1 r2 ⟨_,.inr ⟨st,hs',rfl⟩⟩ (qk)
   |true=>
    rw[Bool.not_true]at hpi;rw[hpi,ine (by simp),lan]at hst;simp (disch:=omega) only[jo,strs,i3',q0,qc,er,ec,rdC,go_sem]
    repeat' first
     |((first|refine cA (c27 _) ?_ ?_|refine cG (fun e=>c139 _) ?_ ?_);exact flk;simp (disch:=omega) only[q1,go_sem])
     |with_reducible apply aiA
    all_goals try exact clz
    refine hK _ _ (i+1,hh,.mem (qr (some O)+1) 89 (rdC r)) ⟨hi,by simp only;rw[hst];exact i2,rfl⟩ (by simp only;omega) ?_;simp only;refine Wk.temps ?_
    (simp only[jo,strs,go_sem,qj,qd,qa,qi];try (repeat' first|(with_reducible apply aiA)|(apply qh;omega)|(apply qg;rfl)|exact qk))
  ·have q1:(z=y)=False:=eqf gz;rw[dqf gz,Bool.false_and]at hpi;rw[hpi,ine (by simp),lan]at hst;simp (disch:=omega) only[jo,strs,i3',q0,qc,er,ec,rdC,go_sem]
   repeat' first
    |(refine qm ( .bool false) ?_;simp (disch:=omega) only[go_sem])
    |(refine cA (c27 _) flk ?_;simp (disch:=omega) only[q1,go_sem])
    |with_reducible apply aiA
   all_goals try exact clz
   refine hK _ _ (i+1,hh,.mem (qr (some O)+1) 89 (rdC r)) ⟨hi,by simp only;rw[hst];exact i2,rfl⟩ (by simp only;omega) ?_;simp only;refine Wk.temps ?_
   (simp only[jo,strs,go_sem,qj,qd,qa,qi];try (repeat' first|(with_reducible apply aiA)|(apply qh;omega)|(apply qg;rfl)|exact qk))
 ·have e:i=u.rds.length:=by omega
  subst e;have q0:((u.rds.length:Int)<u.rds.length)=False:=eqf om;simp (disch:=omega) only[jo,i3',q0,go_sem];obtain⟨r1,r2⟩:=(hS _ _ i2).ret (L:=LI) .ready hts;exact qpH trivial r1 r2 ⟨hh,.inl ⟨by rw[hX];exact i2,rfl⟩⟩ (qk)
end RC
end
