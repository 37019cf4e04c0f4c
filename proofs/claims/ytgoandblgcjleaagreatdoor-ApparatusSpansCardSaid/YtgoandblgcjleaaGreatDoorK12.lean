import Derived.Test.YtgoandblgcjleaaGreatDoorK11
import Derived.Test.YtgoandblgcjleaaGreatDoorK10
import Derived.Test.YtgoandblgcjleaaGreatDoorK9
import Derived.Test.YtgoandblgcjleaaGreatDoorK2
import Derived.Test.YtgoandblgcjleaaGreatDoorK4
import Derived.Test.YtgoandblgcjleaaGreatDoorK7
import Derived.Test.YtgoandblgcjleaaGreatDoorProg
import Derived.Test.YtgoandblgcjleaaGreatDoorK8
set_option linter.all false
set_option linter.unusedSimpArgs false
set_option linter.unusedVariables false
set_option linter.unusedSectionVars false
set_option maxRecDepth 100000
section
open Go Go.Proofs AF HY LN
namespace RC
set_option maxHeartbeats 16000000
def ku (base:Nat) (L:List Rd):List AV:=(List.range L.length).flatMap fun j=> [strs (L.getD j default).words,.osl (base+j) (L.getD j default).src.length 1 0 (L.getD j default).src.length]
def qfu (L:List Rd):List AObj:=L.map fun r=> .mem r.src.length 3 (qC r.src)
theorem qn3 (L:List Rd):(qfu L).length=L.length:=by simp [qfu]
theorem qky {L:List Rd} {j:Nat} (hj:j<L.length):(qfu L)[j]? =some (.mem (L.getD j default).src.length 3 (qC (L.getD j default).src)):=by
 unfold qfu
 rw [List.getElem?_map,zM hj,gdqA,zM hj]
 rfl
theorem qn2 (L M:List Rd):qfu (L++M)=qfu L++qfu M:=by simp [qfu]
theorem qn4 {L:List Rd} {j:Nat} (r:Rd):(qfu L).set j (.mem r.src.length 3 (qC r.src))=qfu (L.set j r):=by
 unfold qfu
 rw [List.map_set]
theorem qcj {α:Type} (f g:Nat→List α): ∀n,(∀i,i<n→f i=g i)→(List.range n).flatMap f=(List.range n).flatMap g:=fun n h=>by
 rw [List.flatMap_def,List.flatMap_def]
 congr 1
 exact List.map_congr_left fun i hi=>h i (List.mem_range.1 hi)
theorem qkx (base:Nat) (L:List Rd) (r:Rd):ku base (L++ [r])=ku base L++ [strs r.words,.osl (base+L.length) r.src.length 1 0 r.src.length]:=by
 unfold ku
 rw [List.length_append,List.length_singleton,List.range_succ,List.flatMap_append]
 congr 1
 ·refine qcj _ _ _ fun i hi=> ?_
  rw [gdqA,List.getElem?_append_left hi,←gdqA]
 ·simp
theorem qbs (base:Nat) (L:List Rd):(ku base L).length=2*L.length:=by
 unfold ku
 generalize L.length=n
 generalize hf:(fun j=> [strs (L.getD j default).words,AV.osl (base+j) (L.getD j default).src.length 1 0 (L.getD j default).src.length])=f
 have h2: ∀j,(f j).length=2:=fun j=>by rw [←hf];rfl
 induction n with
 |zero=>rfl
 |succ n ih=>rw [List.range_succ,List.flatMap_append,List.length_append,ih];simp [h2];omega
theorem qck (base:Nat) (L:List Rd) {k:Nat} (hk:k<L.length): ∃A B,A.length=2*k∧ku base L=A++ [strs (L.getD k default).words,.osl (base+k) (L.getD k default).src.length 1 0 (L.getD k default).src.length]++B∧
  ∀s,ku base (L.set k ⟨(L.getD k default).words,s⟩)=A++ [strs (L.getD k default).words,.osl (base+k) s.length 1 0 s.length]++B:=by
 have e:List.range L.length=List.range k++k::(List.range (L.length-(k+1))).map (fun i=>k+1+i):=by
  conv=>lhs;rw [show L.length=k+1+(L.length-(k+1)) by omega,List.range_add,List.range_succ,List.append_assoc]
  rfl
 refine ⟨(List.range k).flatMap fun j=> [strs (L.getD j default).words,.osl (base+j) (L.getD j default).src.length 1 0 (L.getD j default).src.length],((List.range (L.length-(k+1))).map (fun i=>k+1+i)).flatMap fun j=> [strs (L.getD j default).words,.osl (base+j) (L.getD j default).src.length 1 0 (L.getD j default).src.length],?_,?_,fun s=> ?_⟩
 ·have h2: ∀(f:Nat→List AV),(∀j,(f j).length=2)→ ∀n,((List.range n).flatMap f).length=2*n:=fun f hf n=>by
   induction n with
   |zero=>rfl
   |succ n ih=>rw [List.range_succ,List.flatMap_append,List.length_append,ih];simp [hf];omega
  exact h2 _ (fun _=>rfl) _
 ·unfold ku
  rw [e,List.flatMap_append,List.flatMap_cons,List.append_assoc]
 ·unfold ku
  rw [List.length_set,e,List.flatMap_append,List.flatMap_cons,List.append_assoc]
  have g: ∀j,(L.set k ⟨(L.getD k default).words,s⟩).getD j default=if j=k then ⟨(L.getD k default).words,s⟩ else L.getD j default:=fun j=>jm hk
  congr 1
  ·refine qcj _ _ _ fun i hi=> ?_
   rw [g,if_neg (by omega)]
  ·rw [g,if_pos rfl]
   show _::_::_=_::_::_
   congr 2
   rw [List.flatMap_def,List.flatMap_def,List.map_map,List.map_map]
   refine congrArg List.flatten (List.map_congr_left fun i _=> ?_)
   simp only [Function.comp]
   rw [g,if_neg (by omega)]
theorem qn1 {base:Nat} {L:List Rd} {i:Nat} (hi:i<L.length):((ku base L).drop (i*2)).take 2= [strs (L.getD i default).words,.osl (base+i) (L.getD i default).src.length 1 0 (L.getD i default).src.length]:=by
 obtain ⟨A,B,h1,h2,_⟩:=qck base L hi
 rw [h2,show i*2=A.length by omega,List.append_assoc,List.drop_append,Nat.sub_self]
 simp
theorem qnm {L:List Int} {n:Nat} {g:AV→AV} (hg: ∀x,g (.int .i64 x)= .int .i64 x) (hn:n=L.length):ILe (qc7 (some (.mem n 3 (qC L))) n 1 0 n g) (qp L):=by
 subst hn
 rw [slOf_mem,if_pos ⟨rfl,by rw [zf];omega⟩]
 refine ILe.sl_eq fun i hi=> ?_
 simp only [Nat.zero_add,Nat.mul_one]
 have e:((qC L).drop i).take 1= [.int .i64 (L.getD i 0)]:=by
  rw [List.drop_eq_getElem_cons (by rw [zf];exact hi),List.take_succ_cons,List.take_zero]
  have h:=qbJ (C:=L) hi
  rw [zM (by rw [zf];exact hi)]at h
  rw [Option.some.inj h]
 rw [e,List.map_cons,List.map_nil,hg]
theorem qkz {base v:Nat} {L:List Rd} {n:Nat} {fz:Nat→Bool} {H:List AObj} {d:Nat} (hn:n=L.length) (hf: ∀j,j<L.length→fz (base+j)=true) (hj: ∀j,j<L.length→qy (base+j) H=some (.mem (L.getD j default).src.length 3 (qC (L.getD j default).src))):
  VLe (qc7 (some (zC v 89 (ku base L))) v 2 0 n (rei fz H (d+2))) (zE L):=by
 subst hn
 by_cases h0:L= []
 ·subst h0
  show VLe (qc7 (some (.emp v)) v 2 0 0 _) _
  rw [slOf_emp,if_pos rfl]
  exact kj
 ·have e0:zC v 89 (ku base L)= .mem v 89 (ku base L):=zS (fun e=>h0 (by
   have:=qbs base L
   rw [e]at this
   exact List.eq_nil_of_length_eq_zero (by simp at this;omega)))
  rw [e0,slOf_mem,if_pos ⟨rfl,by rw [qbs];omega⟩]
  refine VLe.sl (fun i hi=> ?_)
  simp only [Nat.zero_add]
  rw [qn1 hi]
  refine ⟨ILe.refl _,?_,trivial⟩
  show ILe (rei fz H (d+1+1) (.osl (base+i) _ 1 0 _)) _
  rw [rei_osl,if_pos (hf i hi),hj i hi]
  exact qnm (fun _=>rfl) rfl
theorem qqE {A B:List AV} {a b c:AV} {n:Nat} (hn:n=A.length+1):List.take n (A++ [a,b]++B)++ [c]++List.drop (n+1) (A++ [a,b]++B)=A++ [a,c]++B:=by
 have e1:A++ [a,b]++B=(A++ [a])++(b::B):=by simp
 have e2:A++ [a,b]++B=(A++ [a]++ [b])++B:=by simp
 have h1:List.take n (A++ [a,b]++B)=A++ [a]:=by rw [e1];exact List.take_left' (by rw [List.length_append,List.length_singleton,hn])
 have h2:List.drop (n+1) (A++ [a,b]++B)=B:=by rw [e2];exact List.drop_left' (by rw [List.length_append,List.length_append,List.length_singleton,List.length_singleton,hn])
 rw [h1,h2]
 simp
theorem qd8 {hi:Int}: ∀ {S:List Int} {lo:Int},S.Pairwise (· < ·)→(∀x∈S,lo≤x∧x<hi)→S.length≤(hi-lo).toNat:=by
 intro S
 induction S with
 |nil=>intro lo _ _;exact Nat.zero_le _
 |cons a S ih=>
  intro lo h1 h2
  obtain ⟨p1,p2⟩:=List.pairwise_cons.1 h1
  have ha:=h2 a List.mem_cons_self
  have:=ih (lo:=a+1) p2 fun x hx=>⟨by have:=p1 x hx;omega,(h2 x (List.mem_cons_of_mem _ hx)).2⟩
  rw [List.length_cons]
  omega
theorem qx2 {h M:List AObj} {a0 a1 a2 a3 a4 a5 a6 a7 a8:AObj}:(h++a0::a1::a2::a3::a4::a5::a6::a7::a8::M).length=h.length+9+M.length:=by
 simp only [List.length_append,List.length_cons]
 omega
theorem qds {h M:List AObj} {a0 a1 a2 a3 a4 a5 a6 a7 a8:AObj} {j:Nat}:qy (h.length+9+j) (h++a0::a1::a2::a3::a4::a5::a6::a7::a8::M)=M[j]? :=by
 unfold qy
 rw [List.getElem?_append_right (by omega),show h.length+9+j-h.length=j+9 by omega]
 rfl
theorem qwf {h M:List AObj} {a0 a1 a2 a3 a4 a5 a6 a7 a8 o:AObj} {j:Nat}:qG (h.length+9+j) (h++a0::a1::a2::a3::a4::a5::a6::a7::a8::M) o=h++a0::a1::a2::a3::a4::a5::a6::a7::a8::M.set j o:=by
 unfold qG
 rw [List.set_append_right _ _ (by omega),show h.length+9+j-h.length=j+9 by omega]
 rfl
theorem qzU (x:Co) (f t:Nat) (h:List AObj) (ho:CoOk x) (ht:t≤x.col.length) (hn:x.col.length≤1000000000):ACalls Tryz.prog 232 [.agg (coC x),.int .i64 (f:Int),.int .i64 (t:Int)] h (zE (qgD x f t)) h:=by
 have zl: ∀g,valL g .len [strs x.sig]= .int .i64 x.sig.length:=fun _=>rfl
 have zo: ∀g,okL g .len [strs x.sig]=True:=fun _=>eq_true trivial
 refine acO quO ?_
 simp (disch:=omega) only [qtv,List.replicate,coC,zl,zo,go_sem]
 repeat' first
  |((first|apply qd|apply qb);exact rvk;simp only [go_sem];first|exact VLe.refl _|apply qe|apply qa|apply qf|skip)
  |with_reducible first|apply And.intro|intro _
 all_goals try exact clz
 refine qv (T:=fun i:Nat×Nat×AObj×AObj×AObj×AObj=>qQ 48 [(1,.int .i64 (f:Int)),(2,.int .i64 (t:Int)),(3,.op h.length 1 0),(7,.osl (h.length+2) i.2.1 2 0 (qa8 x f (t-f) i.1).length),(13,.int .i64 x.sig.length),(14,.int .i64 i.1)])
  (H:=fun i=>h++ .mem 1 26 (coC x):: .emp 1::zC i.2.1 89 (ku (h.length+9) (qa8 x f (t-f) i.1))::i.2.2.1::i.2.2.2.1::i.2.2.2.2.1:: .emp 0::i.2.2.2.2.2:: .emp 0::qfu (qa8 x f (t-f) i.1))
  (inv:=fun i=>i.1≤x.sig.length∧qE [i.2.2.1] 0=true∧qE [i.2.2.2.1] 0=true∧qE [i.2.2.2.2.1] 0=true∧qE [i.2.2.2.2.2] 0=true) (m:=fun i=>x.sig.length-i.1) (0,1,.emp 0,.emp 0,.emp 0,.emp 0) ⟨Nat.zero_le _,rfl,rfl,rfl,rfl⟩ (Wk.temps ?_) ?_
 ·(simp only [qa8,List.length_nil,List.replicate,go_sem,qk,qi,qg,qj];try (repeat' first|(with_reducible apply And.intro)|(apply qe;omega)|(apply qa;rfl)|exact VLe.refl _))
 rintro ⟨s,v,O3,O4,O5,O7⟩ ⟨i1,j3,j4,j5,j7⟩ K hK
 simp only at i1 j3 j4 j5 j7 hK
 have j3': ∀m,qE (O3::m) 0=true:=fun _=>j3
 have j4': ∀m,qE (O4::m) 0=true:=fun _=>j4
 have j5': ∀m,qE (O5::m) 0=true:=fun _=>j5
 have j7': ∀m,qE (O7::m) 0=true:=fun _=>j7
 have hst:qa8 x f (t-f) (s+1)=qd2 (qa8 x f (t-f) s) (rdG x s f (t-f)) s:=rfl
 have hln:=qfw x f (t-f) s
 have hsg:=ho.sg
 obtain ⟨L,hL⟩: ∃L,L=qa8 x f (t-f) s:=⟨_,rfl⟩
 rw [←hL]at hst hln
 have eL:=hL.symm
 by_cases hs:s<x.sig.length
 ·have k1:((s:Int)<x.sig.length)=True:=eq_true (by omega)
  have c21:=fun h=>rdP x f t s h ho ht hs hn
  obtain ⟨w,hw⟩: ∃w,w=rdG x s f (t-f):=⟨_,rfl⟩
  rw [←hw]at hst
  simp only [←hw]at c21
  unfold coC at c21
  simp (disch:=omega) only [List.replicate,coC,k1,eL,j3',j4',j5',j7',go_sem]
  repeat' first
   |((first|refine cA (c21 _) ?_ ?_|refine cG (fun e=>c21 _) ?_ ?_|refine cU (fun _=>c21 _) ?_ ?_);(next=>exact flk);simp (disch:=omega) only [coC,k1,eL,j3',j4',j5',j7',go_sem])
   |((first|apply qd|apply qb);exact rvk;simp only [go_sem];first|exact VLe.refl _|apply qe|apply qa|apply qf|skip)
   |with_reducible first|apply And.intro|intro _
  all_goals try exact clz
  have hwl:w.length≤1000000000:=by have:=qcP x s f (t-f);rw [←hw]at this;omega
  have hRd:=qfv x f (t-f) s
  rw [eL]at hRd
  have hwL: ∀j,(L.getD j default).words.length≤1000000000:=qU L (fun r=>r.words.length≤1000000000) (by decide) fun j hj=>by
   have h1:=hRd.nn j hj
   obtain ⟨y,ys,e⟩:=List.exists_cons_of_ne_nil h1
   have h2:=hRd.wd j hj y (by rw [e];exact List.mem_cons_self)
   rw [h2]
   have:=qcP x y.toNat f (t-f)
   omega
  have hob:= @qky L
  refine cA (r:= .int .i64 (qhu L w)) ?c (by exact flk) ?_
  case c=>
   refine ACalls.borrow ((fdP L ⟨w,[(s:Int)]⟩ [] (by omega) hwl hwL).le ?v (VLe.refl _)) rfl
   simp only [List.map_cons,List.map_nil,go_sem]
   refine ⟨qkz rfl (fun _ _=>rfl) (fun j hj=>by rw [qds];exact hob hj),VLe.agg ⟨VLe.refl _,VLe.sl_eq rfl (fun i hi=> ?_),trivial⟩,VLe.refl _,trivial⟩
   obtain rfl:i=0:=by simpa using hi
   rfl
  have eKl:=qbs (h.length+9) L
  rcases qaM L w with ⟨k,b1,b2,b3⟩|⟨b1,b2⟩
  ·have q1:(qhu L w<0)=False:=eq_false (by omega)
   have hst2:qa8 x f (t-f) (s+1)=L.set k ⟨w,(L.getD k default).src++ [(s:Int)]⟩:=by
    rw [hst]
    unfold qd2
    rw [b3,if_neg (by omega),Int.toNat_natCast]
   obtain ⟨A,B,a1,a2,a3⟩:=qck (h.length+9) L b1
   have a3:=a3 ((L.getD k default).src++ [(s:Int)])
   have hne:(ku (h.length+9) L≠ [])=True:=eq_true fun e=>by rw [e]at eKl;simp at eKl;omega
   have hob:=hob b1
   rw [b2]at a2 a3
   have hos:= @qn4 L k ⟨w,(L.getD k default).src++ [(s:Int)]⟩
   rw [←hst2]at hos a3
   dsimp only at hos
   obtain ⟨S,hS⟩: ∃S,S=(L.getD k default).src:=⟨_,rfl⟩
   rw [←hS]at a2 a3 hob hos
   rw [List.length_append,List.length_singleton]at a3 hos
   rw [zX,show qC [(s:Int)]= [AV.int .i64 (s:Int)]from rfl]at hos
   have gg:(ku (h.length+9) L)[k*2+1]? =some (.osl (h.length+9+k) S.length 1 0 S.length):=by
    rw [a2,List.append_assoc,List.getElem?_append_right (by omega),show k*2+1-A.length=1 by omega]
    rfl
   have gs:List.take (k*2+1) (ku (h.length+9) L)++ [.osl (h.length+9+k) (S.length+1) 1 0 (S.length+1)]++List.drop (k*2+1+1) (ku (h.length+9) L)=ku (h.length+9) (qa8 x f (t-f) (s+1)):=by
    rw [a2,a3]
    exact qqE (by omega)
   have eI:=zf S
   have hSl:S.length≤1000:=by
    have:=(qcQ x f (t-f) s).src (L.getD k default) (by rw [eL,gdqA,zM b1];exact List.getElem_mem b1)
    have:=qd8 (hi:=(s:Int)) (lo:=0) this.1 this.2
    rw [←hS]at this
    omega
   have eown:zC v 89 (ku (h.length+9) L)= .mem v 89 (ku (h.length+9) L):=zS (of_eq_true hne)
   have el2:(qa8 x f (t-f) (s+1)).length=L.length:=by rw [hst2,List.length_set]
   have eown2:zC v 89 (ku (h.length+9) (qa8 x f (t-f) (s+1)))= .mem v 89 (ku (h.length+9) (qa8 x f (t-f) (s+1))):=zS fun e=>by
    have:=qbs (h.length+9) (qa8 x f (t-f) (s+1))
    rw [e,el2]at this
    simp at this
    omega
   have eTi:List.take S.length (qC S)=qC S:=List.take_of_length_le (by omega)
   have kL:((k:Int)<L.length)=True:=eq_true (by omega)
   have k0:(0≤(k:Int))=True:=eq_true (by omega)
   rw [eown]
   simp (disch:=omega) only [b3,q1,j7',gg,eKl,kL,k0,Option.getD_some,Option.isSome_some,qds,qwf,hob,eI,eTi,Nat.mul_one,Int.toNat_natCast,go_sem]
   repeat' first
    |((first|apply qd|apply qb);exact rvk;simp only [go_sem];first|exact VLe.refl _|apply qe|apply qa|apply qf|skip)
    |with_reducible first|apply And.intro|intro _
   all_goals try exact clz
   all_goals try (simp only [qdC,qbD,qds,hob,qcg,qbC,if_true,Option.getD_some,eI,beq_self_eq_true];done)
   all_goals try (simp only [bne_iff_ne];omega)
   all_goals try (simp only [qdC,qbD,qds,hob,qcg,qbC,if_true,Option.getD_some,eI,beq_self_eq_true];exact Nat.le_refl _)
   rw [gs]
   have eD:(AV.int .i64 (s:Int)::List.drop 1 (zc [i6 0] 1))= [AV.int .i64 (s:Int)]:=rfl
   simp only [eD]
   rw [hos]
   refine hK _ _ (s+1,v,.mem (qr (some O3)+1) 3 [.int .i64 (s:Int)],.mem (qr (some O4)+1) 89 [strs w,.osl (h.length+3) (qr (some O3)+1) 1 0 1],O5,.mem (qr (some O7)+1) 3 [.int .i64 (s:Int)]) ⟨hs,rfl,rfl,j5,rfl⟩ (by simp only;omega) ?_
   simp only [eown2,el2,coC]
   refine Wk.temps ?_
   (simp only [List.replicate,go_sem,qk,qi,qg,qj];try (repeat' first|(with_reducible apply And.intro)|(apply qe;omega)|(apply qa;rfl)|exact VLe.refl _))
  ·have q1:(qhu L w<0)=True:=eq_true b2
   have hst2:qa8 x f (t-f) (s+1)=L++ [⟨w,[(s:Int)]⟩]:=by
    rw [hst]
    unfold qd2
    rw [if_pos b2]
   have eTk:List.take (L.length*2) (ku (h.length+9) L)=ku (h.length+9) L:=List.take_of_length_le (by omega)
   simp (disch:=omega) only [q1,j5',eTk,eKl,Nat.mul_one,go_sem]
   repeat' first
    |((first|apply qd|apply qb);exact rvk;simp only [go_sem];first|exact VLe.refl _|apply qe|apply qa|apply qf|skip)
    |with_reducible first|apply And.intro|intro _
   all_goals try exact clz
   have el2:(qa8 x f (t-f) (s+1)).length=L.length+1:=by rw [hst2,List.length_append];rfl
   have eo:qfu (qa8 x f (t-f) (s+1))=qfu L++ [.mem 1 3 [.int .i64 (s:Int)]]:=by rw [hst2,qn2];rfl
   have ek:ku (h.length+9) (qa8 x f (t-f) (s+1))=ku (h.length+9) L++ [strs w,.osl (h.length+9+L.length) 1 1 0 1]:=by rw [hst2,qkx];rfl
   have eown:zC (v+1) 89 (ku (h.length+9) L++ [strs w,.osl (h.length+3) (qr (some O3)+1) 1 0 1])= .mem (v+1) 89 (ku (h.length+9) L++ [strs w,.osl (h.length+3) (qr (some O3)+1) 1 0 1]):=zS (by simp)
   have eown2:zC (v+1) 89 (ku (h.length+9) L++ [strs w,.osl (h.length+9+L.length) 1 1 0 1])= .mem (v+1) 89 (ku (h.length+9) L++ [strs w,.osl (h.length+9+L.length) 1 1 0 1]):=zS (by simp)
   have eset:(ku (h.length+9) L++ [strs w,AV.osl (h.length+3) (qr (some O3)+1) 1 0 1]).set (L.length*2+1) (.osl (h.length+9+L.length) 1 1 0 1)=ku (h.length+9) L++ [strs w,.osl (h.length+9+L.length) 1 1 0 1]:=by
    rw [List.set_append_right _ _ (by omega),eKl,show L.length*2+1-2*L.length=1 by omega]
    rfl
   rw [eown]
   refine hK _ _ (s+1,v+1,.emp (qr (some O3)+1+1),.mem (qr (some O4)+1) 89 [strs w,.osl (h.length+3) (qr (some O3)+1) 1 0 1],.mem (qr (some O5)+1) 89 [strs w,.osl (h.length+3) (qr (some O3)+1) 1 0 1],O7) ⟨hs,rfl,rfl,rfl,j7⟩ (by simp only;omega)
    (Wk.trans (Wk.moveCell (i:=h.length+2) (j:=h.length+3) (a:=L.length*2+1) (w:=v+1) (v:=qr (some O3)+1) (ty:=3) (ty':=89) (ds:=ku (h.length+9) L++ [strs w,.osl (h.length+3) (qr (some O3)+1) 1 0 1]) (cs:= [.int .i64 (s:Int)]) (sz:=1) (off:=0) (len:=1) ?m1 ?m2 ?m3 (by omega)) ?m4)
   case m1=>simp only [go_sem]
   case m2=>
    rw [List.getElem?_append_right (by omega),show L.length*2+1-(ku (h.length+9) L).length=1 by omega]
    rfl
   case m3=>simp only [go_sem];rfl
   case m4=>
    have eD:(AV.int .i64 (s:Int)::List.drop 1 (zc [i6 0] 1))= [AV.int .i64 (s:Int)]:=rfl
    have eD2: ∀c:AV,(strs w::c::List.drop 2 (zc [AV.nl,AV.nl] 1))= [strs w,c]:=fun _=>rfl
    simp only [eo,ek,eown2,el2,coC,eD,eD2,qx2,qn3,go_sem,eset,List.append_assoc,List.cons_append]
    refine Wk.temps ?_
    (simp only [List.replicate,go_sem,qk,qi,qg,qj];try (repeat' first|(with_reducible apply And.intro)|(apply qe;omega)|(apply qa;rfl)|exact VLe.refl _))
 ·have k1:((s:Int)<x.sig.length)=False:=eq_false (by omega)
  obtain rfl:s=x.sig.length:=by omega
  have hF:qgD x f t=L:=by rw [hL];rfl
  rw [hF]
  simp (disch:=omega) only [List.replicate,k1,eL,go_sem]
  repeat' first
   |((first|apply qd|apply qb);exact rvk;simp only [go_sem];first|exact VLe.refl _|apply qe|apply qa|apply qf|skip)
   |with_reducible first|apply And.intro|intro _
  all_goals try exact clz
  exact qkz rfl (fun j _=>decide_eq_true (by omega)) (fun j hj=>by rw [qds];exact qky hj)
end RC
end
section
open Go Go.Proofs AF HY LN
namespace RC
set_option maxHeartbeats 16000000
theorem qzr (l:List Un) (f t:Nat) (k v k2 v2:Nat) (h:List AObj) (hk:qy k h=some (.mem v 3 [.int .i64 (f:Int)])) (hk2:qy k2 h=some (.mem v2 3 [.int .i64 (t:Int)])) (hn:l.length≤1000000000):
  ACalls Tryz.prog 54 [qI l,.fn (.func 234) [] [.op k v 0,.op k2 v2 0]] h (.bool (rnB l (f,t))) h:=by
 have hc:=qX hk
 have hc2:=qX hk2
 unfold qI rnB
 refine qqA qxO ⟨rfl,rfl⟩ ⟨rfl,rfl⟩ (qcD qpm l.length (fun j=>unC (l.getD j default)) (fun j=> .agg (unC (l.getD j default))) _ [] [.op k v 0,.op k2 v2 0] _ h (fun i _=>⟨rfl,by simp [z7,unC],rfl,rfl,rfl⟩) (fun i _=> ?_) (by omega))
 refine ACalls.borrow ?_ rfl
 have e:([AV.agg (unC (l.getD i default))]++ [AV.op k v 0,AV.op k2 v2 0]).map (rei (fun _=>true) h 8)= [.agg (unC (l.getD i default)),.ip [.int .i64 (f:Int)],.ip [.int .i64 (t:Int)]]:=by
  simp only [List.cons_append,List.nil_append,List.map_cons,List.map_nil,rei_op,if_true,hc,hc2,ipOf_some,List.drop_zero,rei_agg]
  rfl
 rw [List.nil_append,e]
 exact qzV _ _ _ _
theorem qmh (l:List Un) (i:Nat):beH l (i+1)=(l.getD i default).to:=by unfold beH;rw [if_neg (by omega),Nat.add_sub_cancel]
theorem qrr (u:Un) (n v:Nat) (ty:TypeId):kf n (.mem v ty (unC u)):=by
 intro c hc
 simp only [unC,List.mem_cons,List.not_mem_nil,or_false]at hc
 rcases hc with rfl|rfl|rfl<;>rfl
theorem qr3 (x:Co): ∀a∈rnX x,a.length=2:=by
 intro a ha
 unfold rnX at ha
 obtain ⟨_,_,rfl⟩:=List.mem_map.1 ha
 rfl
theorem qkF (x:Co):(rnX x).length=(qeB (cmB x) x.col.length).length:=by simp [rnX]
theorem qr2 {x:Co} {i:Nat} (hi:i<(rnX x).length):(rnX x)[i]= [.int .i64 (((qeB (cmB x) x.col.length).getD i (0,0)).1:Int),.int .i64 (((qeB (cmB x) x.col.length).getD i (0,0)).2:Int)]:=by
 have h2:i<(qeB (cmB x) x.col.length).length:=by rw [←qkF];exact hi
 simp only [rnX,List.getElem_map]
 rw [gdqA,zM h2]
 rfl
theorem qrV (x:Co) (f d:Nat) (hd:d≤1000000000) (s:Nat) (hs:s≤1000000000):qpS (qa8 x f d s):=by
 have hI:=qcQ x f d s
 have hH:=qfv x f d s
 have hl:=qfw x f d s
 refine ⟨by omega,?_,?_⟩
 ·exact qU _ (fun r:Rd=>r.src.length≤1000000000) (by decide) fun j hj=>by
   have:=hI.src ((qa8 x f d s).getD j default) (by rw [gdqA,zM hj];exact List.getElem_mem hj)
   have:=qd8 (hi:=(s:Int)) (lo:=0) this.1 this.2
   omega
 ·exact qU _ (fun r:Rd=>r.words.length≤1000000000) (by decide) fun j hj=>by
   have h1:=hH.nn j hj
   obtain ⟨y,ys,e⟩:=List.exists_cons_of_ne_nil h1
   have h2:=hH.wd j hj y (by rw [e];exact List.mem_cons_self)
   rw [h2]
   have:=qcP x y.toNat f d
   omega
theorem qzW (x:Co) (l:List Un) (h:List AObj) (ho:CoOk x) (hn:x.col.length≤1000000000) (hu:qsY l):ACalls Tryz.prog 177 [.agg (coC x),qI l] h (.bool (rgB x l)) h:=by
 have hsg:=ho.sg
 have hl:=hu.n
 obtain ⟨R,hR⟩: ∃R,R=rgB x l:=⟨_,rfl⟩
 rw [←hR]
 unfold rgB at hR
 refine acO quz ?_
 simp (disch:=omega) only [qti,List.replicate,coC,qI,go_sem]
 repeat' first
  |((first|apply qd|apply qb);exact rvk;simp only [go_sem];first|exact VLe.refl _|apply qe|apply qa|apply qf|skip)
  |with_reducible first|apply And.intro|intro _
 all_goals try exact clz
 refine qv (T:=fun i:Nat×AObj=>qQ 63 [(2,.op h.length 1 0),(3,.op (h.length+1) 1 0),(4,.op (h.length+2) 1 0),(5,.int .i64 (beH l i.1)),(10,qI l),(11,.int .i64 l.length),(12,.int .i64 i.1)])
  (H:=fun i=>h++ [.mem 1 26 (coC x),.mem 1 27 [qI l],.mem 1 4 [.bool false],i.2,.emp 0,.emp 0])
  (inv:=fun i=>i.1≤l.length∧qE [i.2] 0=true∧(∀n,kf n i.2)∧ ∀j,j<i.1→unB x (beH l j) (l.getD j default)=true) (m:=fun i=>l.length-i.1) (0,.emp 0) ⟨Nat.zero_le _,rfl,fun _=>trivial,fun j hj=>absurd hj (Nat.not_lt_zero j)⟩ (Wk.temps ?_) ?_
 ·(simp only [qI,beH,List.replicate,go_sem,qk,qi,qg,qj];try (repeat' first|(with_reducible apply And.intro)|(apply qe;omega)|(apply qa;rfl)|exact VLe.refl _))
 rintro ⟨i,O⟩ ⟨i1,i2,il,i3⟩ K hK
 simp only at i1 i2 il i3 hK
 have i2': ∀m,qE (O::m) 0=true:=fun _=>i2
 by_cases hi:i<l.length
 ·have k1:((i:Int)<l.length)=True:=eq_true (by omega)
  have hno:unB x (beH l i) (l.getD i default)=false→R=false:=fun hx=>by
   rw [hR]
   unfold ql1
   rw [qM.2 ⟨i,hi,by rw [hx];rfl⟩]
   rfl
  have hS:unB x (beH l i) (l.getD i default)=true→ ∀j,j<i+1→unB x (beH l j) (l.getD j default)=true:=fun hx j hj=>by
   by_cases e:j=i
   ·subst e;exact hx
   ·exact i3 j (by omega)
  have hbs:=qmh l i
  have zrd:qpS (l.getD i default).rds:=⟨hu.rd i,hu.sr i,hu.wd i⟩
  obtain ⟨u,hux⟩: ∃u,u=l.getD i default:=⟨_,rfl⟩
  have eu:=hux.symm
  rw [eu]at hno hS hbs zrd
  obtain ⟨b,hb⟩: ∃b,b=beH l i:=⟨_,rfl⟩
  have eb:=hb.symm
  rw [eb]at hno hS
  have hB:unB x b u= !(decide (u.frm≤b)||(decide (u.frm<0)||(decide (u.to≤u.frm)||(decide ((x.col.length:Int)<u.to)|| !decide (u.rds=qgD x u.frm.toNat u.to.toNat))))):=rfl
  by_cases g1:u.frm≤b
  ·have q1:(u.frm≤b)=True:=eq_true g1
   rw [hno (by rw [hB,decide_eq_true g1];rfl)]
   simp (disch:=omega) only [List.replicate,qI,unC,coC,qs,zE,k1,eu,eb,i2',q1,go_sem]
   repeat' first
    |(refine ql ( zE []) ?_;simp (disch:=omega) only [qI,unC,coC,qs,zE,k1,eu,eb,i2',q1,go_sem])
    |(refine ql ( .bool false) ?_;simp (disch:=omega) only [qI,unC,coC,qs,zE,k1,eu,eb,i2',q1,go_sem])
    |((first|apply qd|apply qb);exact rvk;simp only [go_sem];first|exact VLe.refl _|apply qe|apply qa|apply qf|skip)
    |with_reducible first|apply And.intro|intro _
   all_goals try exact clz
  have q1:(u.frm≤b)=False:=eq_false g1
  by_cases g2:u.frm<0
  ·have q2:(u.frm<0)=True:=eq_true g2
   rw [hno (by rw [hB,decide_eq_true g2];simp)]
   simp (disch:=omega) only [List.replicate,qI,unC,coC,qs,zE,k1,eu,eb,i2',q1,q2,go_sem]
   repeat' first
    |(refine ql ( zE []) ?_;simp (disch:=omega) only [qI,unC,coC,qs,zE,k1,eu,eb,i2',q1,q2,go_sem])
    |(refine ql ( .bool false) ?_;simp (disch:=omega) only [qI,unC,coC,qs,zE,k1,eu,eb,i2',q1,q2,go_sem])
    |((first|apply qd|apply qb);exact rvk;simp only [go_sem];first|exact VLe.refl _|apply qe|apply qa|apply qf|skip)
    |with_reducible first|apply And.intro|intro _
   all_goals try exact clz
  have q2:(u.frm<0)=False:=eq_false g2
  by_cases g3:u.to≤u.frm
  ·have q3:(u.to≤u.frm)=True:=eq_true g3
   rw [hno (by rw [hB,decide_eq_true g3];simp)]
   simp (disch:=omega) only [List.replicate,qI,unC,coC,qs,zE,k1,eu,eb,i2',q1,q2,q3,go_sem]
   repeat' first
    |(refine ql ( zE []) ?_;simp (disch:=omega) only [qI,unC,coC,qs,zE,k1,eu,eb,i2',q1,q2,q3,go_sem])
    |(refine ql ( .bool false) ?_;simp (disch:=omega) only [qI,unC,coC,qs,zE,k1,eu,eb,i2',q1,q2,q3,go_sem])
    |((first|apply qd|apply qb);exact rvk;simp only [go_sem];first|exact VLe.refl _|apply qe|apply qa|apply qf|skip)
    |with_reducible first|apply And.intro|intro _
   all_goals try exact clz
  have q3:(u.to≤u.frm)=False:=eq_false g3
  by_cases g4:(x.col.length:Int)<u.to
  ·have q4:((x.col.length:Int)<u.to)=True:=eq_true g4
   rw [hno (by rw [hB,decide_eq_true g4];simp)]
   simp (disch:=omega) only [List.replicate,qI,unC,coC,qs,zE,k1,eu,eb,i2',q1,q2,q3,q4,go_sem]
   repeat' first
    |(refine ql ( zE []) ?_;simp (disch:=omega) only [qI,unC,coC,qs,zE,k1,eu,eb,i2',q1,q2,q3,q4,go_sem])
    |(refine ql ( .bool false) ?_;simp (disch:=omega) only [qI,unC,coC,qs,zE,k1,eu,eb,i2',q1,q2,q3,q4,go_sem])
    |((first|apply qd|apply qb);exact rvk;simp only [go_sem];first|exact VLe.refl _|apply qe|apply qa|apply qf|skip)
    |with_reducible first|apply And.intro|intro _
   all_goals try exact clz
  have q4:((x.col.length:Int)<u.to)=False:=eq_false g4
  obtain ⟨f,hf⟩: ∃f:Nat,u.frm=(f:Int):=⟨u.frm.toNat,by omega⟩
  obtain ⟨t,ht⟩: ∃t:Nat,u.to=(t:Int):=⟨u.to.toNat,by omega⟩
  have c48:=fun h=>qzU x f t h ho (by omega) hn
  have zF:qpS (qgD x f t):=qrV x f (t-f) (by omega) x.sig.length (by omega)
  have c49:=fun h=>qzZ u.rds (qgD x f t) h zrd zF
  have eft:qgD x u.frm.toNat u.to.toNat=qgD x f t:=by rw [hf,ht,Int.toNat_natCast,Int.toNat_natCast]
  rw [decide_eq_false g1,decide_eq_false g2,decide_eq_false g3,decide_eq_false g4,eft]at hB
  obtain ⟨F,hF⟩: ∃F,F=qgD x f t:=⟨_,rfl⟩
  rw [←hF]at hB
  simp only [←hF]at c48 c49
  obtain ⟨c,hc⟩: ∃c,c=decide (u.rds=F):=⟨_,rfl⟩
  rw [←hc]at hB
  simp only [←hc]at c49
  rw [hf]at q1 q2 q3
  rw [ht]at q3 q4
  unfold coC qs at c48
  unfold zE at c48 c49
  cases c with
  |false=>
   rw [hno hB]
   simp (disch:=omega) only [List.replicate,qI,unC,coC,qs,zE,k1,eu,eb,i2',q1,q2,q3,q4,hf,ht,go_sem]
   repeat' first
    |((first|refine cA (c48 _) ?_ ?_|refine cG (fun e=>c48 _) ?_ ?_|refine cA (c49 _) ?_ ?_|refine cG (fun e=>c49 _) ?_ ?_|refine cU (fun _=>c48 _) ?_ ?_|refine cU (fun _=>c49 _) ?_ ?_);(next=>exact flk);simp (disch:=omega) only [qI,unC,coC,qs,zE,k1,eu,eb,i2',q1,q2,q3,q4,hf,ht,go_sem])
    |((first|apply qd|apply qb);exact rvk;simp only [go_sem];first|exact VLe.refl _|apply qe|apply qa|apply qf|skip)
    |with_reducible first|apply And.intro|intro _
   all_goals try exact clz
  |true=>
   simp (disch:=omega) only [List.replicate,qI,unC,coC,qs,zE,k1,eu,eb,i2',q1,q2,q3,q4,hf,ht,go_sem]
   repeat' first
    |((first|refine cA (c48 _) ?_ ?_|refine cG (fun e=>c48 _) ?_ ?_|refine cA (c49 _) ?_ ?_|refine cG (fun e=>c49 _) ?_ ?_|refine cU (fun _=>c48 _) ?_ ?_|refine cU (fun _=>c49 _) ?_ ?_);(next=>exact flk);simp (disch:=omega) only [qI,unC,coC,qs,zE,k1,eu,eb,i2',q1,q2,q3,q4,hf,ht,go_sem])
    |((first|apply qd|apply qb);exact rvk;simp only [go_sem];first|exact VLe.refl _|apply qe|apply qa|apply qf|skip)
    |with_reducible first|apply And.intro|intro _
   all_goals try exact clz
   refine hK _ _ (i+1,.mem (qr (some O)+1) 83 (unC u)) ⟨hi,rfl,fun n=>qrr u n _ _,hS hB⟩ (by simp only;omega) ?_
   simp only [hbs,ht,unC,hf]
   refine Wk.temps ?_
   (simp only [qI,coC,qs,List.replicate,go_sem,qk,qi,qg,qj];try (repeat' first|(with_reducible apply And.intro)|(apply qe;omega)|(apply qa;rfl)|exact VLe.refl _))
 have k1:((i:Int)<l.length)=False:=eq_false (by omega)
 obtain rfl:i=l.length:=by omega
 have hun:ql1 x l=true:=by
  unfold ql1
  rw [qq.2 fun j hj=>by rw [i3 j hj];rfl]
  rfl
 rw [hun,Bool.true_and]at hR
 have hcv:=qqI hun
 clear hK
 have c56:=fun h=>qzX x h
 unfold coC qs at c56
 simp (disch:=omega) only [List.replicate,coC,qs,k1,go_sem]
 repeat' first
  |((first|refine cA (c56 _) ?_ ?_|refine cG (fun e=>c56 _) ?_ ?_|refine cU (fun _=>c56 _) ?_ ?_);(next=>exact flk);simp (disch:=omega) only [coC,qs,k1,go_sem])
  |((first|apply qd|apply qb);exact rvk;simp only [go_sem];first|exact VLe.refl _|apply qe|apply qa|apply qf|skip)
  |with_reducible first|apply And.intro|intro _
 all_goals try exact clz
 obtain ⟨rs,hrs⟩: ∃rs,rs=qeB (cmB x) x.col.length:=⟨_,rfl⟩
 have hrl:=qkF x
 have hrg:=fun i hi=>qr2 (x:=x) (i:=i) hi
 rw [←hrs]at hrl hcv
 simp only [←hrs]at hrg
 refine qad (xs:=rnX x) (itR x ho hn) (qr3 x)
  (S:=fun i hh=>(∃O8 O9,qE [O8] 0=true∧qE [O9] 0=true∧(∀n,kf n O8)∧(∀n,kf n O9)∧hh=h++ [.mem 1 26 (coC x),.mem 1 27 [qI l],.mem 1 4 [.bool false],O,O8,O9])∧ ∀j,j<i→rnB l (rs.getD j (0,0))=true)
  (E:=fun s hh=>s= .ret∧R=false∧ ∃O8 O9,(∀n,kf n O8)∧(∀n,kf n O9)∧hh=h++ [.mem 1 26 (coC x),.mem 1 27 [qI l],.mem 1 4 [.bool false],O,O8,O9]) ?_ ?_ ?_ ?_ ?_ ?_ ?_
 ·rintro i hh ⟨⟨O8,O9,_,_,l8,l9,rfl⟩,_⟩
  refine LowI.app rfl (fun o ho=> ?_)
  simp only [List.mem_cons,List.not_mem_nil,or_false]at ho
  rcases ho with rfl|rfl|rfl|rfl|rfl|rfl
  ·left;simp [coC,qs]
  ·left;simp
  ·left;simp
  ·left;simp
  ·right;exact ⟨l8 _,l8 _⟩
  ·right;exact ⟨l9 _,l9 _⟩
 ·rintro s hh ⟨_,_,O8,O9,l8,l9,rfl⟩
  refine LowI.app rfl (fun o ho=> ?_)
  simp only [List.mem_cons,List.not_mem_nil,or_false]at ho
  rcases ho with rfl|rfl|rfl|rfl|rfl|rfl
  ·left;simp [coC,qs]
  ·left;simp
  ·left;simp
  ·left;simp
  ·right;exact ⟨l8 _,l8 _⟩
  ·right;exact ⟨l9 _,l9 _⟩
 ·exact ⟨⟨.emp 0,.emp 0,rfl,rfl,fun _=>trivial,fun _=>trivial,rfl⟩,fun j hj=>absurd hj (Nat.not_lt_zero j)⟩
 ·have lu: ∀n,zQ n (qI l)=true:=fun _=>rfl
  have lt: ∀n,zQ n (qA x.tok)=true:=fun _=>rfl
  simp [zQ,zQ.lowVs,lu,lt,qcI]
  try omega
 ·rintro i hh tl LI TS hi ⟨⟨O8,O9,s8,s9,l8,l9,rfl⟩,hj⟩ hlen K K2 hK hN hR' hX
  rw [hrg i hi]
  rw [hrl]at hi
  obtain ⟨⟨f,t⟩,hr⟩: ∃r,r=rs.getD i (0,0):=⟨_,rfl⟩
  have er:=hr.symm
  rw [er]
  have s8': ∀m,qE (O8::m) 0=true:=fun _=>s8
  have s9': ∀m,qE (O9::m) 0=true:=fun _=>s9
  simp only [qbj]
  simp (disch:=omega) only [List.append_assoc,coC,s8',s9',go_sem]
  refine hK _ _ (h++ [.mem 1 26 (coC x),.mem 1 27 [qI l],.mem 1 4 [.bool false],O,.mem (qr (some O8)+1) 3 [.int .i64 (f:Int)],.mem (qr (some O9)+1) 3 [.int .i64 (t:Int)]]) (by simp [coC]) (by simp) ?_
  simp (disch:=omega) only [List.append_assoc,go_sem]
  repeat' first
   |((first|apply qd|apply qb);exact rvk;simp only [go_sem];first|exact VLe.refl _|apply qe|apply qa|apply qf|skip)
   |with_reducible first|apply And.intro|intro _
  all_goals try exact clz
  refine cA (qzr l f t (h.length+4) _ (h.length+5) _ _ ?ka ?kb hl) (by exact flk) ?_
  case ka=>simp only [go_sem]
  case kb=>simp only [go_sem]
  have l8': ∀n,kf n (.mem (qr (some O8)+1) 3 [.int .i64 (f:Int)]):=fun n c hc=>by simp at hc;subst hc;rfl
  have l9': ∀n,kf n (.mem (qr (some O9)+1) 3 [.int .i64 (t:Int)]):=fun n c hc=>by simp at hc;subst hc;rfl
  cases hb:rnB l (f,t)with
  |true=>
   simp (disch:=omega) only [List.append_assoc,go_sem]
   repeat' first
    |((first|apply qd|apply qb);exact rvk;simp only [go_sem];first|exact VLe.refl _|apply qe|apply qa|apply qf|skip)
    |with_reducible first|apply And.intro|intro _
   all_goals try exact clz
   refine hN _ _ (h++ [.mem 1 26 (coC x),.mem 1 27 [qI l],.mem 1 4 [.bool false],O,.mem (qr (some O8)+1) 3 [.int .i64 (f:Int)],.mem (qr (some O9)+1) 3 [.int .i64 (t:Int)]]) (by simp [coC]) (by simp) ⟨⟨_,_,rfl,rfl,l8',l9',rfl⟩,fun j hj'=> ?_⟩
   by_cases e:j=i
   ·subst e;rw [er];exact hb
   ·exact hj j (by omega)
  |false=>
   have hRf:R=false:=by
    rw [hR]
    cases hc:cvA x l with
    |false=>rfl
    |true=>
     have h2:=List.all_eq_true.1 (hcv.2 hc) (f,t) (by rw [hr,gdqA,zM hi];exact List.getElem_mem hi)
     rw [hb]at h2
     cases h2
   simp (disch:=omega) only [List.append_assoc,go_sem]
   repeat' first
    |((first|apply qd|apply qb);exact rvk;simp only [go_sem];first|exact VLe.refl _|apply qe|apply qa|apply qf|skip)
    |with_reducible first|apply And.intro|intro _
   all_goals try exact clz
   refine hR' _ _ (h++ [.mem 1 26 (coC x),.mem 1 27 [qI l],.mem 1 4 [.bool false],O,.mem (qr (some O8)+1) 3 [.int .i64 (f:Int)],.mem (qr (some O9)+1) 3 [.int .i64 (t:Int)]]) (by simp [coC]) (by simp) ⟨rfl,hRf,_,_,l8',l9',rfl⟩
 ·rintro hh ⟨⟨O8,O9,s8,s9,l8,l9,rfl⟩,hj⟩
  have hRt:R=true:=by
   rw [hR]
   refine hcv.1 (List.all_eq_true.2 fun r hr=> ?_)
   obtain ⟨j,hj1,rfl⟩:=List.getElem_of_mem hr
   have:=hj j (by rw [hrl];exact hj1)
   rw [gdqA,zM hj1]at this
   exact this
  rw [hRt]
  simp (disch:=omega) only [go_sem]
  repeat' first
   |((first|apply qd|apply qb);exact rvk;simp only [go_sem];first|exact VLe.refl _|apply qe|apply qa|apply qf|skip)
   |with_reducible first|apply And.intro|intro _
  all_goals try exact clz
 ·rintro e hh ⟨rfl,hRf,O8,O9,l8,l9,rfl⟩
  rw [hRf]
  simp (disch:=omega) only [go_sem]
  repeat' first
   |((first|apply qd|apply qb);exact rvk;simp only [go_sem];first|exact VLe.refl _|apply qe|apply qa|apply qf|skip)
   |with_reducible first|apply And.intro|intro _
  all_goals try exact clz
theorem vaP (x:Co) (l:List Un) (h:List AObj) (hz:qsL x) (hu:qsY l) (hp:qaZ SG h):ACalls Tryz.prog 111 [.agg (coC x),qI l] h (.int .i64 (vaE x l)) h:=by
 have c1:=fun l'=>coP x (h++l') hz (hp.app l')
 unfold vaE
 by_cases g:coE x=0
 case neg=>
  have k1:(coE x=0)=False:=eq_false g
  rw [if_pos g]
  obtain ⟨e,he⟩: ∃e,e=coE x:=⟨_,rfl⟩
  rw [←he]at c1 k1
  unfold coC at c1
  refine acO qph ?_
  simp (disch:=omega) only [qp9,List.replicate,coC,go_sem]
  repeat' first
   |((first|refine cA (c1 _) ?_ ?_|refine cG (fun e=>c1 _) ?_ ?_|refine cU (fun _=>c1 _) ?_ ?_);(next=>exact flk);simp (disch:=omega) only [coC,k1,go_sem])
   |((first|apply qd|apply qb);exact rvk;simp only [go_sem];first|exact VLe.refl _|apply qe|apply qa|apply qf|skip)
   |with_reducible first|apply And.intro|intro _
  all_goals try exact clz
 rw [if_neg (fun hc=>hc g)]
 have c2:=fun h=>qzW x l h (qiW g) hz.cl hu
 rw [g]at c1
 unfold coC at c1 c2
 cases g2:rgB x l<;>rw [g2]at c2
 all_goals
  refine acO qph ?_
  simp (disch:=omega) only [qp9,List.replicate,coC,go_sem]
  repeat' first
   |((first|refine cA (c1 _) ?_ ?_|refine cG (fun e=>c1 _) ?_ ?_|refine cA (c2 _) ?_ ?_|refine cG (fun e=>c2 _) ?_ ?_|refine cU (fun _=>c1 _) ?_ ?_|refine cU (fun _=>c2 _) ?_ ?_);(next=>exact flk);simp (disch:=omega) only [coC,go_sem])
   |((first|apply qd|apply qb);exact rvk;simp only [go_sem];first|exact VLe.refl _|apply qe|apply qa|apply qf|skip)
   |with_reducible first|apply And.intro|intro _
  all_goals try exact clz
end RC
end
section
open Go Go.Proofs AF
def qrj:List Nat:= [1000072,1000073,1000075,1000076,1000077,1000078,1000079]
def qxu:C:=
 ((C.ops [O1 3 (.box 0 26) 0,MC 6 (i6 0)]).seq (((C.ops [O1 18 (.load (some 4)) 3,MV 19 1,O2 20 (.call 111 true) 18 19,MV 7 20]).seq ((C.ops [MV 21 7,BC 22 .neq 21 (i6 0)]).seq
 (C.cond (.t 22) ((C.ops [MV 23 7,MV 6 23]).seq C.ret) C.skip))).seq ((C.ops [O1 24 (.fldA 3) 3,LD 25 24,O1 26 .len 25,⟨some 27,none,.mkslc 1 1 3 [i6 0] 8,[.t 26,.t 26]⟩,MV
 8 27]).seq ((C.ops [⟨some 9,none,.alloc 2 64 [.str [],i6 0,i6 0,i6 0,.bool false,.bool false,.str []],[]⟩]).seq (((C.ops [MV 28 2,O1 29 .len 28,MC 30 (i6 0)]).seq
 (C.block 0 ((C.ops [BI 31 .lss 30 29]).seq ((C.cond (.t 31) C.skip (C.exit 0)).seq ((C.block 1 ((C.ops [MV 32 30,O2 33 (.idxA 7) 28 30,O1 34 (.load (some 7)) 33,⟨some 11,none,
 .alloc 3 64 [.str [],i6 0,i6 0,i6 0,.bool false,.bool false,.str []],[]⟩,MV 10 32,ST 7 11 34]).seq (((C.ops [O1 35 (.load (some 4)) 3,MV 36 1,O1 37 (.load (some 7)) 11,
 O1 38 (.load (some 7)) 9,MV 39 10,BC 40 .eql 39 (i6 0),ON 41 (.call 112 true) [.t 35,.t 36,.t 37,.t 38,.t 40],MV 12 41]).seq ((C.ops [MV 42 12,BC 43 .neq 42 (i6 0)]).seq
 (C.cond (.t 43) ((C.ops [MV 44 12,MV 6 44]).seq C.ret) C.skip))).seq ((C.ops [O1 45 (.load (some 7)) 11,ST 7 9 45]).seq (C.ops [MV 46 8,O1 47 (.fldA 1) 11,LD 48 47,O2 49
 (.idxA 1) 46 48,LD 50 49,BC 51 .add 50 (i6 1),O2 52 (.idxA 1) 46 48,ST 1 52 51]))))).seq (C.ops [BC 53 .add 30 (i6 1),MV 30 53])))).loop)).seq (((C.ops [O1 54 (.fldA 3) 3,LD
 55 54,O1 56 .len 55,MC 57 (i6 0)]).seq (C.block 2 ((C.ops [BI 58 .lss 57 56]).seq ((C.cond (.t 58) C.skip (C.exit 2)).seq ((C.block 3 ((C.ops [MV 59 57,O2 60 (.idxA 1) 55 57,LD
 61 60,⟨some 13,none,.alloc 4 3 [i6 0],[]⟩,ST 1 13 59,MV 14 61]).seq (((C.ops [MV 63 1,LD 64 13,O2 65 (.call 113 true) 63 64,MV 62 65,O1 66 (.ext 0) 62,O1 67 (.ext 1) 62,
 MV 15 66,MV 16 67]).seq ((C.ops [MV 68 15,BC 69 .geq 68 (i6 0)]).seq (C.cond (.t 69) (C.exit 3) C.skip))).seq ((C.draw (DT.one ⟨some 74,none,.mv,[.t 14]⟩ (DT.one ⟨some 75,
 none,.idxI 1,[.t 74,.c (i6 0)]⟩ (DT.one ⟨some 76,none,.loadI none,[.t 75]⟩ ((DT.one ⟨some 70,none,.fldA 2,[.t 3]⟩ ((DT.one ⟨some 71,none,.load none,[.t 70]⟩ (DT.one
 ⟨some 72,none,.idxI 1,[.t 71,.c (i6 0)]⟩ (DT.one ⟨some 73,none,.loadI none,[.t 72]⟩ (DT.one ⟨some 77,none,.idxI 6,[.t 73,.t 76]⟩ (DT.one ⟨some 78,none,.fldI 0,[.t
 77]⟩ (DT.one ⟨some 79,none,.loadI none,[.t 78]⟩ (DT.one ⟨some 17,none,.alloc 5 9 [.str []],[]⟩ (DT.one ⟨none,none,.store 1,[.t 17,.t 79]⟩ DT.nil)))))))).two (DT.one ⟨some
 17,none,.alloc 5 9 [.str []],[]⟩ (DT.one ⟨some 71,none,.load none,[.t 70]⟩ (DT.one ⟨some 72,none,.idxI 1,[.t 71,.c (i6 0)]⟩ (DT.one ⟨some 73,none,.loadI none,[.t 72]⟩
 (DT.one ⟨some 77,none,.idxI 6,[.t 73,.t 76]⟩ (DT.one ⟨some 78,none,.fldI 0,[.t 77]⟩ (DT.one ⟨some 79,none,.loadI none,[.t 78]⟩ (DT.one ⟨none,none,.store 1,[.t 17,.t
 79]⟩ DT.nil)))))))))).two (DT.one ⟨some 17,none,.alloc 5 9 [.str []],[]⟩ (DT.one ⟨some 70,none,.fldA 2,[.t 3]⟩ (DT.one ⟨some 71,none,.load none,[.t 70]⟩ (DT.one ⟨some 72,
 none,.idxI 1,[.t 71,.c (i6 0)]⟩ (DT.one ⟨some 73,none,.loadI none,[.t 72]⟩ (DT.one ⟨some 77,none,.idxI 6,[.t 73,.t 76]⟩ (DT.one ⟨some 78,none,.fldI 0,[.t 77]⟩ (DT.one
 ⟨some 79,none,.loadI none,[.t 78]⟩ (DT.one ⟨none,none,.store 1,[.t 17,.t 79]⟩ DT.nil)))))))))))))).seq ((C.ops [MV 80 8,LD 81 13,O2 82 (.idxA 1) 80 81,LD 83 82,BC 84
 .neq 83 (i6 1),MV 85 84,MG 86 85 false 2,P2 87 85 false (.mkfn (Fn.func 114) 0) 13 17,P2 88 85 false (.call 92 true) 86 87,P1 89 85 false (.un UnOp.not) 88,PT 90 85 89]).seq
 (C.cond (.t 90) ((C.ops [MC 6 (i6 9)]).seq C.ret) C.skip)))))).seq (C.ops [BC 91 .add 57 (i6 1),MV 57 91])))).loop)).seq ((C.ops [MC 6 (i6 0)]).seq
 C.ret)))))))
theorem qvg:qL Tryz.prog 38 92 6 [RV.tmp 6] qxu:=fi Tryz.f38 [3,27,9,11,13,17] qrj [] (by kernel_rfl) (by kernel_rfl) (by kernel_rfl) (by kernel_rfl)
end
section
open Go Go.Proofs AF HY LN
namespace RC
set_option maxHeartbeats 16000000
theorem pc1 (w:Wd) (c:Int) (s:Str) (h:List AObj):ACalls Tryz.prog 114 [.agg (wdC w),.ip [.int .i64 c],.ip [.str s]] h (.bool (decide (w.col=c)&&decide (w.text=s))) h:=by
 by_cases g:w.col=c
 ·have k1:(w.col=c)=True:=eq_true g
  rw [decide_eq_true g,Bool.true_and]
  refine acO qpj ?_
  simp (disch:=omega) only [qqb,List.replicate,wdC,k1,go_sem]
  repeat' first
   |((first|apply qd|apply qb);exact rvk;simp only [go_sem];first|exact VLe.refl _|apply qe|apply qa|apply qf|skip)
   |with_reducible first|apply And.intro|intro _
  all_goals try exact clz
 ·have k1:(w.col=c)=False:=eq_false g
  rw [decide_eq_false g,Bool.false_and]
  refine acO qpj ?_
  simp (disch:=omega) only [qqb,List.replicate,wdC,k1,go_sem]
  repeat' first
   |((first|apply qd|apply qb);exact rvk;simp only [go_sem];first|exact VLe.refl _|apply qe|apply qa|apply qf|skip)
   |with_reducible first|apply And.intro|intro _
  all_goals try exact clz
theorem qzq (b:List Wd) (c:Int) (s:Str) (k v k2 v2:Nat) (h:List AObj) (hk:qy k h=some (.mem v 3 [.int .i64 c])) (hk2:qy k2 h=some (.mem v2 9 [.str s])) (hn:b.length≤1000000000):
  ACalls Tryz.prog 92 [qN b,.fn (.func 114) [] [.op k v 0,.op k2 v2 0]] h (.bool (zr (fun i=>decide ((b.getD i default).col=c)&&decide ((b.getD i default).text=s)) b.length)) h:=by
 have hc:=qX hk
 have hc2:=qX hk2
 unfold qN
 refine qqA qvi ⟨rfl,rfl⟩ ⟨rfl,rfl⟩ (qcD qpg b.length (fun j=>wdC (b.getD j default)) (fun j=> .agg (wdC (b.getD j default))) _ [] [.op k v 0,.op k2 v2 0] _ h (fun i _=>⟨rfl,by simp [z7,wdC],rfl,rfl,rfl⟩) (fun i _=> ?_) (by omega))
 refine ACalls.borrow ?_ rfl
 have e:([AV.agg (wdC (b.getD i default))]++ [AV.op k v 0,AV.op k2 v2 0]).map (rei (fun _=>true) h 8)= [.agg (wdC (b.getD i default)),.ip [.int .i64 c],.ip [.str s]]:=by
  simp only [List.cons_append,List.nil_append,List.map_cons,List.map_nil,rei_op,if_true,hc,hc2,ipOf_some,List.drop_zero,rei_agg]
  rfl
 rw [List.nil_append,e]
 exact pc1 _ c s _
theorem qsw {x:Co} {l:List Un} {w bef:Wd} {first:Bool} (h:wdE x l w bef first=0):0≤w.col∧w.col<x.col.length:=by
 unfold wdE at h
 split at h
 ·cases h
 split at h
 ·cases h
 ·omega
theorem qrJ {x:Co} {l:List Un} (ho:CoOk x) (hv:cvA x l=true) {c:Nat} (hc:c<x.col.length) (hf:fnU l c<0):0≤(x.col.getD c []).getD 0 0∧(x.col.getD c []).getD 0 0<((x.tok.getD 0 []).length:Int):=by
 unfold cvA at hv
 rw [Bool.not_eq_true',qq]at hv
 have h1:=hv c hc
 have h2:cvB l c=false:=by
  cases e:cvB l c with
  |false=>rfl
  |true=>
   unfold cvB at e
   obtain ⟨i,hi,hp⟩:=qM.1 e
   rw [Bool.and_eq_true,decide_eq_true_iff,decide_eq_true_iff]at hp
   exact absurd hp (qpC hf hi)
 rw [h2,Bool.not_false,Bool.true_and,Bool.not_eq_false']at h1
 unfold cmB at h1
 rw [Bool.not_eq_true',qq]at h1
 have h3:=h1 0 ho.sg.1
 rw [Bool.or_eq_false_iff]at h3
 have h4:clT x c 0≠none:=of_decide_eq_false h3.1
 unfold clT at h4
 split at h4
 ·exact absurd rfl h4
 ·rename_i g
  rcases ho.ce c hc 0 ho.sg.1 with e|⟨_,e⟩
  ·omega
  ·exact ⟨by omega,e⟩
def cwA (b:List Wd) (i k:Nat):AV:= .int .i64 (cW b (k:Int) i:Int)
theorem qxw (b:List Wd) (c:Int): ∀i,cW b c i≤i:=by
 intro i
 induction i with
 |zero=>exact Nat.le_refl _
 |succ i ih=>unfold cW;split<;>omega
theorem qmJ {b:List Wd} {i u n:Nat} (hu:u<n) (h:(b.getD i default).col=(u:Int)):List.take u (gC (cwA b i) n)++ [.int .i64 ((cW b (u:Int) i:Int)+1)]++List.drop (u+1) (gC (cwA b i) n)=gC (cwA b (i+1)) n:=by
 rw [qpD _ hu]
 refine kz fun k hk=> ?_
 unfold cwA
 have e:cW b (k:Int) (i+1)=cW b (k:Int) i+if (b.getD i default).col=(k:Int) then 1 else 0:=rfl
 rw [e]
 by_cases g:k=u
 ·subst g;rw [if_pos rfl,if_pos h];rfl
 ·rw [if_neg g,if_neg (by rw [h];omega)];rfl
theorem pvP (x:Co) (l:List Un) (b:List Wd) (h:List AObj) (hz:qsL x) (hu:qsY l) (hb:b.length≤1000000000) (ht: ∀i,(b.getD i default).text.length≤1000000000) (hp:qaZ SG h):
  ACalls Tryz.prog 38 [.agg (coC x),qI l,qN b] h (.int .i64 (pvE x l b)) h:=by
 have c1:=fun l'=>vaP x l (h++l') hz hu (hp.app l')
 obtain ⟨R,hR⟩: ∃R,R=pvE x l b:=⟨_,rfl⟩
 rw [←hR]
 unfold pvE at hR
 by_cases g:vaE x l=0
 case neg=>
  have k1:(vaE x l=0)=False:=eq_false g
  rw [if_pos g]at hR
  rw [hR]
  obtain ⟨e,he⟩: ∃e,e=vaE x l:=⟨_,rfl⟩
  rw [←he]at c1 k1 ⊢
  unfold coC at c1
  refine acO qvg ?_
  simp (disch:=omega) only [qxu,List.replicate,coC,k1,go_sem]
  repeat' first
   |((first|refine cA (c1 _) ?_ ?_|refine cG (fun e=>c1 _) ?_ ?_|refine cU (fun _=>c1 _) ?_ ?_);(next=>exact flk);simp (disch:=omega) only [coC,k1,go_sem])
   |((first|apply qd|apply qb);exact rvk;simp only [go_sem];first|exact VLe.refl _|apply qe|apply qa|apply qf|skip)
   |with_reducible first|apply And.intro|intro _
  all_goals try exact clz
 rw [if_neg (fun hc=>hc g)]at hR
 rw [g]at c1
 unfold coC qs at c1
 have hv:coE x=0∧ql1 x l=true∧cvA x l=true:=by
  unfold vaE at g
  split at g
  ·cases g
  rename_i g1
  split at g
  ·cases g
  rename_i g2
  have g2:rgB x l=true:=by simpa using g2
  unfold rgB at g2
  rw [Bool.and_eq_true]at g2
  exact ⟨Classical.not_not.1 g1,g2⟩
 have ho:=qiW hv.1
 have hcl:=hz.cl
 have k0:(0≤(x.col.length:Int))=True:=eq_true (by omega)
 have k1:((x.col.length:Int)≤9223372036854775807)=True:=eq_true (by omega)
 refine acO qvg ?_
 simp (disch:=omega) only [qxu,List.replicate,coC,qs,qN,k0,k1,go_sem]
 repeat' first
  |((first|refine cA (c1 _) ?_ ?_|refine cG (fun e=>c1 _) ?_ ?_|refine cU (fun _=>c1 _) ?_ ?_);(next=>exact flk);simp (disch:=omega) only [coC,qs,qN,k0,k1,go_sem])
  |((first|apply qd|apply qb);exact rvk;simp only [go_sem];first|exact VLe.refl _|apply qe|apply qa|apply qf|skip)
  |with_reducible first|apply And.intro|intro _
 all_goals try exact clz
 all_goals try rw [Int.toNat_natCast]
 rw [qjt]
 have e0:gC (fun _=>AV.int .i64 0) x.col.length=gC (cwA b 0) x.col.length:=kz fun k _=>rfl
 rw [e0]
 refine qv (T:=fun i:Nat×Nat×AObj=>qQ 92 [(1,qI l),(2,qN b),(3,.op h.length 1 0),(8,.osl (h.length+1) 1 1 0 x.col.length),(9,.op (h.length+2) i.2.1 0),(28,qN b),(29,.int .i64 b.length),(30,.int .i64 i.1)])
  (H:=fun i=>h++ [.mem 1 26 (coC x),.mem 1 3 (gC (cwA b i.1) x.col.length),.mem i.2.1 64 (wdC (qhB b i.1)),i.2.2,.emp 0,.emp 0])
  (inv:=fun i=>i.1≤b.length∧qE [i.2.2] 0=true∧ ∀j,j<i.1→ql2 x l b j=0) (m:=fun i=>b.length-i.1) (0,1,.emp 0) ⟨Nat.zero_le _,rfl,fun j hj=>absurd hj (Nat.not_lt_zero j)⟩ (Wk.temps ?_) ?_
 ·(simp only [qN,qI,List.replicate,go_sem,qk,qi,qg,qj];try (repeat' first|(with_reducible apply And.intro)|(apply qe;omega)|(apply qa;rfl)|exact VLe.refl _))
 rintro ⟨i,v,O⟩ ⟨i1,i2,i3⟩ K hK
 simp only at i1 i2 i3 hK
 have i2': ∀m,qE (O::m) 0=true:=fun _=>i2
 by_cases hi:i<b.length
 ·have k2:((i:Int)<b.length)=True:=eq_true (by omega)
  have hE:=je (f:=ql2 x l b) hi i3
  have hS:ql2 x l b i=0→ ∀j,j<i+1→ql2 x l b j=0:=fun hx j hj=>by
   by_cases e:j=i
   ·subst e;exact hx
   ·exact i3 j (by omega)
  have c2:=fun h=>qAg x l (b.getD i default) (qhB b i) (decide (i=0)) h hu.n hcl (ht i)
  have hw:ql2 x l b i=wdE x l (b.getD i default) (qhB b i) (decide (i=0)):=rfl
  have hrg:= @qsw x l (b.getD i default) (qhB b i) (decide (i=0))
  have hbn:qhB b (i+1)=b.getD i default:=by unfold qhB;rw [if_neg (by omega),Nat.add_sub_cancel]
  have hcs:=fun u=> @qmJ b i u x.col.length
  have hle:=fun c=>qxw b c i
  have ei:decide ((i:Int)=0)=decide (i=0):=decide_eq_decide.2 (by omega)
  obtain ⟨w,hwx⟩: ∃w,w=b.getD i default:=⟨_,rfl⟩
  have ew:=hwx.symm
  obtain ⟨w0,hw0⟩: ∃w0,w0=qhB b i:=⟨_,rfl⟩
  have ew0:=hw0.symm
  simp only [ew]at c2 hw hrg hbn hcs
  simp only [ew0]at c2 hw hrg
  rw [←hw]at hrg
  simp only [←hw]at c2
  obtain ⟨e,he⟩: ∃e,e=ql2 x l b i:=⟨_,rfl⟩
  rw [←he]at hE hS hrg
  simp only [←he]at c2
  obtain ⟨fb,hfb⟩: ∃fb,fb=decide (i=0):=⟨_,rfl⟩
  rw [←hfb]at ei
  simp only [←hfb]at c2
  unfold coC qs wdC at c2
  by_cases g1:e=0
  case neg=>
   have k3:(e=0)=False:=eq_false g1
   have hV:R=e:=by rw [hR,if_pos (by rw [hE g1];exact g1),hE g1]
   rw [hV]
   simp (disch:=omega) only [List.replicate,coC,qs,qN,wdC,k2,ew,ew0,ei,i2',k3,go_sem]
   repeat' first
    |((first|refine cA (c2 _) ?_ ?_|refine cG (fun e=>c2 _) ?_ ?_|refine cU (fun _=>c2 _) ?_ ?_);(next=>exact flk);simp (disch:=omega) only [coC,qs,qN,wdC,k2,k3,ew,ew0,ei,i2',go_sem])
    |((first|apply qd|apply qb);exact rvk;simp only [go_sem];first|exact VLe.refl _|apply qe|apply qa|apply qf|skip)
    |with_reducible first|apply And.intro|intro _
   all_goals try exact clz
  have k3:(e=0)=True:=eq_true g1
  obtain ⟨r1,r2⟩:=hrg g1
  obtain ⟨u,hu'⟩: ∃u:Nat,w.col=(u:Int):=⟨w.col.toNat,by omega⟩
  simp only [hu']at c2
  have un:u<x.col.length:=by omega
  have t2:(0≤(u:Int))=True:=eq_true (by omega)
  have t3:((u:Int)<x.col.length)=True:=eq_true (by omega)
  have t4:(u<x.col.length)=True:=eq_true un
  have t5:(u+1≤x.col.length)=True:=eq_true un
  have gl:=ko (cwA b i) x.col.length
  have gg:=qbH (g:=cwA b i) un
  have hst:=hcs u un hu'
  have hle:=hle (u:Int)
  have hcw:cwA b i u= .int .i64 (cW b (u:Int) i:Int):=rfl
  rw [hcw]at gg
  obtain ⟨q,hq⟩: ∃q,q=cW b (u:Int) i:=⟨_,rfl⟩
  rw [←hq]at gg hst hle
  have b2:((q:Int)+1≤9223372036854775807)=True:=eq_true (by omega)
  have b3:(-9223372036854775808≤(q:Int)+1)=True:=eq_true (by omega)
  simp (disch:=omega) only [List.replicate,coC,qs,qN,wdC,k2,ew,ew0,ei,i2',k3,hu',t2,t3,t4,t5,gl,gg,hst,b2,b3,Nat.mul_one,Nat.zero_add,Option.isSome_some,go_sem]
  repeat' first
   |((first|refine cA (c2 _) ?_ ?_|refine cG (fun e=>c2 _) ?_ ?_|refine cU (fun _=>c2 _) ?_ ?_);(next=>exact flk);simp (disch:=omega) only [coC,qs,qN,wdC,k2,k3,ew,ew0,ei,i2',hu',t2,t3,t4,t5,gl,gg,hst,b2,b3,Nat.mul_one,Nat.zero_add,Option.isSome_some,go_sem])
   |((first|apply qd|apply qb);exact rvk;simp only [go_sem];first|exact VLe.refl _|apply qe|apply qa|apply qf|skip)
   |with_reducible first|apply And.intro|intro _
  all_goals try exact clz
  try rw [hst]
  refine hK _ _ (i+1,v,.mem (qr (some O)+1) 64 (wdC w)) ⟨hi,rfl,hS g1⟩ (by simp only;omega) ?_
  simp only [hbn,wdC,hu']
  refine Wk.temps ?_
  (simp only [qN,qI,List.replicate,go_sem,qk,qi,qg,qj];try (repeat' first|(with_reducible apply And.intro)|(apply qe;omega)|(apply qa;rfl)|exact VLe.refl _))
 have k2:((i:Int)<b.length)=False:=eq_false (by omega)
 obtain rfl:i=b.length:=by omega
 have hn0:=zk (f:=ql2 x l b) (fun j (hj:j<b.length)=>i3 j hj)
 rw [if_neg (fun hc=>hc hn0)]at hR
 clear hK
 obtain ⟨w0,hw0⟩: ∃w0,w0=qhB b b.length:=⟨_,rfl⟩
 have ew0:=hw0.symm
 rw [ew0]
 simp (disch:=omega) only [List.replicate,coC,qs,qN,k2,i2',go_sem]
 repeat' first
  |((first|apply qd|apply qb);exact rvk;simp only [go_sem];first|exact VLe.refl _|apply qe|apply qa|apply qf|skip)
  |with_reducible first|apply And.intro|intro _
 all_goals try exact clz
 obtain ⟨cb,hcb⟩: ∃f:Nat→Int,f=qxA x l b:=⟨_,rfl⟩
 rw [←hcb]at hR
 have z0:((0:Nat):Int)=0:=rfl
 have hto:0<x.tok.length:=by have:=ho.tn;have:=ho.sg;omega
 refine qv (T:=fun i:Nat×AObj×AObj=>qQ 92 [(1,qI l),(2,qN b),(3,.op h.length 1 0),(8,.osl (h.length+1) 1 1 0 x.col.length),(55,qs x.col),(56,.int .i64 x.col.length),(57,.int .i64 i.1)])
  (H:=fun i=>h++ [.mem 1 26 (coC x),.mem 1 3 (gC (cwA b b.length) x.col.length),.mem v 64 (wdC w0),O,i.2.1,i.2.2])
  (inv:=fun i=>i.1≤x.col.length∧qE [i.2.1] 0=true∧qE [i.2.2] 0=true∧ ∀j,j<i.1→cb j=0) (m:=fun i=>x.col.length-i.1) (0,.emp 0,.emp 0) ⟨Nat.zero_le _,rfl,rfl,fun j hj=>absurd hj (Nat.not_lt_zero j)⟩ (Wk.temps ?_) ?_
 ·(simp only [qN,qI,coC,qs,List.replicate,go_sem,qk,qi,qg,qj];try (repeat' first|(with_reducible apply And.intro)|(apply qe;omega)|(apply qa;rfl)|exact VLe.refl _))
 rintro ⟨i,O1,O2⟩ ⟨i1,j1,j2,j3⟩ K hK
 simp only at i1 j1 j2 j3 hK
 have j1': ∀m,qE (O1::m) 0=true:=fun _=>j1
 have j2': ∀m,qE (O2::m) 0=true:=fun _=>j2
 by_cases hi:i<x.col.length
 ·have k3:((i:Int)<x.col.length)=True:=eq_true (by omega)
  have t2:(0≤(i:Int))=True:=eq_true (by omega)
  have hE:=je (f:=cb) hi j3
  have hS:cb i=0→ ∀j,j<i+1→cb j=0:=fun hx j hj=>by
   by_cases e:j=i
   ·subst e;exact hx
   ·exact j3 j (by omega)
  have hci:cb i=if 0≤fnU l (i:Int) then 0 else if ccB x b i=true then 0 else 9:=by rw [hcb];rfl
  have hcc:ccB x b i=(decide (cW b (i:Int) b.length=1)&&zr (fun j=>decide ((b.getD j default).col=(i:Int))&&decide ((b.getD j default).text=txA x i)) b.length):=rfl
  have hto2:= @qrJ x l ho hv.2.2 i hi
  have eF:fnR l (i:Int)=fnU l (i:Int):=if_neg (by omega)
  have eE:fnE (i:Int)=0:=if_neg (by omega)
  have c3:=fun h=>qyZ l (i:Int) h hu.n
  simp only [eF,eE]at c3
  have htx:txA x i=((x.tok.getD 0 []).getD ((x.col.getD i []).getD 0 0).toNat default).text:=rfl
  have hcl0:=ho.cl i hi
  obtain ⟨c,hcx⟩: ∃c,c=x.col.getD i []:=⟨_,rfl⟩
  have ec:=hcx.symm
  rw [ec]at hto2 htx hcl0
  obtain ⟨t,htt⟩: ∃t,t=c.getD 0 0:=⟨_,rfl⟩
  have et:=htt.symm
  rw [et]at hto2 htx
  obtain ⟨tk,htk⟩: ∃tk,tk=x.tok.getD 0 []:=⟨_,rfl⟩
  have etk:=htk.symm
  rw [etk]at hto2 htx
  obtain ⟨p,hpx⟩: ∃p,p=fnU l (i:Int):=⟨_,rfl⟩
  rw [←hpx]at hci hto2
  simp only [←hpx]at c3
  unfold qI at c3
  by_cases g1:0≤p
  ·have k4:(0≤p)=True:=eq_true g1
   rw [if_pos g1]at hci
   simp (disch:=omega) only [List.replicate,coC,qs,qI,qp,k3,ec,j1',j2',k4,go_sem]
   repeat' first
    |((first|refine cA (c3 _) ?_ ?_|refine cG (fun e=>c3 _) ?_ ?_|refine cU (fun _=>c3 _) ?_ ?_);(next=>exact flk);simp (disch:=omega) only [coC,qs,qI,qp,k3,k4,ec,j1',j2',go_sem])
    |((first|apply qd|apply qb);exact rvk;simp only [go_sem];first|exact VLe.refl _|apply qe|apply qa|apply qf|skip)
    |with_reducible first|apply And.intro|intro _
   all_goals try exact clz
   refine hK _ _ (i+1,.mem (qr (some O1)+1) 3 [.int .i64 (i:Int)],O2) ⟨hi,rfl,j2,hS hci⟩ (by simp only;omega) (Wk.temps ?_)
   (simp only [qN,qI,coC,qs,List.replicate,go_sem,qk,qi,qg,qj];try (repeat' first|(with_reducible apply And.intro)|(apply qe;omega)|(apply qa;rfl)|exact VLe.refl _))
  have k4:(0≤p)=False:=eq_false g1
  rw [if_neg g1]at hci
  obtain ⟨o1,o2⟩:=hto2 (by omega)
  have k5:(0≤t)=True:=eq_true o1
  have k6:(t<tk.length)=True:=eq_true o2
  have k7:((0:Int)<c.length)=True:=eq_true (by have:=ho.sg;omega)
  have k8:((0:Int)<x.tok.length)=True:=eq_true (by omega)
  obtain ⟨tt,htt2⟩: ∃tt,tt=tk.getD t.toNat default:=⟨_,rfl⟩
  have ett:=htt2.symm
  rw [ett]at htx
  rw [htx]at hcc
  have gl:=ko (cwA b b.length) x.col.length
  have gg:=qbH (g:=cwA b b.length) hi
  have hcw:cwA b b.length i= .int .i64 (cW b (i:Int) b.length:Int):=rfl
  rw [hcw]at gg
  have t4:(i<x.col.length)=True:=eq_true hi
  have t5:(i+1≤x.col.length)=True:=eq_true hi
  obtain ⟨q,hq⟩: ∃q,q=cW b (i:Int) b.length:=⟨_,rfl⟩
  rw [←hq]at gg hcc
  have c4:=fun v v2 H hk hk2=>qzq b (i:Int) tt.text (h.length+4) v (h.length+5) v2 H hk hk2 hb
  simp (disch:=omega) only [List.replicate,coC,qs,qI,qp,k3,k4,ec,j1',j2',go_sem]
  repeat' first
   |((first|refine cA (c3 _) ?_ ?_|refine cG (fun e=>c3 _) ?_ ?_|refine cU (fun _=>c3 _) ?_ ?_);(next=>exact flk);simp (disch:=omega) only [coC,qs,qI,qp,k3,k4,ec,j1',j2',go_sem])
   |((first|apply qd|apply qb);exact rvk;simp only [go_sem];first|exact VLe.refl _|apply qe|apply qa|apply qf|skip)
   |with_reducible first|apply And.intro|intro _
  all_goals try exact clz
  refine qqJ ?T ?H ?h1 ?h2
  case h1=>
   simp (disch:=omega) only [coC,qs,qp,qA,qaB,tkC,k3,k5,k6,k7,k8,t2,ec,et,etk,ett,j2',z0,Int.toNat_zero,go_sem]
   repeat' first
    |((first|apply qd|apply qb);exact rvk;simp only [go_sem];first|exact VLe.refl _|apply qe|apply qa|apply qf|skip)
    |with_reducible first|apply And.intro|intro _
   all_goals first
    |omega
    |rfl
  case h2=>
  by_cases g2:q=1
  case neg=>
   have k9:((q:Int)=1)=False:=eq_false (by omega)
   rw [decide_eq_false g2,Bool.false_and]at hcc
   rw [hcc,if_neg (by simp)]at hci
   have hV:R=9:=by rw [hR,hE (by rw [hci];decide),hci]
   rw [hV]
   simp (disch:=omega) only [k9,t2,t4,t5,gl,gg,j1',j2',Nat.mul_one,Nat.zero_add,z0,go_sem]
   repeat' first
    |(refine ql ( .bool false) ?_;simp (disch:=omega) only [k9,t2,t4,t5,gl,gg,j1',j2',Nat.mul_one,Nat.zero_add,z0,go_sem])
    |((first|apply qd|apply qb);exact rvk;simp only [go_sem];first|exact VLe.refl _|apply qe|apply qa|apply qf|skip)
    |with_reducible first|apply And.intro|intro _
   all_goals try exact clz
  have k9:((q:Int)=1)=True:=eq_true (by omega)
  rw [decide_eq_true g2,Bool.true_and]at hcc
  have c4:=c4 (qr (some O1)+1) (qr (some O2)+1)
  obtain ⟨B,hB⟩: ∃B,B=zr (fun j=>decide ((b.getD j default).col=(i:Int))&&decide ((b.getD j default).text=tt.text)) b.length:=⟨_,rfl⟩
  rw [←hB]at hcc
  simp only [←hB]at c4
  unfold qN at c4
  simp (disch:=omega) only [k9,t2,t4,t5,gl,gg,j1',j2',Nat.mul_one,Nat.zero_add,z0,qN,go_sem]
  repeat' first
   |((first|apply qd|apply qb);exact rvk;simp only [go_sem];first|exact VLe.refl _|apply qe|apply qa|apply qf|skip)
   |with_reducible first|apply And.intro|intro _
  all_goals try exact clz
  refine cG (fun _=>c4 _ ?ka ?kb) (fun _=>by exact flk) ?_
  case ka=>simp only [go_sem]
  case kb=>simp only [go_sem]
  cases B with
  |false=>
   rw [hcc,if_neg (by simp)]at hci
   have hV:R=9:=by rw [hR,hE (by rw [hci];decide),hci]
   rw [hV]
   simp (disch:=omega) only [go_sem]
   repeat' first
    |((first|apply qd|apply qb);exact rvk;simp only [go_sem];first|exact VLe.refl _|apply qe|apply qa|apply qf|skip)
    |with_reducible first|apply And.intro|intro _
   all_goals try exact clz
  |true=>
   rw [hcc,if_pos rfl]at hci
   simp (disch:=omega) only [go_sem]
   repeat' first
    |((first|apply qd|apply qb);exact rvk;simp only [go_sem];first|exact VLe.refl _|apply qe|apply qa|apply qf|skip)
    |with_reducible first|apply And.intro|intro _
   all_goals try exact clz
   refine hK _ _ (i+1,.mem (qr (some O1)+1) 3 [.int .i64 (i:Int)],.mem (qr (some O2)+1) 9 [.str tt.text]) ⟨hi,rfl,rfl,hS hci⟩ (by simp only;omega) (Wk.temps ?_)
   (simp only [qN,qI,coC,qs,List.replicate,go_sem,qk,qi,qg,qj];try (repeat' first|(with_reducible apply And.intro)|(apply qe;omega)|(apply qa;rfl)|exact VLe.refl _))
 ·have k3:((i:Int)<x.col.length)=False:=eq_false (by omega)
  rw [zk (fun j (hj:j<x.col.length)=>j3 j (by omega))]at hR
  rw [hR]
  simp (disch:=omega) only [List.replicate,coC,qs,k3,go_sem]
  repeat' first
   |((first|apply qd|apply qb);exact rvk;simp only [go_sem];first|exact VLe.refl _|apply qe|apply qa|apply qf|skip)
   |with_reducible first|apply And.intro|intro _
  all_goals try exact clz
end RC
end
section
open Go Go.Proofs AF
def qri:List Nat:= []
def qqr:C:=
 ((C.ops [O1 7 (.box 0 26) 0,O1 11 (.box 1 44) 4,⟨some 14,none,.alloc 2 49 [.nl],[]⟩,⟨some 15,none,.alloc 3 35 [i6 0],[]⟩]).seq (((C.ops [O1 37 (.load (some 4)) 7,MV 38 1,
 MV 39 3,ON 40 (.call 38 true) [.t 37,.t 38,.t 39],MV 16 40]).seq ((C.ops [MV 41 16,BC 42 .neq 41 (i6 0)]).seq (C.cond (.t 42) ((C.ops [MV 43 16,⟨none,none,.store 1,[.t 14,
 .c .nl]⟩,ST 1 15 43]).seq C.ret) C.skip))).seq (((C.ops [O1 44 (.fldA 1) 7,LD 45 44,LD 46 11,O2 47 (.call 122 true) 45 46,BC 48 .neq 47 (i6 0)]).seq (C.cond (.t 48) ((C.ops
 [⟨none,none,.store 1,[.t 14,.c .nl]⟩,⟨none,none,.store 1,[.t 15,.c (i6 1)]⟩]).seq C.ret) C.skip)).seq (((C.ops [MV 50 5,OC 51 (.call 27 true) 50 (.str []),MV 49 51,O1
 52 (.ext 0) 49,O1 53 (.ext 1) 49,MV 17 52,MV 18 53]).seq ((C.ops [MV 54 18,BC 55 .neq 54 (i6 0)]).seq (C.cond (.t 55) ((C.ops [MV 56 18,⟨none,none,.store 1,[.t 14,.c
 .nl]⟩,ST 1 15 56]).seq C.ret) C.skip))).seq (((C.ops [MV 57 6,O1 58 .len 57,MV 59 5,O1 60 .len 59,BI 61 .neq 58 60,MV 62 61,MG 63 62 false 2,P1 64 62 false .len 63,MG 65
 62 false 1,P1 66 62 false .len 65,P2 67 62 false (.bin .neq) 64 66,PT 68 62 67]).seq (C.cond (.t 68) ((C.ops [⟨none,none,.store 1,[.t 14,.c .nl]⟩,⟨none,none,.store 1,[.t
 15,.c (i6 9)]⟩]).seq C.ret) C.skip)).seq (((C.ops [MV 69 1,O1 70 .len 69,MC 71 (i6 0)]).seq (C.block 0 ((C.ops [BI 72 .lss 71 70]).seq ((C.cond (.t 72) C.skip (C.exit 0)).seq
 ((C.block 1 ((C.ops [MV 73 71,O2 74 (.idxA 3) 69 71,O1 75 (.load (some 3)) 74,⟨some 20,none,.alloc 4 83 [i6 0,i6 0,.nl],[]⟩,MV 19 73,ST 3 20 75]).seq ((C.ops [MV 76 2,MV
 77 19,O2 78 (.idxA 1) 76 77,LD 79 78,O1 80 .len 79,O1 81 (.fldA 2) 20,LD 82 81,O1 83 .len 82,BI 84 .neq 80 83]).seq (C.cond (.t 84) ((C.ops [⟨none,none,.store 1,[.t 14,
 .c .nl]⟩,⟨none,none,.store 1,[.t 15,.c (i6 9)]⟩]).seq C.ret) C.skip)))).seq (C.ops [BC 85 .add 71 (i6 1),MV 71 85])))).loop)).seq ((C.ops [ON 21 (.nilo 5 6 58) []]).seq
 (((C.ops [MV 86 1,O1 87 .len 86,MC 88 (i6 0)]).seq (C.block 2 ((C.ops [BI 89 .lss 88 87]).seq ((C.cond (.t 89) C.skip (C.exit 2)).seq ((C.block 3 ((C.ops [MV 90 88,O2 91 (.idxA
 3) 86 88,O1 92 (.load (some 3)) 91,⟨some 23,none,.alloc 6 83 [i6 0,i6 0,.nl],[]⟩,MV 22 90,ST 3 23 92]).seq ((C.ops [MV 94 3,MV 95 22,O1 96 (.load (some 3)) 23,ON 97
 (.call 160 true) [.t 94,.t 95,.t 96],MV 93 97,O1 98 (.ext 0) 93,O1 99 (.ext 1) 93,MV 24 98,MV 25 99]).seq ((C.ops [⟨some 26,none,.alloc 7 22 [.nl],[]⟩]).seq (((C.ops [MV
 100 3,MV 101 24,MV 102 25,ON 103 (.slc 7 true true) [.t 100,.t 101,.t 102],O1 104 .len 103,MC 105 (i6 0)]).seq (C.block 4 ((C.ops [BI 106 .lss 105 104]).seq ((C.cond (.t
 106) C.skip (C.exit 4)).seq ((C.block 5 ((C.ops [O2 107 (.idxA 7) 103 105,O1 108 (.load (some 7)) 107,⟨some 28,none,.alloc 8 64 [.str [],i6 0,i6 0,i6 0,.bool false,.bool
 false,.str []],[]⟩,ST 7 28 108]).seq (C.ops [LD 109 26,O1 110 (.fldA 0) 28,LD 111 110,⟨some 112,none,.bslc 9 1 1 9 [.str []] [(0,1)],[.t 111]⟩,O2 113 (.app 10 1 9 16)
 109 112,ST 1 26 113]))).seq (C.ops [BC 114 .add 105 (i6 1),MV 105 114])))).loop)).seq ((C.ops [MV 115 5,O1 116 .len 115,MC 117 (i6 0)]).seq (C.block 6 ((C.ops [BI 118 .lss 117
 116]).seq ((C.cond (.t 118) C.skip (C.exit 6)).seq ((C.block 7 ((C.ops [MV 119 117,MV 29 119]).seq ((C.ops [MV 120 29,MV 121 24,MV 122 25,MV 123 6,MV 124 29,O2 125 (.idxA 1)
 123 124,LD 126 125,⟨some 127,none,.build [i6 0,i6 0,i6 0,.bool false,.nl,.nl] [(0,1),(1,1),(2,1),(3,1)],[.t 120,.t 121,.t 122,.t 126]⟩,⟨some 30,none,.alloc
 11 58 [i6 0,i6 0,i6 0,.bool false,.nl,.nl],[]⟩,ST 6 30 127]).seq (((C.wk.seq (C.ops [O1 128 (.load (some 3)) 23,MV 129 2,MV 130 22,O2 131 (.idxA 1) 129 130,LD 132 131,
 LD 133 26,MV 134 5,MV 135 29,ON 136 (.call 161 true) [.t 128,.t 132,.t 133,.t 134,.t 135]])).seq (C.block 8 (C.range (.t 136) [137] (C.ops [⟨some 31,none,.alloc 12 89
 [.nl,.nl],[]⟩,ST 2 31 137]) (C.block 9 ((C.ops [O1 139 (.fldA 1) 7,LD 140 139,LD 141 11,O1 142 (.fldA 1) 31,LD 143 142,ON 144 (.call 142 true) [.t 140,.t 141,.t 143],MV
 138 144,O1 145 (.ext 0) 138,O1 146 (.ext 1) 138,MV 32 145,MV 33 146]).seq (((C.ops [MV 147 33,BC 148 .neq 147 (.int .i64 (Int.ofNat 0))]).seq (C.cond (.t 148) ((C.ops [MV 149
 33,⟨none,none,.store 1,[.t 14,.c .nl]⟩,ST 1 15 149]).seq C.ret) C.skip)).seq (C.ops [O1 150 (.fldA 5) 30,LD 151 150,O1 152 (.fldA 0) 31,LD 153 152,MV 154 32,⟨some 155,
 none,.build [.nl,.nl] [(0,1),(1,1)],[.t 153,.t 154]⟩,⟨some 156,none,.bslc 13 2 1 85 [.nl,.nl] [(0,2)],[.t 155]⟩,O2 157 (.app 14 2 85 48) 151 156,O1 158 (.fldA 5) 30,
 ST 1 158 157]))))))).seq (((C.wk.seq (C.ops [O1 159 (.fldA 5) 30,LD 160 159,O1 161 .len 160,BC 162 .eql 161 (i6 0)])).seq (C.cond (.t 162) (C.exit 7) C.skip)).seq ((C.ops [O1
 163 (.fldA 2) 23,LD 164 163,O1 165 (.mkfn (Fn.func 162) 0) 26,O2 166 (.call 127 true) 164 165,MV 34 166]).seq (((C.ops [MV 167 6,MV 168 29,O2 169 (.idxA 1) 167 168,LD 170
 169,MV 171 170,MG 172 171 true 34,PC 173 171 true (.bin .geq) 172 (i6 0),PF 174 171 173]).seq (C.cond (.t 174) ((C.ops [O1 176 (.fldA 1) 7,LD 177 176,LD 178 11,O1 179 (.fldA
 2) 23,LD 180 179,MV 181 34,O2 182 (.idxA 2) 180 181,O1 183 (.fldA 1) 182,LD 184 183,ON 185 (.call 142 true) [.t 177,.t 178,.t 184],MV 175 185,O1 186 (.ext 0) 175,O1 187
 (.ext 1) 175,MV 35 186,MV 36 187]).seq (((C.ops [MV 188 36,BC 189 .neq 188 (.int .i64 (Int.ofNat 0))]).seq (C.cond (.t 189) ((C.ops [MV 190 36,⟨none,none,.store 1,[.t 14,.c
 .nl]⟩,ST 1 15 190]).seq C.ret) C.skip)).seq (C.ops [MV 191 35,O1 192 (.fldA 4) 30,ST 1 192 191]))) C.skip)).seq (C.ops [MV 193 21,O1 194 (.load (some 6)) 30,⟨some 195,none,
 .bslc 15 6 1 58 [i6 0,i6 0,i6 0,.bool false,.nl,.nl] [(0,6)],[.t 194]⟩,O2 196 (.app 16 6 58 80) 193 195,MV 21 196])))))))).seq (C.ops [BC 197 .add 117 (i6 1),MV 117
 197])))).loop))))))).seq (C.ops [BC 198 .add 88 (i6 1),MV 88 198])))).loop)).seq ((C.ops [MV 199 21,ST 1 14 199,⟨none,none,.store 1,[.t 15,.c (i6 0)]⟩]).seq
 C.ret)))))))))
theorem qgl:qL Tryz.prog 96 200 17 [RV.cell 14 none,RV.cell 15 none] qqr:=fi Tryz.f96 [7,11,14,15,20,21,23,26,28,112,113,30,31,156,157,195,196] qri [32,38] (by kernel_rfl) (by kernel_rfl) (by kernel_rfl) (by kernel_rfl)
end
section
open Go Go.Proofs AF HY LN
namespace RC
set_option maxHeartbeats 16000000
def flG {α:Type} (p:Nat→Bool) (g:Nat→α):Nat→List α
 |0=> []
 |i+1=>flG p g i++if p i=true then [g i] else []
theorem quk {α:Type} {p:Nat→Bool} {g:Nat→α} {i:Nat} (hp:p i=true): ∀ {n:Nat},i<n→ ∃h:(flG p g i).length<(flG p g n).length,(flG p g n)[(flG p g i).length]=g i:=by
 intro n
 induction n with
 |zero=>intro h;exact absurd h (Nat.not_lt_zero _)
 |succ n ih=>
  intro hi
  by_cases e:i=n
  ·subst e
   have e1:flG p g (i+1)=flG p g i++ [g i]:=by
    show flG p g i++(if p i=true then [g i] else [])=_
    rw [if_pos hp]
   refine ⟨by rw [e1];simp,?_⟩
   simp only [e1]
   rw [List.getElem_append_right (Nat.le_refl _)]
   simp
  ·obtain ⟨h1,h2⟩:=ih (by omega)
   have e1:flG p g (n+1)=flG p g n++(if p n=true then [g n] else []):=rfl
   refine ⟨by rw [e1,List.length_append];omega,?_⟩
   simp only [e1]
   rw [List.getElem_append_left h1]
   exact h2
theorem qum {α:Type} (p:Nat→Bool) (g:Nat→α): ∀n,(flG p g n).length≤n:=by
 intro n
 induction n with
 |zero=>exact Nat.le_refl _
 |succ n ih=>
  show (flG p g n++if p n=true then [g n] else []).length≤_
  rw [List.length_append]
  split
  ·simp only [List.length_cons,List.length_nil];omega
  ·simp only [List.length_nil];omega
theorem qje {α β:Type} (p:Nat→Bool) (g:Nat→α) (k:Nat→β): ∀n,(flG p g n).length=(flG p k n).length:=by
 intro n
 induction n with
 |zero=>rfl
 |succ n ih=>
  show (flG p g n++if p n=true then [g n] else []).length=(flG p k n++if p n=true then [k n] else []).length
  rw [List.length_append,List.length_append,ih]
  split<;>rfl
def vtB (rds:List Rd) (cls own lay:List Str) (y:Int) (r:Nat):Bool:=decide (lyR lay (cls.getD r [])=y)&& !decide ((rds.getD r default).words=own)
def vtX (rds:List Rd) (cls own lay:List Str) (y:Int) (n:Nat):List (List AV):=flG (vtB rds cls own lay y) (fun r=> [.agg (rdC (rds.getD r default))]) n
theorem qv6 (a b:List Str) (h:List AObj) (h1:a.length≤1000000000) (h2:b.length≤1000000000):ACalls Tryz.prog 139 [strs a,strs b] h (.bool (decide (a=b))) h:=by
 have c:=qyb a b.length (fun j=>b.getD j []) h h1 h2
 have e:decide (a.length=b.length∧ ∀i,i<a.length→a.getD i []=b.getD i [])=decide (a=b):=decide_eq_decide.2 (jo ([]:Str)).symm
 rw [e]at c
 exact c
theorem qAa (u:Un) (cls own lay:List Str) (y:Int) (h:List AObj):
  ACalls Tryz.prog 161 [.agg (unC u),strs cls,strs own,strs lay,.int .i64 y] h (.fn (.func 215) [] [.ip (unC u),.ip [strs lay],.ip [strs cls],.ip [.int .i64 y],.ip [strs own]]) h:=by
 refine acO quw ?_
 simp (disch:=omega) only [qtf,List.replicate,unC,go_sem]
 repeat' first
  |((first|apply qd|apply qb);exact rvk;simp only [go_sem];first|exact VLe.refl _|apply qe|apply qa|apply qf|skip)
  |with_reducible first|apply And.intro|intro _
 all_goals try exact clz
theorem itV (u:Un) (cls own lay:List Str) (y:Int) (hr:u.rds.length≤1000000000) (hc:cls.length=u.rds.length) (hw: ∀j,(u.rds.getD j default).words.length≤1000000000) (ho:own.length≤1000000000) (hl:lay.length≤1000000000) (hs: ∀i,(lay.getD i []).length≤100000000):
  qsM Tryz.prog 215 [.ip (unC u),.ip [strs lay],.ip [strs cls],.ip [.int .i64 y],.ip [strs own]] (vtX u.rds cls own lay y u.rds.length):=by
 intro h ts LI S E hS hE body start hts
 refine acQ quL ?_
 simp (disch:=omega) only [qts,List.replicate,unC,zE,go_sem]
 repeat' first
  |((first|apply qd|apply qb);exact rvk;simp only [go_sem];first|exact VLe.refl _|apply qe|apply qa|apply qf|skip)
  |with_reducible first|apply And.intro|intro _
 all_goals try exact clz
 obtain ⟨p,hp⟩: ∃p,p=vtB u.rds cls own lay y:=⟨_,rfl⟩
 obtain ⟨g,hg⟩: ∃g:Nat→List AV,g=fun r=> [.agg (rdC (u.rds.getD r default))]:=⟨_,rfl⟩
 have hX:vtX u.rds cls own lay y u.rds.length=flG p g u.rds.length:=by rw [hp,hg];rfl
 refine qv (T:=fun i:Nat×List AObj×AObj=>qQ 45 [(0,.yld h.length),(2,.ip [strs lay]),(3,.ip [strs cls]),(4,.ip [.int .i64 y]),(5,.ip [strs own]),(12,zE u.rds),(13,.int .i64 u.rds.length),(14,.int .i64 i.1)])
  (H:=fun i=>i.2.1++ [.lp .ready ts LI]++ [i.2.2])
  (inv:=fun i=>i.1≤u.rds.length∧S (flG p g i.1).length i.2.1∧qE [i.2.2] 0=true) (m:=fun i=>u.rds.length-i.1) (0,h,.emp 0) ⟨Nat.zero_le _,start,rfl⟩ (Wk.temps ?_) ?_
 ·(simp only [unC,zE,strs,List.replicate,go_sem,qk,qi,qg,qj];try (repeat' first|(with_reducible apply And.intro)|(apply qe;omega)|(apply qa;rfl)|exact VLe.refl _))
 rintro ⟨i,hh,O⟩ ⟨i1,i2,i3⟩ K hK
 simp only at i1 i2 i3 hK
 obtain ⟨hlen,hlow⟩:=hS _ _ i2
 have hb:(h++ [AObj.lp LS.ready ts LI]).length=(hh++ [AObj.lp LS.ready ts LI]).length:=by simp [hlen]
 rw [hb]
 have i3': ∀m,qE (O::m) 0=true:=fun _=>i3
 by_cases hi:i<u.rds.length
 ·have q0:((i:Int)<u.rds.length)=True:=eq_true (by omega)
  have qc:((i:Int)<cls.length)=True:=eq_true (by omega)
  have hst:flG p g (i+1)=flG p g i++if p i=true then [g i] else []:=rfl
  have hpi:p i=(decide (lyR lay (cls.getD i [])=y)&& !decide ((u.rds.getD i default).words=own)):=by rw [hp];rfl
  have c27:=fun h=>lyP lay (cls.getD i []) h hl hs
  have c139:=fun h=>qv6 (u.rds.getD i default).words own h (hw i) ho
  have hgi:g i= [.agg (rdC (u.rds.getD i default))]:=by rw [hg]
  have hat:=fun hpp=>quk (p:=p) (g:=g) (i:=i) hpp hi
  obtain ⟨r,hr⟩: ∃r,r=u.rds.getD i default:=⟨_,rfl⟩
  have er:=hr.symm
  obtain ⟨c,hcx⟩: ∃c,c=cls.getD i []:=⟨_,rfl⟩
  have ec:=hcx.symm
  simp only [er,ec]at hpi c27 c139 hgi
  obtain ⟨z,hz⟩: ∃z,z=lyR lay c:=⟨_,rfl⟩
  obtain ⟨ze,hze⟩: ∃ze,ze=lyE lay:=⟨_,rfl⟩
  rw [←hz]at hpi
  simp only [←hz,←hze]at c27
  obtain ⟨b,hbx⟩: ∃b,b=decide (r.words=own):=⟨_,rfl⟩
  rw [←hbx]at hpi
  simp only [←hbx]at c139
  unfold strs at c27 c139
  by_cases gz:z=y
  ·have q1:(z=y)=True:=eq_true gz
   rw [decide_eq_true gz,Bool.true_and]at hpi
   cases b with
   |false=>
    rw [Bool.not_false]at hpi
    rw [hpi,if_pos rfl]at hst
    obtain ⟨hdl,hxx⟩:=hat hpi
    rw [hgi]at hxx
    have hdl':(flG p g i).length<(vtX u.rds cls own lay y u.rds.length).length:=by rw [hX];exact hdl
    have hxx':(vtX u.rds cls own lay y u.rds.length)[(flG p g i).length]= [.agg (rdC r)]:=by simp only [hX];exact hxx
    have hb':=fun O'=>body (flG p g i).length hh [O'] hdl' i2
    rw [hxx']at hb'
    have hlst:(flG p g (i+1)).length=(flG p g i).length+1:=by rw [hst];simp
    simp (disch:=omega) only [List.replicate,zE,strs,i3',q0,qc,er,ec,rdC,q1,go_sem]
    repeat' first
     |((first|refine cA (c27 _) ?_ ?_|refine cG (fun e=>c27 _) ?_ ?_|refine cA (c139 _) ?_ ?_|refine cG (fun e=>c139 _) ?_ ?_|refine cU (fun _=>c27 _) ?_ ?_|refine cU (fun _=>c139 _) ?_ ?_);(next=>exact flk);simp (disch:=omega) only [zE,rdC,strs,i3',q0,qc,q1,er,ec,go_sem])
     |((first|apply qd|apply qb);exact rvk;simp only [go_sem];first|exact VLe.refl _|apply qe|apply qa|apply qf|skip)
     |with_reducible first|apply And.intro|intro _
    all_goals try exact clz
    ·exact ⟨.ready,ts,LI,by rw [List.append_assoc];exact jN hlen⟩
    ·rw [List.append_assoc]
     refine jJ.mono ?_ (hb' _)
     rintro v h' ⟨hh',⟨rfl,hn,rfl⟩|⟨st,rfl,hs',rfl⟩⟩
     ·simp (disch:=omega) only [q1,go_sem]
      repeat' first
       |((first|apply qd|apply qb);exact rvk;simp only [go_sem];first|exact VLe.refl _|apply qe|apply qa|apply qf|skip)
       |with_reducible first|apply And.intro|intro _
      all_goals try exact clz
      refine hK _ _ (i+1,hh',.mem (qr (some O)+1) 89 (rdC r)) ⟨hi,by simp only;rw [hlst];exact hn,rfl⟩ (by simp only;omega) ?_
      simp only [List.append_assoc]
      refine Wk.temps ?_
      (simp only [unC,zE,strs,List.replicate,go_sem,qk,qi,qg,qj];try (repeat' first|(with_reducible apply And.intro)|(apply qe;omega)|(apply qa;rfl)|exact VLe.refl _))
     ·simp (disch:=omega) only [q1,go_sem]
      obtain ⟨r1,r2⟩:=(hE _ _ hs').ret (L:=LI) st hts
      have eO: ∀O',hh'++AObj.lp st ts LI:: [O']=(hh'++ [AObj.lp st ts LI])++ [O']:=fun _=>by simp
      rw [eO]
      exact qq7 trivial r1 r2 ⟨_,.inr ⟨st,hs',rfl⟩⟩ (VLe.refl _)
   |true=>
    rw [Bool.not_true]at hpi
    rw [hpi,if_neg (by simp),List.append_nil]at hst
    simp (disch:=omega) only [List.replicate,zE,strs,i3',q0,qc,er,ec,rdC,q1,go_sem]
    repeat' first
     |((first|refine cA (c27 _) ?_ ?_|refine cG (fun e=>c27 _) ?_ ?_|refine cA (c139 _) ?_ ?_|refine cG (fun e=>c139 _) ?_ ?_|refine cU (fun _=>c27 _) ?_ ?_|refine cU (fun _=>c139 _) ?_ ?_);(next=>exact flk);simp (disch:=omega) only [zE,rdC,strs,i3',q0,qc,q1,er,ec,go_sem])
     |((first|apply qd|apply qb);exact rvk;simp only [go_sem];first|exact VLe.refl _|apply qe|apply qa|apply qf|skip)
     |with_reducible first|apply And.intro|intro _
    all_goals try exact clz
    refine hK _ _ (i+1,hh,.mem (qr (some O)+1) 89 (rdC r)) ⟨hi,by simp only;rw [hst];exact i2,rfl⟩ (by simp only;omega) ?_
    simp only
    refine Wk.temps ?_
    (simp only [unC,zE,strs,List.replicate,go_sem,qk,qi,qg,qj];try (repeat' first|(with_reducible apply And.intro)|(apply qe;omega)|(apply qa;rfl)|exact VLe.refl _))
  ·have q1:(z=y)=False:=eq_false gz
   rw [decide_eq_false gz,Bool.false_and]at hpi
   rw [hpi,if_neg (by simp),List.append_nil]at hst
   simp (disch:=omega) only [List.replicate,zE,strs,i3',q0,qc,er,ec,rdC,q1,go_sem]
   repeat' first
    |(refine ql ( .bool false) ?_;simp (disch:=omega) only [zE,rdC,strs,i3',q0,qc,q1,er,ec,go_sem])
    |((first|refine cA (c27 _) ?_ ?_|refine cG (fun e=>c27 _) ?_ ?_|refine cU (fun _=>c27 _) ?_ ?_);(next=>exact flk);simp (disch:=omega) only [zE,rdC,strs,i3',q0,qc,q1,er,ec,go_sem])
    |((first|apply qd|apply qb);exact rvk;simp only [go_sem];first|exact VLe.refl _|apply qe|apply qa|apply qf|skip)
    |with_reducible first|apply And.intro|intro _
   all_goals try exact clz
   refine hK _ _ (i+1,hh,.mem (qr (some O)+1) 89 (rdC r)) ⟨hi,by simp only;rw [hst];exact i2,rfl⟩ (by simp only;omega) ?_
   simp only
   refine Wk.temps ?_
   (simp only [unC,zE,strs,List.replicate,go_sem,qk,qi,qg,qj];try (repeat' first|(with_reducible apply And.intro)|(apply qe;omega)|(apply qa;rfl)|exact VLe.refl _))
 ·have e:i=u.rds.length:=by omega
  subst e
  have q0:((u.rds.length:Int)<u.rds.length)=False:=eq_false (by omega)
  simp (disch:=omega) only [List.replicate,zE,i3',q0,go_sem]
  repeat' first
   |((first|apply qd|apply qb);exact rvk;simp only [go_sem];first|exact VLe.refl _|apply qe|apply qa|apply qf|skip)
   |with_reducible first|apply And.intro|intro _
  all_goals try exact clz
  obtain ⟨r1,r2⟩:=(hS _ _ i2).ret (L:=LI) .ready hts
  exact qna trivial r1 r2 ⟨hh,.inl ⟨by rw [hX];exact i2,rfl⟩⟩ (VLe.refl _)
end RC
end
section
open Go Go.Proofs AF HY LN
namespace RC
set_option maxHeartbeats 4000000
theorem qjd {a:Ap} (h:qsX a.x a.l a.b) {k:Nat} (hk:k<a.l.length):frK a k≤toK a k∧toK a k≤a.b.length∧(∀i,i<a.b.length→(bfU a.b (a.l.getD k default).frm i=true↔i<frK a k))∧(∀i,i<a.b.length→(inU a.b k i=true↔frK a k≤i∧i<toK a k)):=by
 obtain ⟨F,G,h1,h2,h3,h4,h5,h6⟩:=qfE h hk
 have e1:frK a k=F:=h5
 have e2:toK a k=G:=by unfold toK;rw [e1,h6];omega
 rw [e1,e2]
 exact ⟨h1,h2,h3,h4⟩
def qeW (b:List Wd):List Str:=b.map (·.text)
theorem qrL {a:Ap} (h:qsX a.x a.l a.b) {k:Nat} (hk:k<a.l.length):qsR a k=qbw (qeW a.b) (frK a k) (toK a k):=by
 obtain ⟨h1,h2,_,h4⟩:=qjd h hk
 have key: ∀n,n≤a.b.length→owG a.b k n=qbw (qeW a.b) (min (frK a k) n) (min (toK a k) n):=by
  intro n
  induction n with
  |zero=>intro _;simp [owG,qbw]
  |succ n ih=>
   intro hn
   unfold owG
   rw [ih (by omega)]
   have hq:=h4 n (by omega)
   unfold inU at hq
   rw [decide_eq_true_iff]at hq
   by_cases e:(a.b.getD n default).unit=(k:Int)
   ·have hf:=hq.1 e
    rw [if_pos e,Nat.min_eq_left (show frK a k≤n by omega),Nat.min_eq_left (show frK a k≤n+1 by omega),Nat.min_eq_right (show n≤toK a k by omega),Nat.min_eq_right (show n+1≤toK a k by omega)]
    unfold qbw qeW
    rw [show n+1-frK a k=n-frK a k+1 by omega,List.take_add_one,List.getElem?_drop,show frK a k+(n-frK a k)=n by omega,List.getElem?_map,zM (show n<a.b.length by omega),gdqA,zM (show n<a.b.length by omega)]
    rfl
   ·rw [if_neg e,List.append_nil]
    have hf: ¬(frK a k≤n∧n<toK a k):=fun hc=>e (hq.2 hc)
    by_cases h5:toK a k≤n
    ·rw [Nat.min_eq_left (show frK a k≤n by omega),Nat.min_eq_left (show frK a k≤n+1 by omega),Nat.min_eq_left h5,Nat.min_eq_left (show toK a k≤n+1 by omega)]
    ·rw [Nat.min_eq_right (show n≤frK a k by omega),Nat.min_eq_right (show n≤toK a k by omega),Nat.min_eq_right (show n+1≤frK a k by omega),Nat.min_eq_right (show n+1≤toK a k by omega)]
     simp [qbw]
 have:=key a.b.length (Nat.le_refl _)
 rw [Nat.min_eq_left h2,Nat.min_eq_left (Nat.le_trans h1 h2)]at this
 exact this
end RC
end
section
open Go Go.Proofs AF HY LN
namespace RC
set_option maxHeartbeats 4000000
end RC
end
section
open Go Go.Proofs AF
end
section
open Go Go.Proofs AF HY LN
namespace RC
set_option maxHeartbeats 16000000
end RC
end
section
open Go Go.Proofs AF HY LN
namespace RC
set_option maxHeartbeats 4000000
end RC
end
section
open Go Go.Proofs AF HY LN
namespace RC
set_option maxHeartbeats 4000000
end RC
end
section
open Go Go.Proofs AF
end
section
open Go Go.Proofs AF HY LN
namespace RC
set_option maxHeartbeats 16000000
end RC
end
section
open Go Go.Proofs AF HY LN
namespace RC
set_option maxHeartbeats 4000000
end RC
end
section
open Go Go.Proofs AF HY LN
namespace RC
set_option maxHeartbeats 8000000
structure qAk (a:Ap) (k:Nat):Prop where
 inv:qfO (a.l.getD k default).rds a.x.sig.length
 has:ql4 (a.l.getD k default).rds a.x.sig.length fun i=>rdG a.x i (a.l.getD k default).frm.toNat ((a.l.getD k default).to.toNat-(a.l.getD k default).frm.toNat)
end RC
end
section
open Go Go.Proofs AF HY LN
namespace RC
set_option maxHeartbeats 16000000
theorem qjs {names:List Str} {gs:List Gr} (h:qra names gs=false) (hs:sgE names gs=0):names.length≤8∧gs.length≤8:=by
 have ho:=qfC hs
 have h1:=ho.n32
 have h2:=ho.g16
 unfold qra at h
 simp only [Bool.or_eq_false_iff,Bool.and_eq_false_iff,decide_eq_false_iff_not]at h
 omega
theorem qvo {names:List Str} {gs:List Gr} (h:qra names gs=false):Szs names gs:=by
 obtain ⟨h1,h2,h3,h4⟩:=qrb h
 exact ⟨by omega,by omega,fun i=>by have:=h3 i;omega,fun i=>by have:=(h4 i).1;omega,fun i=>by have:=(h4 i).2;omega⟩
theorem qul {α β:Type} {p:Nat→Bool} {g:Nat→α} {k:Nat→β}: ∀ {n i:Nat} (hi:i<(flG p g n).length),∃r,r<n∧p r=true∧(flG p g n)[i]=g r∧(flG p k n)[i]? =some (k r):=by
 intro n
 induction n with
 |zero=>intro i hi;exact absurd hi (Nat.not_lt_zero _)
 |succ n ih=>
  intro i hi
  have e1:flG p g (n+1)=flG p g n++(if p n=true then [g n] else []):=rfl
  have e2:flG p k (n+1)=flG p k n++(if p n=true then [k n] else []):=rfl
  have el:=qje p g k n
  by_cases hl:i<(flG p g n).length
  ·obtain ⟨r,r1,r2,r3,r4⟩:=ih hl
   refine ⟨r,by omega,r2,?_,?_⟩
   ·simp only [e1]
    rw [List.getElem_append_left hl]
    exact r3
   ·rw [e2,List.getElem?_append_left (by omega)]
    exact r4
  ·cases hp:p n with
   |false=>
    rw [e1,hp,if_neg (by simp),List.append_nil]at hi
    exact absurd hi hl
   |true=>
    have hi2:i=(flG p g n).length:=by
     rw [e1,hp,if_pos rfl,List.length_append,List.length_singleton]at hi
     omega
    refine ⟨n,by omega,hp,?_,?_⟩
    ·simp only [e1,hp,if_true]
     rw [List.getElem_append_right (by omega)]
     simp [hi2]
    ·rw [e2,hp,if_pos rfl,List.getElem?_append_right (by omega)]
     simp [hi2,el]
theorem qwn {a:Ap} (hl:lyE a.lay=0) (k y:Nat) (n:Nat):vrG a k y n=flG (vtB (a.l.getD k default).rds (a.cls.getD k []) (qsR a k) a.lay y) (fun r=>(⟨((a.l.getD k default).rds.getD r default).words,shR a.x.sig a.gs ((a.l.getD k default).rds.getD r default).src⟩:Va)) n:=by
 induction n with
 |zero=>rfl
 |succ n ih=>
  unfold vrG flG
  rw [ih]
  congr 1
  unfold vtB lyR
  rw [if_pos hl]
  by_cases h1:lyN a.lay ((a.cls.getD k []).getD n [])=y
  ·by_cases h2:((a.l.getD k default).rds.getD n default).words=qsR a k
   ·rw [if_neg (fun h=>h.2 h2),decide_eq_true h1,decide_eq_true h2,if_neg (by simp)]
   ·rw [if_pos ⟨h1,h2⟩,decide_eq_true h1,decide_eq_false h2,if_pos (by simp)]
  ·rw [if_neg (fun h=>h1 h.1),decide_eq_false h1,if_neg (by simp)]
def qcs (L:List Va):List AV:=L.flatMap vaC
theorem qfJ (L:List Va):(qcs L).length=L.length*2:=by
 induction L with
 |nil=>rfl
 |cons a L ih=>show (vaC a++qcs L).length=_;rw [List.length_append,ih];simp [vaC];omega
theorem qoM (A B:List Va):qcs (A++B)=qcs A++qcs B:=by simp [qcs]
theorem qoN {L:List Va}: ∀ {i:Nat},i<L.length→((qcs L).drop (i*2)).take 2=vaC (L.getD i default):=by
 induction L with
 |nil=>intro i h;exact absurd h (Nat.not_lt_zero _)
 |cons a L ih=>
  intro i h
  cases i with
  |zero=>rfl
  |succ i=>
   have e:(i+1)*2=i*2+1+1:=by omega
   rw [e]
   show ((strs a.words::strs a.sigla::qcs L).drop (i*2+1+1)).take 2=_
   rw [List.drop_succ_cons,List.drop_succ_cons]
   exact ih (by simpa using h)
theorem qoo {v n:Nat} {L:List Va} {fz:Nat→Bool} {h:List AObj} {d:Nat} (hn:n=L.length):VLe (qc7 (some (zC v 85 (qcs L))) v 2 0 n (rei fz h (d+1))) (qbl L):=by
 subst hn
 by_cases h0:L= []
 ·subst h0
  show VLe (qc7 (some (.emp v)) v 2 0 0 _) _
  rw [slOf_emp,if_pos rfl]
  exact kj
 ·have e0:zC v 85 (qcs L)= .mem v 85 (qcs L):=zS (fun e=>h0 (by
   cases L with
   |nil=>rfl
   |cons a L=>cases e))
  rw [e0,slOf_mem,if_pos ⟨rfl,by rw [qfJ];omega⟩]
  refine VLe.sl_eq rfl (fun i hi=> ?_)
  simp only [Nat.zero_add]
  rw [qoN hi]
  rfl
theorem qkR {v n:Nat} {L:List En} {fz:Nat→Bool} {h:List AObj} {d:Nat} (hn:n=L.length):VLe (qc7 (some (zC v 58 (qaE L))) v 6 0 n (rei fz h (d+1))) (qbh L):=by
 by_cases h0:L= []
 ·subst h0
  subst hn
  show VLe (qc7 (some (.emp v)) v 6 0 0 _) _
  rw [slOf_emp,if_pos rfl]
  exact kj
 ·have e0:zC v 58 (qaE L)= .mem v 58 (qaE L):=zS (fun e=>h0 (by
   cases L with
   |nil=>rfl
   |cons a L=>cases e))
  rw [e0]
  exact qom hn
theorem qzz (r:Rd) (own:List Str) (h:List AObj) (h1:r.words.length≤1000000000) (h2:own.length≤1000000000):ACalls Tryz.prog 162 [.agg (rdC r),.ip [strs own]] h (.bool (decide (r.words=own))) h:=by
 have c1:=fun h=>qv6 r.words own h h1 h2
 unfold strs at c1
 refine acO qux ?_
 simp (disch:=omega) only [qtg,List.replicate,rdC,strs,go_sem]
 repeat' first
  |((first|refine cA (c1 _) ?_ ?_|refine cG (fun e=>c1 _) ?_ ?_|refine cU (fun _=>c1 _) ?_ ?_);(next=>exact flk);simp (disch:=omega) only [rdC,strs,go_sem])
  |((first|apply qd|apply qb);exact rvk;simp only [go_sem];first|exact VLe.refl _|apply qe|apply qa|apply qf|skip)
  |with_reducible first|apply And.intro|intro _
 all_goals try exact clz
theorem qx0 (L:List Rd) (own:List Str) (k v:Nat) (h:List AObj) (hk:qy k h=some (.mem v 22 [strs own])) (hl:L.length≤1000000000) (hw: ∀j,(L.getD j default).words.length≤1000000000) (ho:own.length≤1000000000):
  ACalls Tryz.prog 127 [zE L,.fn (.func 162) [] [.op k v 0]] h (.int .i64 (kS (fun r=>decide ((L.getD r default).words=own)) L.length 0)) h:=by
 have hc:=qX hk
 unfold zE
 refine qcD qpl L.length (fun j=>rdC (L.getD j default)) (fun j=> .agg (rdC (L.getD j default))) _ [] [.op k v 0] _ h (fun i _=>⟨rfl,by simp [z7,rdC],rfl,rfl,rfl⟩) (fun i _=> ?_) (by omega)
 refine ACalls.borrow ?_ rfl
 have e:([AV.agg (rdC (L.getD i default))]++ [AV.op k v 0]).map (rei (fun _=>true) h 8)= [.agg (rdC (L.getD i default)),.ip [strs own]]:=by
  simp only [List.cons_append,List.nil_append,List.map_cons,List.map_nil,rei_op,if_true,hc,ipOf_some,List.drop_zero,rei_agg]
  rfl
 rw [List.nil_append,e]
 exact qzz _ own _ (hw i) ho
theorem spK {a:Ap} (h:qsX a.x a.l a.b) {k:Nat} (hk:k<a.l.length):spF a.b k (a.l.getD k default).frm=(frK a k:Int)∧spT a.b k (a.l.getD k default).frm=(toK a k:Int):=by
 obtain ⟨F,G,hFG,hG,hb,hq,e1,e2⟩:=qfE h hk
 have f1:frK a k=F:=e1
 have f2:toK a k=G:=by
  unfold toK
  rw [f1,e2]
  omega
 rw [f1,f2]
 have hi:=qrg hG hq
 unfold spF spT qlX qlY
 by_cases hlt:F<G
 ·rw [if_pos hlt]at hi
  have hk1:qb7 (inU a.b k) a.b.length F=G:=qin hFG hG (fun j h1 h2=>(hq j (by omega)).2 ⟨h1,h2⟩) fun h3=>by
   cases e:inU a.b k G with
   |false=>rfl
   |true=>exact absurd ((hq G h3).1 e).2 (Nat.lt_irrefl _)
  have hbe:qlU (inU a.b k) a.b.length F=false:=by
   unfold qlU
   rw [hk1]
   refine qq.2 fun i hi=> ?_
   by_cases g:G≤i
   ·cases e:inU a.b k i with
    |false=>rw [Bool.and_false]
    |true=>have:=((hq i hi).1 e).2;omega
   ·rw [decide_eq_false g,Bool.false_and]
  have hE:qcW (inU a.b k) a.b.length=0:=by
   unfold qcW
   rw [hi,if_neg (by omega),Int.toNat_natCast,hbe,if_neg (by simp)]
  rw [hE,if_pos rfl,if_pos rfl,if_pos rfl,if_pos rfl,hi,Int.toNat_natCast,hk1]
  exact ⟨rfl,rfl⟩
 ·rw [if_neg hlt]at hi
  have hE:qcW (inU a.b k) a.b.length=6:=by
   unfold qcW
   rw [hi]
   rfl
  rw [hE,if_neg (by decide),if_neg (by decide),e1]
  exact ⟨rfl,by omega⟩
theorem qll {t:List Str} {f d:Nat} (h:f+d<t.length):qbw t f (f+(d+1))=qbw t f (f+d)++ [t.getD (f+d) []]:=by
 unfold qbw
 rw [show f+(d+1)-f=d+1 by omega,show f+d-f=d by omega,List.take_add_one]
 congr 1
 rw [List.getElem?_drop,gdqA,zM h]
 rfl
end RC
end
