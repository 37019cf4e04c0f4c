import Derived.Test.YtgoandblgcjleaaGreatDoorK4
import Derived.Lib.IndexMore
import Derived.Lib.CountLaws
import Derived.Laws.Strings3
import Derived.Test.YtgoandblgcjleaaGreatDoorK9
import Derived.Test.YtgoandblgcjleaaGreatDoorK7
import Derived.Test.YtgoandblgcjleaaGreatDoorK6
import Derived.Test.YtgoandblgcjleaaGreatDoorK10
import Derived.Test.YtgoandblgcjleaaGreatDoorK8
import Derived.Test.YtgoandblgcjleaaGreatDoorK2
import Derived.Test.YtgoandblgcjleaaGreatDoorProg
set_option linter.all false
set_option linter.unusedSimpArgs false
set_option linter.unusedVariables false
set_option linter.unusedSectionVars false
set_option maxRecDepth 100000
section
set_option linter.unusedVariables false
namespace Go.Proofs
open Go.Shelf Go.RowKit Go.Lib
set_option maxHeartbeats 1000000 in
set_option maxRecDepth 100000 in
theorem qiV (s:ByteArray) (c:UInt8) (w:World):
  Calls Tryz.prog 183 #[.string s,.string ⟨#[c]⟩] w fun e w'=>e= .returned (.int .i64 (Lib.countByte s.data.toList c))∧w'=w:=by
 go_enter Tryz.func183,Tryz.ntmps183
 go_wp2
 rw [run_callFunc_extern Tryz.func239 (by kernel_rfl) (by kernel_rfl) (by kernel_rfl) (e:=Extern.BytealgCount.count) (by kernel_rfl),Lib.run_countString]
 simp only [Result.andThen]
 rw [Oper.upon_value]
 go_wp2
 go_ret
 exact ⟨rfl,rfl⟩
set_option maxHeartbeats 2000000 in
set_option maxRecDepth 100000 in
theorem qjI (s:ByteArray) (c:UInt8) (w:World):
  Calls Tryz.prog 240 #[.string s,.string ⟨#[c]⟩] w fun e w'=>e= .returned (.int .i64 (Lib.indexByte s.data.toList c))∧w'=w:=by
 have e95: ∀args w,(callFunc 280 args).run Tryz.prog w= .ok (.enter 280 args) w:=enters_of Tryz.func280 (by kernel_rfl) rfl
 go_enter Tryz.func240,Tryz.ntmps240
 go_wp2_with (go_at_fn 280;refine (qfi _ _ _).mono ?_;rintro e w' ⟨rfl,rfl⟩)
 ·have h:([c]==s.toList)=true:=by assumption
  go_ret
  refine ⟨?_,rfl⟩
  have e:s.data.toList= [c]:=by rw [←Lib.toList_data];exact (beq_iff_eq.1 h).symm
  rw [e]
  simp [Lib.indexByte]
 ·go_ret
  exact ⟨rfl,rfl⟩
set_option maxHeartbeats 1000000 in
theorem qnn (s:ByteArray) (c:UInt8) (w:World):
  Calls Tryz.prog 184 #[.string s,.string ⟨#[c]⟩] w fun e w'=>e= .returned (.int .i64 (Lib.indexByte s.data.toList c))∧w'=w:=by
 have e114: ∀args w,(callFunc 240 args).run Tryz.prog w= .ok (.enter 240 args) w:=enters_of Tryz.func240 (by kernel_rfl) rfl
 go_enter Tryz.func184,Tryz.ntmps184
 go_wp2_with (go_at_fn 240;refine (qjI _ _ _).mono ?_;rintro e w' ⟨rfl,rfl⟩)
 go_ret
 exact ⟨rfl,rfl⟩
end Go.Proofs
end
section
open Go Go.Proofs AF HY
namespace HY
theorem qz8 (s:List UInt8) (c:UInt8) (h:List AObj):ACalls Tryz.prog 183 [.str s,.str [c]] h (.int .i64 (s.count c)) h:=by
 refine ⟨qvL Tryz.func183 (by kernel_rfl) (by kernel_rfl),fun w σ xs H hv=> ?_⟩
 obtain ⟨x,y,rfl,hx,hy⟩:=hv.two
 rw [zJ hx,zJ hy]
 refine (callsIn_wide.2 (qiV ⟨s.toArray⟩ c w)).mono ?_
 rintro e w' ⟨rfl,rfl⟩
 exact ⟨_,σ,rfl,H,.imm .int,Ext.refl _ _⟩
theorem qz9 (s:List UInt8) (c:UInt8) (h:List AObj):ACalls Tryz.prog 184 [.str s,.str [c]] h (.int .i64 (Go.Lib.indexByte s c)) h:=by
 refine ⟨qvL Tryz.func184 (by kernel_rfl) (by kernel_rfl),fun w σ xs H hv=> ?_⟩
 obtain ⟨x,y,rfl,hx,hy⟩:=hv.two
 rw [zJ hx,zJ hy]
 refine (callsIn_wide.2 (qnn ⟨s.toArray⟩ c w)).mono ?_
 rintro e w' ⟨rfl,rfl⟩
 exact ⟨_,σ,rfl,H,.imm .int,Ext.refl _ _⟩
def ke (c:UInt8) (s:List UInt8):Nat:=(s.takeWhile (· !=c)).length
def j6 (c:UInt8) (s:List UInt8):Nat→List UInt8
 |0=>s
 |i+1=>(j6 c s i).drop (ke c (j6 c s i)+1)
def jE (c:UInt8) (s:List UInt8) (i:Nat):List UInt8:=if i<s.count c then (j6 c s i).take (ke c (j6 c s i)) else j6 c s i
def jD (c:UInt8) (s:List UInt8):List (List UInt8):=(List.range (s.count c+1)).map (jE c s)
theorem qaW (c:UInt8) (s:List UInt8):(jD c s).length=s.count c+1:=by simp [jD]
theorem ky (c b:UInt8) (s:List UInt8):ke c (b::s)=if b=c then 0 else ke c s+1:=by
 unfold ke
 rw [List.takeWhile_cons]
 by_cases e:b=c
 ·simp [e]
 ·simp [e]
theorem qjD (c:UInt8): ∀(s:List UInt8),0<s.count c→Go.Lib.indexByte s c=ke c s:=by
 intro s
 induction s with
 |nil=>intro h;simp at h
 |cons b s ih=>
  intro h
  unfold Go.Lib.indexByte
  rw [ky]
  by_cases e:b=c
  ·simp [e]
  ·rw [List.count_cons,if_neg (by simpa using e)]at h
   have:=ih (by omega)
   rw [if_neg (by simpa using e),if_neg e,this,if_neg (by simp<;>omega)]
   rfl
theorem qmF (c:UInt8): ∀(s:List UInt8),0<s.count c→ke c s<s.length:=by
 intro s
 induction s with
 |nil=>intro h;simp at h
 |cons b s ih=>
  intro h
  rw [ky]
  by_cases e:b=c
  ·simp [e]
  ·rw [List.count_cons,if_neg (by simpa using e)]at h
   have:=ih (by omega)
   rw [if_neg e,List.length_cons]
   omega
theorem qdm (c:UInt8): ∀(s:List UInt8),0<s.count c→(s.drop (ke c s+1)).count c=s.count c-1:=by
 intro s
 induction s with
 |nil=>intro h;simp at h
 |cons b s ih=>
  intro h
  rw [ky]
  by_cases e:b=c
  ·simp [e]
  ·rw [List.count_cons,if_neg (by simpa using e)]at h
   have:=ih (by omega)
   rw [if_neg e,List.drop_succ_cons,this,List.count_cons,if_neg (by simpa using e)]
   rfl
theorem qf4 (c:UInt8) (s:List UInt8): ∀i,i≤s.count c→(j6 c s i).count c=s.count c-i:=by
 intro i
 induction i with
 |zero=>intro _;rfl
 |succ i ih=>
  intro h
  have:=ih (by omega)
  show ((j6 c s i).drop _).count c=_
  rw [qdm _ _ (by omega),this]
  omega
theorem qoc (c:UInt8) (s:List UInt8): ∀i,(j6 c s i).length≤s.length:=by
 intro i
 induction i with
 |zero=>exact Nat.le_refl _
 |succ i ih=>show ((j6 c s i).drop _).length≤_;rw [List.length_drop];omega
def kT (c:UInt8) (s:List UInt8) (i:Nat):List (List UInt8):=(List.range (s.count c+1)).map fun j=>if j<i then jE c s j else []
theorem qdW (c:UInt8) (s:List UInt8) (i:Nat):(kT c s i).length=s.count c+1:=by simp [kT]
theorem qk8 (c:UInt8) (s:List UInt8) {i:Nat} (hi:i<s.count c+1):(kT c s i).set i (jE c s i)=kT c s (i+1):=by
 apply List.ext_getElem
 ·simp [kT]
 ·intro j h1 h2
  simp only [kT,List.length_set,List.length_map,List.length_range]at h1
  rw [List.getElem_set]
  simp only [kT,List.getElem_map,List.getElem_range]
  by_cases e:i=j
  ·subst e;simp
  ·rw [if_neg e]
   by_cases e2:j<i
   ·rw [if_pos e2,if_pos (by omega)]
   ·rw [if_neg e2,if_neg (by omega)]
theorem qk7 (c:UInt8) (s:List UInt8):kT c s (s.count c+1)=jD c s:=by
 unfold kT jD
 apply List.map_congr_left
 intro j hj
 rw [if_pos (by simpa using hj)]
theorem qoz (L:List (List UInt8)) {i:Nat} (x:List UInt8) (hi:i<L.length):List.take i (jc L)++ [.str x]++List.drop (i+1) (jc L)=jc (L.set i x):=by
 unfold jc
 rw [List.map_set,List.set_eq_take_append_cons_drop,if_pos (by simpa using hi),List.append_assoc]
 rfl
theorem qgs (n:Nat):zc [.str []] n=jc (List.replicate n []):=by
 induction n with
 |zero=>rfl
 |succ n ih=>simp only [zc,ih,List.replicate_succ];rfl
theorem qg1 (c:UInt8) (s:List UInt8):List.replicate (s.count c+1) []=kT c s 0:=by
 apply List.ext_getElem
 ·simp [kT]
 ·intro j h1 h2;simp [kT]
set_option maxHeartbeats 4000000 in
theorem u78 (s:List UInt8) (c:UInt8) (h:List AObj) (hs:s.length≤1000000000):ACalls Tryz.prog 118 [.str s,.str [c],.int .i64 0,.int .i64 (-1)] h (strs (jD c s)) h:=by
 have c100:=fun h=>qz8 s c h
 have hcl:s.count c≤s.length:=List.count_le_length
 obtain ⟨N,hN⟩: ∃N,N=s.count c:=⟨_,rfl⟩
 have k1:((N:Int)+1≤(s.length:Int)+1)=True:=eq_true (by omega)
 have e1:min ((N:Int)+1) ((s.length:Int)+1)=(N:Int)+1:=by omega
 have e2:((N:Int)+1).toNat=N+1:=by omega
 have e3:zc [AV.str []] (N+1)=jc (kT c s 0):=by rw [qgs,←qg1,hN]
 have e4:((N:Int)+1-1)=N:=by omega
 simp only [←hN]at c100
 refine acO quq ?_
 simp (disch:=omega) only [qta,List.replicate,k1,e1,e2,e3,e4,go_sem]
 repeat' first
  |((first|refine cA (c100 _) ?_ ?_|refine cG (fun e=>c100 _) ?_ ?_|refine cU (fun _=>c100 _) ?_ ?_);(next=>exact flk);simp (disch:=omega) only [k1,e1,e2,e3,e4,go_sem])
  |((first|apply qd|apply qb);exact rvk;simp only [go_sem];first|exact VLe.refl _|apply qe|apply qa|apply qf|skip)
  |with_reducible first|apply And.intro|intro _
 all_goals try exact clz
 refine qv (T:=fun i:Nat=>qQ 66 [(0,.str (j6 c s i)),(1,.str [c]),(2,.int .i64 0),(3,.int .i64 N),(9,.osl (h.length+1) 1 1 0 (N+1)),(10,.int .i64 i)]) (H:=fun i=>h++ [.emp 1,.mem 1 9 (jc (kT c s i))])
  (inv:=fun i=>i≤N) (m:=fun i=>N-i) 0 (by omega) (Wk.temps ?_) ?_
 ·(simp only [j6,List.replicate,go_sem,qk,qi,qg,qj];try (repeat' first|(with_reducible apply And.intro)|(apply qe;omega)|(apply qa;rfl)|exact VLe.refl _))
 rintro i i1 K hK
 have eL:=jF (kT c s i)
 rw [qdW,←hN]at eL
 have hst:=qoz (kT c s i) (i:=i) (jE c s i) (by rw [qdW];omega)
 rw [qk8 c s (by omega)]at hst
 by_cases hi:i<N
 ·obtain ⟨r,hr⟩: ∃r,r=j6 c s i:=⟨_,rfl⟩
  have hcr:=qf4 c s i (by omega)
  rw [←hr]at hcr
  have hix:=qjD c r (by omega)
  have hlt:=qmF c r (by omega)
  have hrl:=qoc c s i
  rw [←hr]at hrl
  have hP:jE c s i=r.take (ke c r):=by unfold jE;rw [if_pos (by omega),←hr]
  have hR:j6 c s (i+1)=r.drop (ke c r+1):=by rw [hr];rfl
  obtain ⟨m,hm⟩: ∃m,m=ke c r:=⟨_,rfl⟩
  rw [←hm]at hix hlt hP hR
  have c101:=fun h=>qz9 r c h
  simp only [hix]at c101
  rw [hP]at hst
  simp (disch:=omega) only [qQ,List.foldl,List.replicate,hr.symm,eL,hst,go_sem]
  repeat' first
   |((first|refine cA (c101 _) ?_ ?_|refine cG (fun e=>c101 _) ?_ ?_|refine cU (fun _=>c101 _) ?_ ?_);(next=>exact flk);simp (disch:=omega) only [eL,hst,go_sem])
   |((first|apply qd|apply qb);exact rvk;simp only [go_sem];first|exact VLe.refl _|apply qe|apply qa|apply qf|skip)
   |with_reducible first|apply And.intro|intro _
  all_goals try exact clz
  have f1:(((m:Nat):Int)+0).toNat-0=m:=by omega
  have f2:(((m:Nat):Int)+((1:Nat):Int)).toNat=m+1:=by omega
  have f3:List.take (r.length-(m+1)) (List.drop (m+1) r)=j6 c s (i+1):=by rw [hR];exact List.take_of_length_le (by rw [List.length_drop];exact Nat.le_refl _)
  rw [f1,hst,f2,f3]
  refine hK _ _ (i+1) (by omega) (by omega) (Wk.temps ?_)
  (simp only [List.replicate,go_sem,qk,qi,qg,qj];try (repeat' first|(with_reducible apply And.intro)|(apply qe;omega)|(apply qa;rfl)|exact VLe.refl _))
 ·have e:i=N:=by omega
  subst e
  simp (disch:=omega) only [qQ,List.foldl,List.replicate,eL,hst,go_sem]
  repeat' first
   |((first|apply qd|apply qb);exact rvk;simp only [go_sem];first|exact VLe.refl _|apply qe|apply qa|apply qf|skip)
   |with_reducible first|apply And.intro|intro _
  all_goals try exact clz
  have hP:jE c s i=j6 c s i:=by unfold jE;rw [if_neg (by omega)]
  have f1:(((i:Nat):Int)+1).toNat-0=i+1:=by omega
  have hall:=qk7 c s
  rw [←hN]at hall
  rw [hP,hall]at hst
  rw [hst,f1,if_pos (by rw [jF,qaW];omega)]
  exact qsg (by rw [qaW];omega)
theorem qvl (L:List (List UInt8)):(strs L).flag=true:=rfl
theorem qwj (L:List (List UInt8)):(strs L).strip=strs L:=rfl
theorem u45 (s:List UInt8) (c:UInt8) (h:List AObj) (hs:s.length≤1000000000):ACalls Tryz.prog 44 [.str s,.str [c]] h (strs (jD c s)) h:=by
 have c78:=fun h=>u78 s c h hs
 refine acO qxM ?_
 simp (disch:=omega) only [qyS,List.replicate,qvl,qwj,go_sem]
 repeat' first
  |((first|refine cA (c78 _) ?_ ?_|refine cG (fun e=>c78 _) ?_ ?_|refine cU (fun _=>c78 _) ?_ ?_);(next=>exact flk);simp (disch:=omega) only [qvl,qwj,go_sem])
  |((first|apply qd|apply qb);exact rvk;simp only [go_sem];first|exact VLe.refl _|apply qe|apply qa|apply qf|skip)
  |with_reducible first|apply And.intro|intro _
 all_goals try exact clz
end HY
end
section
open Go Go.Proofs AF HY LN
namespace HY
def spl (cur:List UInt8):List UInt8→List (List UInt8)
 | []=> [cur]
 |c::r=>if c=32 then cur::spl [] r else spl (cur++ [c]) r
theorem qgE (s:List UInt8): ∀i,j6 32 s (i+1)=j6 32 (s.drop (ke 32 s+1)) i:=by
 intro i
 induction i with
 |zero=>rfl
 |succ i ih=>
  show (j6 32 s (i+1)).drop (ke 32 (j6 32 s (i+1))+1)=_
  rw [ih]
  rfl
theorem qeL {s:List UInt8} (h:0<s.count 32):jD 32 s=s.take (ke 32 s)::jD 32 (s.drop (ke 32 s+1)):=by
 have hc:=qdm 32 s h
 unfold jD
 rw [hc,List.range_succ_eq_map,List.map_cons,List.map_map]
 have e0:jE 32 s 0=s.take (ke 32 s):=by unfold jE;rw [if_pos h];rfl
 rw [e0,show s.count 32-1+1=s.count 32 by omega]
 congr 1
 refine List.map_congr_left (fun i _=> ?_)
 show jE 32 s (i+1)=_
 unfold jE
 rw [qgE,hc]
 by_cases hi:i+1<s.count 32
 ·rw [if_pos hi,if_pos (by omega)]
 ·rw [if_neg hi,if_neg (by omega)]
theorem qeM {s:List UInt8} (h:s.count 32=0):jD 32 s= [s]:=by
 unfold jD
 rw [h]
 show [jE 32 s 0]= [s]
 unfold jE
 rw [if_neg (by omega)]
 rfl
theorem qou: ∀(s cur:List UInt8),s.count 32=0→spl cur s= [cur++s]:=by
 intro s
 induction s with
 |nil=>intro cur _;simp [spl]
 |cons c r ih=>
  intro cur h
  unfold spl
  by_cases e:c=32
  ·subst e;simp at h
  ·rw [if_neg e]
   rw [List.count_cons,if_neg (by simpa using e)]at h
   rw [ih _ (by omega)]
   simp
theorem qov: ∀(s cur:List UInt8),0<s.count 32→spl cur s=(cur++s.take (ke 32 s))::spl [] (s.drop (ke 32 s+1)):=by
 intro s
 induction s with
 |nil=>intro cur h;simp at h
 |cons c r ih=>
  intro cur h
  conv=>lhs;unfold spl
  rw [ky]
  by_cases e:c=32
  ·subst e;simp
  ·rw [if_neg e,if_neg e]
   rw [List.count_cons,if_neg (by simpa using e)]at h
   rw [ih _ (by omega)]
   simp
theorem qgZ: ∀(n:Nat) (s:List UInt8),s.length≤n→spl [] s=jD 32 s:=by
 intro n
 induction n with
 |zero=>
  intro s h
  have:s= []:=List.eq_nil_of_length_eq_zero (by omega)
  subst this
  rfl
 |succ n ih=>
  intro s h
  by_cases hc:0<s.count 32
  ·rw [qov s [] hc,qeL hc,ih _ (by rw [List.length_drop];omega)]
   rfl
  ·rw [qou s [] (by omega),qeM (by omega)]
   rfl
end HY
namespace RC
theorem qse {x:Str} (hx:x≠ []): ∀(s cur:Str),x∈spl cur s↔x∈qnX cur s:=by
 intro s
 induction s with
 |nil=>
  intro cur
  unfold spl qnX
  split
  ·rename_i e;subst e;simp [hx]
  ·rfl
 |cons c r ih=>
  intro cur
  unfold spl qnX
  split
  ·rw [List.mem_cons,List.mem_append,ih]
   split
   ·rename_i e;subst e;simp [hx]
   ·rw [List.mem_singleton]
  ·exact ih _
theorem qep (x s:Str):qcE x s=(decide (x≠ [])&&decide (x∈jD 32 s)):=by
 unfold qcE
 by_cases hx:x= []
 ·subst hx
  rw [decide_eq_false (qvT s [])]
  rfl
 ·rw [decide_eq_true hx,Bool.true_and]
  refine decide_eq_decide.2 ?_
  rw [←qgZ s.length s (Nat.le_refl _),qse hx]
end RC
end
section
open Go Go.Proofs AF HY LN
namespace RC
set_option maxHeartbeats 16000000
theorem qma (L:List Str) (x:Str):zr (fun j=>decide (x=L.getD j [])) L.length=decide (x∈L):=by
 by_cases h:x∈L
 ·rw [decide_eq_true h,qM]
  obtain ⟨j,hj,e⟩:=List.getElem_of_mem h
  exact ⟨j,hj,decide_eq_true (by rw [gdqA,zM hj];exact e.symm)⟩
 ·rw [decide_eq_false h,qq]
  intro j hj
  refine decide_eq_false fun e=>h ?_
  rw [e,gdqA,zM hj]
  exact List.getElem_mem hj
theorem ctS (L:List Str) (x:Str) (h:List AObj) (hn:L.length≤1000000000):ACalls Tryz.prog 43 [strs L,.str x] h (.bool (decide (x∈L))) h:=by
 rw [←qma]
 exact qmE L.length (fun j=>L.getD j []) x h hn
theorem lyP (lay:List Str) (cls:Str) (h:List AObj) (hl:lay.length≤1000000000) (hs: ∀i,(lay.getD i []).length≤100000000):ACalls Tryz.prog 27 [strs lay,.str cls] h (.tup [.int .i64 (lyR lay cls),.int .i64 (lyE lay)]) h:=by
 obtain ⟨R,hR⟩: ∃R,R=lyR lay cls:=⟨_,rfl⟩
 obtain ⟨E,hE⟩: ∃E,E=lyE lay:=⟨_,rfl⟩
 rw [←hR,←hE]
 unfold lyR at hR
 rw [←hE]at hR
 unfold lyE at hE
 by_cases g1:lay.length=0
 ·have k1:((lay.length:Int)=0)=True:=eq_true (by omega)
  rw [if_pos g1]at hE
  rw [hR,hE]
  refine acO qq6 ?_
  simp (disch:=omega) only [qxe,List.replicate,strs,k1,go_sem]
  repeat' first
   |((first|apply qd|apply qb);exact rvk;simp only [go_sem];first|exact VLe.refl _|apply qe|apply qa|apply qf|skip)
   |with_reducible first|apply And.intro|intro _
  all_goals try exact clz
 have k1:((lay.length:Int)=0)=False:=eq_false (by omega)
 rw [if_neg g1]at hE
 by_cases g2:16<lay.length
 ·have k2:((16:Int)<lay.length)=True:=eq_true (by omega)
  rw [if_pos g2]at hE
  rw [hR,hE]
  refine acO qq6 ?_
  simp (disch:=omega) only [qxe,List.replicate,strs,k1,k2,go_sem]
  repeat' first
   |((first|apply qd|apply qb);exact rvk;simp only [go_sem];first|exact VLe.refl _|apply qe|apply qa|apply qf|skip)
   |with_reducible first|apply And.intro|intro _
  all_goals try exact clz
 have k2:((16:Int)<lay.length)=False:=eq_false (by omega)
 rw [if_neg g2]at hE
 rw [hE,if_pos rfl]at hR
 rw [hE]
 unfold lyN at hR
 refine acO qq6 ?_
 simp (disch:=omega) only [qxe,List.replicate,strs,k1,k2,go_sem]
 repeat' first
  |((first|apply qd|apply qb);exact rvk;simp only [go_sem];first|exact VLe.refl _|apply qe|apply qa|apply qf|skip)
  |with_reducible first|apply And.intro|intro _
 all_goals try exact clz
 refine qv (T:=fun i:Nat=>qQ 37 [(0,strs lay),(1,.str cls),(17,strs lay),(18,.int .i64 lay.length),(19,.int .i64 i)]) (H:=fun _=>h) (inv:=fun i=>i≤lay.length∧ ∀j,j<i→qcE cls (lay.getD j [])=false) (m:=fun i=>lay.length-i) 0 ⟨Nat.zero_le _,fun j hj=>absurd hj (Nat.not_lt_zero j)⟩ (Wk.temps ?_) ?_
 ·(simp only [strs,List.replicate,go_sem,qk,qi,qg,qj];try (repeat' first|(with_reducible apply And.intro)|(apply qe;omega)|(apply qa;rfl)|exact VLe.refl _))
 rintro i ⟨i1,i2⟩ K hK
 by_cases hi:i<lay.length
 ·have k3:((i:Int)<lay.length)=True:=eq_true (by omega)
  have hH:=fun h=>kA (p:=fun i=>qcE cls (lay.getD i [])) hi i2 h
  have hS:qcE cls (lay.getD i [])=false→ ∀j,j<i+1→qcE cls (lay.getD j [])=false:=fun hx j hj=>by
   by_cases e:j=i
   ·subst e;exact hx
   ·exact i2 j (by omega)
  have hsp:=qep cls (lay.getD i [])
  have hsi:=hs i
  obtain ⟨s,hsx⟩: ∃s,s=lay.getD i []:=⟨_,rfl⟩
  have es:=hsx.symm
  rw [es]at hsp hS hsi
  simp only [es]at hH
  have c1:=fun h=>u45 s 32 h (by omega)
  have hcl:=List.count_le_length (a:=(32:UInt8)) (l:=s)
  have hll:=qaW 32 s
  obtain ⟨P,hP⟩: ∃P,P=jD 32 s:=⟨_,rfl⟩
  rw [←hP]at hsp hll
  simp only [←hP]at c1
  have c2:=fun h=>ctS P cls h (by omega)
  unfold strs at c1 c2
  obtain ⟨b,hb⟩: ∃b,b=decide (cls∈P):=⟨_,rfl⟩
  rw [←hb]at hsp
  simp only [←hb]at c2
  by_cases g3:cls= []
  ·have q1:(cls= [])=True:=eq_true g3
   rw [decide_eq_false (fun h=>h g3),Bool.false_and]at hsp
   cases b
   all_goals
    simp (disch:=omega) only [List.replicate,strs,k3,es,q1,go_sem]
    repeat' first
     |((first|refine cA (c1 _) ?_ ?_|refine cG (fun e=>c1 _) ?_ ?_|refine cA (c2 _) ?_ ?_|refine cG (fun e=>c2 _) ?_ ?_|refine cU (fun _=>c1 _) ?_ ?_|refine cU (fun _=>c2 _) ?_ ?_);(next=>exact flk);simp (disch:=omega) only [strs,k3,es,q1,go_sem])
     |((first|apply qd|apply qb);exact rvk;simp only [go_sem];first|exact VLe.refl _|apply qe|apply qa|apply qf|skip)
     |with_reducible first|apply And.intro|intro _
    all_goals try exact clz
    refine hK _ _ (i+1) ⟨hi,hS hsp⟩ (by omega) (Wk.temps ?_)
    (simp only [strs,List.replicate,go_sem,qk,qi,qg,qj];try (repeat' first|(with_reducible apply And.intro)|(apply qe;omega)|(apply qa;rfl)|exact VLe.refl _))
  have q1:(cls= [])=False:=eq_false g3
  rw [decide_eq_true (show cls≠ []from g3),Bool.true_and]at hsp
  cases b with
  |false=>
   simp (disch:=omega) only [List.replicate,strs,k3,es,q1,go_sem]
   repeat' first
    |((first|refine cA (c1 _) ?_ ?_|refine cG (fun e=>c1 _) ?_ ?_|refine cA (c2 _) ?_ ?_|refine cG (fun e=>c2 _) ?_ ?_|refine cU (fun _=>c1 _) ?_ ?_|refine cU (fun _=>c2 _) ?_ ?_);(next=>exact flk);simp (disch:=omega) only [strs,k3,es,q1,go_sem])
    |((first|apply qd|apply qb);exact rvk;simp only [go_sem];first|exact VLe.refl _|apply qe|apply qa|apply qf|skip)
    |with_reducible first|apply And.intro|intro _
   all_goals try exact clz
   refine hK _ _ (i+1) ⟨hi,hS hsp⟩ (by omega) (Wk.temps ?_)
   (simp only [strs,List.replicate,go_sem,qk,qi,qg,qj];try (repeat' first|(with_reducible apply And.intro)|(apply qe;omega)|(apply qa;rfl)|exact VLe.refl _))
  |true=>
   have e1:=hH hsp
   rw [e1,if_neg (by omega)]at hR
   rw [hR]
   simp (disch:=omega) only [List.replicate,strs,k3,es,q1,go_sem]
   repeat' first
    |((first|refine cA (c1 _) ?_ ?_|refine cG (fun e=>c1 _) ?_ ?_|refine cA (c2 _) ?_ ?_|refine cG (fun e=>c2 _) ?_ ?_|refine cU (fun _=>c1 _) ?_ ?_|refine cU (fun _=>c2 _) ?_ ?_);(next=>exact flk);simp (disch:=omega) only [strs,k3,es,q1,go_sem])
    |((first|apply qd|apply qb);exact rvk;simp only [go_sem];first|exact VLe.refl _|apply qe|apply qa|apply qf|skip)
    |with_reducible first|apply And.intro|intro _
   all_goals try exact clz
 ·have k3:((i:Int)<lay.length)=False:=eq_false (by omega)
  have e1:kS (fun i=>qcE cls (lay.getD i [])) lay.length 0= -1:=kp fun j hj=>i2 j (by omega)
  rw [e1,if_pos (by decide)]at hR
  rw [hR]
  simp (disch:=omega) only [List.replicate,strs,k3,go_sem]
  repeat' first
   |((first|apply qd|apply qb);exact rvk;simp only [go_sem];first|exact VLe.refl _|apply qe|apply qa|apply qf|skip)
   |with_reducible first|apply And.intro|intro _
  all_goals try exact clz
theorem sp1 (w:Wd) (u:Int) (h:List AObj):ACalls Tryz.prog 105 [.agg (wdC w),.ip [.int .i64 u]] h (.bool (decide (w.unit=u))) h:=by
 refine acO qun ?_
 simp (disch:=omega) only [qs9,List.replicate,wdC,go_sem]
 repeat' first
  |((first|apply qd|apply qb);exact rvk;simp only [go_sem];first|exact VLe.refl _|apply qe|apply qa|apply qf|skip)
  |with_reducible first|apply And.intro|intro _
 all_goals try exact clz
theorem qy8 (w:Wd) (u:Int) (k v:Nat) (h:List AObj) (hk:qy k h=some (.mem v 3 [.int .i64 u])):ACalls Tryz.prog 105 [.agg (wdC w),.op k v 0] h (.bool (decide (w.unit=u))) h:=by
 have hc:=qX hk
 refine ACalls.borrow ?_ rfl
 have e:([AV.agg (wdC w),AV.op k v 0]).map (rei (fun _=>true) h 8)= [.agg (wdC w),.ip [.int .i64 u]]:=by
  simp only [List.map_cons,List.map_nil,rei_op,if_true,hc,ipOf_some,List.drop_zero,rei_agg]
  rfl
 rw [e]
 exact sp1 _ u _
theorem qy1 (n:Nat) (g:Nat→Wd) (u:Int) (k v:Nat) (h:List AObj) (hk:qy k h=some (.mem v 3 [.int .i64 u])) (hn:n≤1000000000):
  ACalls Tryz.prog 106 [.sl n (fun j=>wdC (g j)),.fn (.func 105) [] [.op k v 0]] h (.int .i64 (kS (fun j=>decide ((g j).unit=u)) n 0)) h:=by
 refine qcD qpg n (fun j=>wdC (g j)) (fun j=> .agg (wdC (g j))) _ [] [.op k v 0] _ h (fun i _=>⟨rfl,by simp [z7,wdC],rfl,rfl,rfl⟩) (fun i _=> ?_) (by omega)
 rw [List.nil_append]
 exact qy8 _ u k v h hk
theorem qzt (n:Nat) (g:Nat→Wd) (u:Int) (k v:Nat) (h:List AObj) (hk:qy k h=some (.mem v 3 [.int .i64 u])) (hn:n≤1000000000):
  ACalls Tryz.prog 92 [.sl n (fun j=>wdC (g j)),.fn (.func 105) [] [.op k v 0]] h (.bool (zr (fun j=>decide ((g j).unit=u)) n)) h:=
 qqA qvi ⟨rfl,rfl⟩ ⟨rfl,rfl⟩ (qy1 n g u k v h hk hn)
theorem qin {q:Nat→Bool} {n f t:Nat} (hf:f≤t) (ht:t≤n) (h1: ∀j,f≤j→j<t→q j=true) (h2:t<n→q t=false):qb7 q n f=t:=by
 obtain ⟨b1,b2,b3,b4⟩:=qdg q (n:=n) (f:=f) (by omega)
 rcases Nat.lt_trichotomy (qb7 q n f) t with h|h|h
 ·have:=b4 (by omega)
  rw [h1 _ b1 h]at this
  cases this
 ·exact h
 ·have:=b3 t hf h
  rw [h2 (by omega)]at this
  cases this
theorem qp5 {q:Nat→Bool} {n f t:Nat} (ht:qb7 q n f=t) (htn:t≤n):qlU q n f=zr (fun j=>q (t+j)) (n-t):=by
 unfold qlU
 rw [ht]
 cases e:zr (fun j=>q (t+j)) (n-t)with
 |true=>
  obtain ⟨j,hj,hq⟩:=qM.1 e
  exact qM.2 ⟨t+j,by omega,by rw [hq,decide_eq_true (by omega)];rfl⟩
 |false=>
  refine qq.2 fun i hi=> ?_
  by_cases g:t≤i
  ·have:=qq.1 e (i-t) (by omega)
   rw [show t+(i-t)=i by omega]at this
   rw [this,Bool.and_false]
  ·rw [decide_eq_false g,Bool.false_and]
theorem qy9 (b:List Wd) (u:Int) (h:List AObj) (hn:b.length≤1000000000):ACalls Tryz.prog 31 [qN b,.int .i64 u] h (.tup [.int .i64 (qlX (inU b u) b.length),.int .i64 (qlY (inU b u) b.length),.int .i64 (qcW (inU b u) b.length)]) h:=by
 have c1:=qy1 b.length (fun j=>b.getD j default) u h.length 1 (h++ [.mem 1 3 [.int .i64 u]]) (by rw [getO_app0];rfl) hn
 have ei:kS (fun j=>decide ((b.getD j default).unit=u)) b.length 0=kS (inU b u) b.length 0:=rfl
 rw [ei]at c1
 unfold qlX qlY
 unfold qcW
 rcases zG (inU b u) b.length with ⟨f,f1,f2,_,f4⟩|⟨f1,f2⟩
 case inr=>
  rw [f2]at c1 ⊢
  simp only [show ((-1:Int)<0)=True from eq_true (by decide),if_true,show ((6:Int)=0)=False from eq_false (by decide),if_false]
  refine acO qvf ?_
  simp (disch:=omega) only [qxt,List.replicate,qN,go_sem]
  repeat' first
   |((first|refine cA (c1) ?_ ?_|refine cG (fun e=>c1) ?_ ?_);(next=>exact flk);simp (disch:=omega) only [qN,go_sem])
   |((first|apply qd|apply qb);exact rvk;simp only [go_sem];first|exact VLe.refl _|apply qe|apply qa|apply qf|skip)
   |with_reducible first|apply And.intro|intro _
  all_goals try exact clz
 rw [f4]at c1 ⊢
 have k1:((f:Int)<0)=False:=eq_false (by omega)
 simp only [k1,if_false,Int.toNat_natCast]
 refine acO qvf ?_
 simp (disch:=omega) only [qxt,List.replicate,qN,k1,go_sem]
 repeat' first
  |((first|refine cA (c1) ?_ ?_|refine cG (fun e=>c1) ?_ ?_);(next=>exact flk);simp (disch:=omega) only [qN,k1,go_sem])
  |((first|apply qd|apply qb);exact rvk;simp only [go_sem];first|exact VLe.refl _|apply qe|apply qa|apply qf|skip)
  |with_reducible first|apply And.intro|intro _
 all_goals try exact clz
 refine qv (T:=fun t:Nat=>qQ 38 [(0,qN b),(7,.fn (.func 105) [] [.op h.length 1 0]),(8,.int .i64 f),(9,.int .i64 t)]) (H:=fun _=>h++ [.mem 1 3 [.int .i64 u]]) (inv:=fun t=>f≤t∧t≤b.length∧ ∀j,f≤j→j<t→inU b u j=true) (m:=fun t=>b.length-t) f ⟨Nat.le_refl _,by omega,fun j h1 h2=>by omega⟩ (Wk.temps ?_) ?_
 ·(simp only [qN,List.replicate,go_sem,qk,qi,qg,qj];try (repeat' first|(with_reducible apply And.intro)|(apply qe;omega)|(apply qa;rfl)|exact VLe.refl _))
 rintro t ⟨t1,t2,t3⟩ K hK
 have hex:(t<b.length→inU b u t=false)→qb7 (inU b u) b.length f=t:=fun hx=>qin t1 t2 t3 hx
 have kt:((t:Int)≤b.length)=True:=eq_true (by omega)
 have c3:=qzt (b.length-t) (fun j=>b.getD (t+j) default) u h.length 1 (h++ [.mem 1 3 [.int .i64 u]]) (by rw [getO_app0];rfl) (by omega)
 have eb:zr (fun j=>decide ((b.getD (t+j) default).unit=u)) (b.length-t)=zr (fun j=>inU b u (t+j)) (b.length-t):=rfl
 rw [eb]at c3
 have hbe:(t<b.length→inU b u t=false)→qlU (inU b u) b.length f=zr (fun j=>inU b u (t+j)) (b.length-t):=fun hx=>qp5 (hex hx) t2
 obtain ⟨B,hB⟩: ∃B,B=zr (fun j=>inU b u (t+j)) (b.length-t):=⟨_,rfl⟩
 rw [←hB]at c3 hbe
 have c2:=qy8 (b.getD t default) u h.length 1 (h++ [.mem 1 3 [.int .i64 u]]) (by rw [getO_app0];rfl)
 have ed:decide ((b.getD t default).unit=u)=inU b u t:=rfl
 rw [ed]at c2
 by_cases ht:t<b.length
 ·have k2:((t:Int)<b.length)=True:=eq_true (by omega)
  obtain ⟨w,hw⟩: ∃w,w=b.getD t default:=⟨_,rfl⟩
  have ew:=hw.symm
  rw [ew]at c2
  unfold wdC at c2
  cases g:inU b u t with
  |true=>
   rw [g]at c2
   simp (disch:=omega) only [List.replicate,qN,wdC,k2,ew,go_sem]
   repeat' first
    |(refine qx (c2) ?_;simp (disch:=omega) only [qN,wdC,k2,ew,go_sem])
    |((first|apply qd|apply qb);exact rvk;simp only [go_sem];first|exact VLe.refl _|apply qe|apply qa|apply qf|skip)
    |with_reducible first|apply And.intro|intro _
   all_goals try exact clz
   refine hK _ _ (t+1) ⟨by omega,ht,fun j h1 h2=> ?_⟩ (by omega) (Wk.temps ?_)
   ·by_cases e:j=t
    ·subst e;exact g
    ·exact t3 j h1 (by omega)
   ·(simp only [qN,List.replicate,go_sem,qk,qi,qg,qj];try (repeat' first|(with_reducible apply And.intro)|(apply qe;omega)|(apply qa;rfl)|exact VLe.refl _))
  |false=>
   rw [g]at c2
   have e1:=hex fun _=>g
   have e2:=hbe fun _=>g
   simp only [e1,e2]
   unfold wdC at c3
   cases B with
   |true=>
    simp only [if_true,show ((10:Int)=0)=False from eq_false (by decide),if_false]
    simp (disch:=omega) only [List.replicate,qN,wdC,k2,ew,k1,kt,go_sem]
    repeat' first
     |(refine qx (c2) ?_;simp (disch:=omega) only [qN,wdC,k1,k2,kt,ew,go_sem])
     |((first|refine cA (c3) ?_ ?_|refine cG (fun e=>c3) ?_ ?_);(next=>exact flk);simp (disch:=omega) only [qN,wdC,k1,k2,kt,ew,go_sem])
     |((first|apply qd|apply qb);exact rvk;simp only [go_sem];first|exact VLe.refl _|apply qe|apply qa|apply qf|skip)
     |with_reducible first|apply And.intro|intro _
    all_goals try exact clz
   |false=>
    simp only [Bool.false_eq_true,if_false,if_true]
    simp (disch:=omega) only [List.replicate,qN,wdC,k2,ew,k1,kt,go_sem]
    repeat' first
     |(refine qx (c2) ?_;simp (disch:=omega) only [qN,wdC,k1,k2,kt,ew,go_sem])
     |((first|refine cA (c3) ?_ ?_|refine cG (fun e=>c3) ?_ ?_);(next=>exact flk);simp (disch:=omega) only [qN,wdC,k1,k2,kt,ew,go_sem])
     |((first|apply qd|apply qb);exact rvk;simp only [go_sem];first|exact VLe.refl _|apply qe|apply qa|apply qf|skip)
     |with_reducible first|apply And.intro|intro _
    all_goals try exact clz
 ·have k2:((t:Int)<b.length)=False:=eq_false (by omega)
  have e1:=hex fun hx=>absurd hx ht
  have e2:=hbe fun hx=>absurd hx ht
  simp only [e1,e2]
  unfold wdC at c3
  cases B with
  |true=>
   simp only [if_true,show ((10:Int)=0)=False from eq_false (by decide),if_false]
   simp (disch:=omega) only [List.replicate,qN,wdC,k2,k1,kt,go_sem]
   repeat' first
    |((first|refine cA (c3) ?_ ?_|refine cG (fun e=>c3) ?_ ?_);(next=>exact flk);simp (disch:=omega) only [qN,wdC,k1,k2,kt,go_sem])
    |((first|apply qd|apply qb);exact rvk;simp only [go_sem];first|exact VLe.refl _|apply qe|apply qa|apply qf|skip)
    |with_reducible first|apply And.intro|intro _
   all_goals try exact clz
  |false=>
   simp only [Bool.false_eq_true,if_false,if_true]
   simp (disch:=omega) only [List.replicate,qN,wdC,k2,k1,kt,go_sem]
   repeat' first
    |((first|refine cA (c3) ?_ ?_|refine cG (fun e=>c3) ?_ ?_);(next=>exact flk);simp (disch:=omega) only [qN,wdC,k1,k2,kt,go_sem])
    |((first|apply qd|apply qb);exact rvk;simp only [go_sem];first|exact VLe.refl _|apply qe|apply qa|apply qf|skip)
    |with_reducible first|apply And.intro|intro _
   all_goals try exact clz
def spF (b:List Wd) (k:Int) (c:Int):Int:=if qcW (inU b k) b.length=0 then qlX (inU b k) b.length else (cP (bfU b c) b.length:Int)
def spT (b:List Wd) (k:Int) (c:Int):Int:=if qcW (inU b k) b.length=0 then qlY (inU b k) b.length else (cP (bfU b c) b.length:Int)
theorem qyh (b:List Wd) (k:Int) (u:Un) (h:List AObj) (hn:b.length≤1000000000):ACalls Tryz.prog 160 [qN b,.int .i64 k,.agg (unC u)] h (.tup [.int .i64 (spF b k u.frm),.int .i64 (spT b k u.frm)]) h:=by
 have c1:=fun h=>qy9 b k h hn
 unfold spF spT
 obtain ⟨F,hF⟩: ∃F,F=qlX (inU b k) b.length:=⟨_,rfl⟩
 obtain ⟨T,hT⟩: ∃T,T=qlY (inU b k) b.length:=⟨_,rfl⟩
 obtain ⟨E,hE⟩: ∃E,E=qcW (inU b k) b.length:=⟨_,rfl⟩
 simp only [←hF,←hT,←hE]at c1 ⊢
 by_cases g:E=0
 ·have k1:(E=0)=True:=eq_true g
  simp only [k1,if_true]
  unfold qN at c1
  refine acO qpo ?_
  simp (disch:=omega) only [qqe,List.replicate,qN,unC,k1,go_sem]
  repeat' first
   |((first|refine cA (c1 _) ?_ ?_|refine cG (fun e=>c1 _) ?_ ?_|refine cU (fun _=>c1 _) ?_ ?_);(next=>exact flk);simp (disch:=omega) only [qN,unC,k1,go_sem])
   |((first|apply qd|apply qb);exact rvk;simp only [go_sem];first|exact VLe.refl _|apply qe|apply qa|apply qf|skip)
   |with_reducible first|apply And.intro|intro _
  all_goals try exact clz
 have k1:(E=0)=False:=eq_false g
 simp only [k1,if_false]
 unfold qN at c1
 refine acO qpo ?_
 simp (disch:=omega) only [qqe,List.replicate,qN,unC,k1,go_sem]
 repeat' first
  |((first|refine cA (c1 _) ?_ ?_|refine cG (fun e=>c1 _) ?_ ?_|refine cU (fun _=>c1 _) ?_ ?_);(next=>exact flk);simp (disch:=omega) only [qN,unC,k1,go_sem])
  |((first|apply qd|apply qb);exact rvk;simp only [go_sem];first|exact VLe.refl _|apply qe|apply qa|apply qf|skip)
  |with_reducible first|apply And.intro|intro _
 all_goals try exact clz
 have hle:=qmq (bfU b u.frm)
 have hst: ∀n,cP (bfU b u.frm) (n+1)=cP (bfU b u.frm) n+if bfU b u.frm n=true then 1 else 0:=fun _=>rfl
 refine qv (T:=fun i:Nat×AObj=>qQ 41 [(5,.op h.length 1 0),(11,.int .i64 (cP (bfU b u.frm) i.1:Int)),(25,qN b),(26,.int .i64 b.length),(27,.int .i64 i.1)]) (H:=fun i=>h++ [.mem 1 83 (unC u),i.2]) (inv:=fun i=>i.1≤b.length∧qE [i.2] 0=true) (m:=fun i=>b.length-i.1) (0,.emp 0) ⟨Nat.zero_le _,rfl⟩ (Wk.temps ?_) ?_
 ·(simp only [qN,cP,List.replicate,go_sem,qk,qi,qg,qj];try (repeat' first|(with_reducible apply And.intro)|(apply qe;omega)|(apply qa;rfl)|exact VLe.refl _))
 rintro ⟨i,O⟩ ⟨i1,i2⟩ K hK
 simp only at i1 i2 hK
 have i2': ∀m,qE (O::m) 0=true:=fun _=>i2
 have hle:=hle i
 have hst:=hst i
 have hb:bfU b u.frm i=decide ((b.getD i default).col<u.frm):=rfl
 obtain ⟨c,hc⟩: ∃c,c=cP (bfU b u.frm) i:=⟨_,rfl⟩
 have ec:=hc.symm
 rw [ec]at hle hst
 by_cases hi:i<b.length
 ·have k2:((i:Int)<b.length)=True:=eq_true (by omega)
  obtain ⟨w,hw⟩: ∃w,w=b.getD i default:=⟨_,rfl⟩
  have ew:=hw.symm
  rw [ew]at hb
  by_cases g2:w.col<u.frm
  ·have k3:(w.col<u.frm)=True:=eq_true g2
   rw [hb,decide_eq_true g2,if_pos rfl]at hst
   simp (disch:=omega) only [List.replicate,qN,wdC,unC,k2,ec,ew,i2',k3,go_sem]
   repeat' first
    |((first|apply qd|apply qb);exact rvk;simp only [go_sem];first|exact VLe.refl _|apply qe|apply qa|apply qf|skip)
    |with_reducible first|apply And.intro|intro _
   all_goals try exact clz
   refine hK _ _ (i+1,.mem (qr (some O)+1) 64 (wdC w)) ⟨hi,rfl⟩ (by simp only;omega) ?_
   simp only [hst]
   refine Wk.temps ?_
   (simp only [qN,List.replicate,go_sem,qk,qi,qg,qj];try (repeat' first|(with_reducible apply And.intro)|(apply qe;omega)|(apply qa;rfl)|exact VLe.refl _))
  ·have k3:(w.col<u.frm)=False:=eq_false g2
   rw [hb,decide_eq_false g2,if_neg (by simp),Nat.add_zero]at hst
   simp (disch:=omega) only [List.replicate,qN,wdC,unC,k2,ec,ew,i2',k3,go_sem]
   repeat' first
    |((first|apply qd|apply qb);exact rvk;simp only [go_sem];first|exact VLe.refl _|apply qe|apply qa|apply qf|skip)
    |with_reducible first|apply And.intro|intro _
   all_goals try exact clz
   refine hK _ _ (i+1,.mem (qr (some O)+1) 64 (wdC w)) ⟨hi,rfl⟩ (by simp only;omega) ?_
   simp only [hst]
   refine Wk.temps ?_
   (simp only [qN,List.replicate,go_sem,qk,qi,qg,qj];try (repeat' first|(with_reducible apply And.intro)|(apply qe;omega)|(apply qa;rfl)|exact VLe.refl _))
 ·have k2:((i:Int)<b.length)=False:=eq_false (by omega)
  obtain rfl:i=b.length:=by omega
  rw [ec]
  simp (disch:=omega) only [List.replicate,qN,k2,ec,go_sem]
  repeat' first
   |((first|apply qd|apply qb);exact rvk;simp only [go_sem];first|exact VLe.refl _|apply qe|apply qa|apply qf|skip)
   |with_reducible first|apply And.intro|intro _
  all_goals try exact clz
end RC
end
section
open Go Go.Proofs AF HY LN
namespace RC
theorem qcx (q:Nat→Bool) (a:Nat): ∀d,cP q a≤cP q (a+d)∧cP q (a+d)≤cP q a+d:=by
 intro d
 induction d with
 |zero=>exact ⟨Nat.le_refl _,Nat.le_refl _⟩
 |succ d ih=>
  have e:cP q (a+(d+1))=cP q (a+d)+if q (a+d)=true then 1 else 0:=rfl
  rw [e]
  split<;>omega
theorem qix {q:Nat→Bool} {a:Nat}: ∀ {d:Nat},(∀j,a≤j→j<a+d→q j=false)→cP q (a+d)=cP q a:=by
 intro d
 induction d with
 |zero=>intro _;rfl
 |succ d ih=>
  intro h
  have e:cP q (a+(d+1))=cP q (a+d)+if q (a+d)=true then 1 else 0:=rfl
  rw [e,ih fun j h1 h2=>h j h1 (by omega),h (a+d) (by omega) (by omega)]
  rfl
theorem qes (q:Nat→Bool): ∀n,(zA q n).length=cP q n:=by
 intro n
 induction n with
 |zero=>rfl
 |succ n ih=>
  rw [zY,List.length_append,ih]
  show _=cP q n+if q n=true then 1 else 0
  split<;>rfl
theorem qnr {q:Nat→Bool} {f:Nat} (h0: ∀i,i<f→q i=false) (hq:q f=true): ∀d,(zA q (f+1+d)).getD 0 0=f:=by
 have hz: ∀j,j≤f→zA q j= []:=by
  intro j
  induction j with
  |zero=>intro _;rfl
  |succ j ih=>
   intro hj
   rw [zY,ih (by omega),h0 j (by omega)]
   rfl
 intro d
 induction d with
 |zero=>
  rw [Nat.add_zero,zY,hz f (Nat.le_refl _),if_pos hq]
  rfl
 |succ d ih=>
  have hl:0<(zA q (f+1+d)).length:=by
   rw [qes]
   have h1:=(qcx q (f+1) d).1
   have e:cP q (f+1)=cP q f+if q f=true then 1 else 0:=rfl
   rw [e,if_pos hq]at h1
   omega
  rw [←Nat.add_assoc,zY,gdqA,List.getElem?_append_left hl,←gdqA]
  exact ih
theorem qns (q:Nat→Bool): ∀n,0<(zA q n).length→ ∃m,m<n∧q m=true∧(∀j,m<j→j<n→q j=false)∧(zA q n).getD ((zA q n).length-1) 0=m:=by
 intro n
 induction n with
 |zero=>intro h;exact absurd h (Nat.not_lt_zero _)
 |succ n ih=>
  intro h
  rw [zY]at h ⊢
  cases hq:q n with
  |true=>
   rw [if_pos rfl]
   refine ⟨n,by omega,hq,fun j h1 h2=>by omega,?_⟩
   rw [List.length_append,List.length_singleton,Nat.add_sub_cancel,gdqA,List.getElem?_append_right (Nat.le_refl _),Nat.sub_self]
   rfl
  |false=>
   rw [hq,if_neg (by simp),List.append_nil]at h
   rw [if_neg (by simp),List.append_nil]
   obtain ⟨m,h1,h2,h3,h4⟩:=ih h
   refine ⟨m,by omega,h2,fun j g1 g2=> ?_,h4⟩
   by_cases e:j=n
   ·subst e;exact hq
   ·exact h3 j g1 (by omega)
theorem qwh (q:Nat→Bool) (n:Nat):((zA q n).length=0→qcW q n=6)∧
  (0<(zA q n).length→((zA q n).getD ((zA q n).length-1) 0-(zA q n).getD 0 0≠((zA q n).length:Int)-1→qcW q n=10)∧
   ((zA q n).getD ((zA q n).length-1) 0-(zA q n).getD 0 0=((zA q n).length:Int)-1→qcW q n=0∧qlX q n=(zA q n).getD 0 0∧qlY q n=(zA q n).getD ((zA q n).length-1) 0+1)):=by
 rcases zG q n with ⟨f,f1,f2,f3,f4⟩|⟨f1,f2⟩
 case inr=>
  have hl:(zA q n).length=0:=by
   have:=qix (q:=q) (a:=0) (d:=n) fun j _ hj=>f1 j (by omega)
   rw [qes]
   rw [Nat.zero_add]at this
   rw [this]
   rfl
  refine ⟨fun _=> ?_,fun h=>by omega⟩
  unfold qcW
  rw [f2]
  rfl
 have hfst:(zA q n).getD 0 0=f:=by
  have:=qnr f3 f2 (n-(f+1))
  rwa [show f+1+(n-(f+1))=n by omega]at this
 have hcp:=qes q n
 have hpos:0<(zA q n).length:=by
  rw [hcp]
  have h1:=(qcx q (f+1) (n-(f+1))).1
  rw [show f+1+(n-(f+1))=n by omega]at h1
  have e:cP q (f+1)=cP q f+if q f=true then 1 else 0:=rfl
  rw [e,if_pos f2]at h1
  omega
 obtain ⟨m,m1,m2,m3,m4⟩:=qns q n hpos
 rw [hfst,m4,hcp]at*
 refine ⟨fun h=>by omega,fun _=> ?_⟩
 obtain ⟨b1,b2,b3,b4⟩:=qdg q (n:=n) (f:=f) (by omega)
 have hft:f<qb7 q n f:=by
  rcases Nat.lt_or_ge f (qb7 q n f)with h|h
  ·exact h
  ·have e:qb7 q n f=f:=by omega
   have:=b4 (by omega)
   rw [e,f2]at this
   cases this
 have hE:qcW q n=if qlU q n f=true then 10 else 0:=by
  unfold qcW
  rw [f4,if_neg (by omega),Int.toNat_natCast]
 have hF:qcW q n=0→qlX q n=f∧qlY q n=(qb7 q n f:Int):=fun h=>by
  unfold qlX qlY
  rw [if_pos h,if_pos h,f4,Int.toNat_natCast]
  exact ⟨rfl,rfl⟩
 obtain ⟨t,ht⟩: ∃t,t=qb7 q n f:=⟨_,rfl⟩
 rw [←ht]at b1 b2 b3 b4 hft hF
 obtain ⟨s1,s2,s3⟩:=qmr (q:=q) b1 f3 b3 b2
 cases hb:qlU q n f with
 |true=>
  rw [hb,if_pos rfl]at hE
  unfold qlU at hb
  rw [←ht]at hb
  obtain ⟨i,i1,i2⟩:=qM.1 hb
  rw [Bool.and_eq_true,decide_eq_true_iff]at i2
  have htn:t<n:=by omega
  have hqt:=b4 htn
  have hit:t≠i:=fun e=>by subst e;rw [hqt]at i2;exact absurd i2.2 (by simp)
  have him:i≤m:=Nat.le_of_not_lt fun hc=>by have:=m3 i hc i1;rw [this]at i2;exact absurd i2.2 (by simp)
  have e1:=qix (q:=q) (a:=m+1) (d:=n-(m+1)) fun j h1 h2=>m3 j (by omega) (by omega)
  rw [show m+1+(n-(m+1))=n by omega]at e1
  have e2:=(qcx q (t+1) (m+1-(t+1))).2
  rw [show t+1+(m+1-(t+1))=m+1 by omega]at e2
  have e3:cP q (t+1)=cP q t+if q t=true then 1 else 0:=rfl
  rw [hqt,if_neg (by simp)]at e3
  refine ⟨fun _=>hE,fun hc=> ?_⟩
  omega
 |false=>
  rw [hb,if_neg (by simp)]at hE
  unfold qlU at hb
  rw [←ht]at hb
  have hno: ∀i,t≤i→i<n→q i=false:=fun i h1 h2=>by
   have:=qq.1 hb i h2
   rw [decide_eq_true h1,Bool.true_and]at this
   exact this
  have e1:=s3.2 hno
  have hmt:m<t:=Nat.lt_of_not_le fun hc=>by have:=hno m hc m1;rw [m2]at this;cases this
  have htm:t≤m+1:=Nat.le_of_not_lt fun hc=>by
   have h1:=m3 (t-1) (by omega) (by omega)
   have h2:=b3 (t-1) (by omega) (by omega)
   rw [h2]at h1
   cases h1
  obtain ⟨g1,g2⟩:=hF hE
  refine ⟨fun hc=>absurd ?_ hc,fun _=>⟨hE,g1,?_⟩⟩
  ·omega
  ·rw [g2];omega
end RC
end
section
open Go Go.Proofs AF HY LN
namespace RC
set_option maxHeartbeats 16000000
theorem qAg (x:Co) (l:List Un) (w bef:Wd) (first:Bool) (h:List AObj) (hl:l.length≤1000000000) (hc:x.col.length≤1000000000) (hw:w.text.length≤1000000000):
  ACalls Tryz.prog 112 [.agg (coC x),qI l,.agg (wdC w),.agg (wdC bef),.bool first] h (.int .i64 (wdE x l w bef first)) h:=by
 obtain ⟨R,hR⟩: ∃R,R=wdE x l w bef first:=⟨_,rfl⟩
 rw [←hR]
 unfold wdE at hR
 have cF:=fun h=>qyZ l w.col h hl
 by_cases g0:w.text= []
 ·have k0:(w.text= [])=True:=eq_true g0
  rw [if_pos (.inl g0)]at hR
  rw [hR]
  refine acO zy ?_
  simp (disch:=omega) only [zZ,List.replicate,coC,wdC,qI,k0,go_sem]
  repeat' first
   |((first|apply qd|apply qb);exact rvk;simp only [go_sem];first|exact VLe.refl _|apply qe|apply qa|apply qf|skip)
   |with_reducible first|apply And.intro|intro _
  all_goals try exact clz
 have k0:(w.text= [])=False:=eq_false g0
 simp only [k0,false_or]at hR
 obtain ⟨p,hp⟩: ∃p,p=fnU l w.col:=⟨_,rfl⟩
 rw [←hp]at hR
 cases first with
 |true=>
  simp only [Bool.true_eq_false,false_and,or_false,true_and]at hR
  by_cases gB:64<w.text.length
  ·have kB:((64:Int)<w.text.length)=True:=eq_true (by first|exact gB|omega)
   have hV:R=11:=by rw [hR];(repeat' split)<;>first|rfl|(exfalso;omega)
   rw [hV]
   refine acO zy ?_
   simp (disch:=omega) only [zZ,List.replicate,coC,wdC,qI,qs,k0,kB,go_sem]
   repeat' first
    |((first|apply qd|apply qb);exact rvk;simp only [go_sem];first|exact VLe.refl _|apply qe|apply qa|apply qf|skip)
    |with_reducible first|apply And.intro|intro _
   all_goals try exact clz
  ·have kB:((64:Int)<w.text.length)=False:=eq_false (by first|exact gB|omega)
   by_cases gC:w.col<0
   ·have kC:(w.col<0)=True:=eq_true (by first|exact gC|omega)
    have hV:R=19:=by rw [hR];(repeat' split)<;>first|rfl|(exfalso;omega)
    rw [hV]
    refine acO zy ?_
    simp (disch:=omega) only [zZ,List.replicate,coC,wdC,qI,qs,k0,kB,kC,go_sem]
    repeat' first
     |((first|apply qd|apply qb);exact rvk;simp only [go_sem];first|exact VLe.refl _|apply qe|apply qa|apply qf|skip)
     |with_reducible first|apply And.intro|intro _
    all_goals try exact clz
   ·have kC:(w.col<0)=False:=eq_false (by first|exact gC|omega)
    have eF:fnR l w.col=p:=by unfold fnR;rw [if_neg gC,hp]
    have eE:fnE w.col=0:=if_neg gC
    simp only [eF,eE]at cF
    by_cases gD:(x.col.length:Int)≤w.col
    ·have kD:((x.col.length:Int)≤w.col)=True:=eq_true (by first|exact gD|omega)
     have hV:R=19:=by rw [hR];(repeat' split)<;>first|rfl|(exfalso;omega)
     rw [hV]
     refine acO zy ?_
     simp (disch:=omega) only [zZ,List.replicate,coC,wdC,qI,qs,k0,kB,kC,kD,go_sem]
     repeat' first
      |((first|apply qd|apply qb);exact rvk;simp only [go_sem];first|exact VLe.refl _|apply qe|apply qa|apply qf|skip)
      |with_reducible first|apply And.intro|intro _
     all_goals try exact clz
    ·have kD:((x.col.length:Int)≤w.col)=False:=eq_false (by first|exact gD|omega)
     by_cases gG:w.unit< -1
     ·have kG:(w.unit< -1)=True:=eq_true (by first|exact gG|omega)
      have hV:R=20:=by rw [hR];(repeat' split)<;>first|rfl|(exfalso;omega)
      rw [hV]
      refine acO zy ?_
      simp (disch:=omega) only [zZ,List.replicate,coC,wdC,qI,qs,k0,kB,kC,kD,kG,go_sem]
      repeat' first
       |((first|apply qd|apply qb);exact rvk;simp only [go_sem];first|exact VLe.refl _|apply qe|apply qa|apply qf|skip)
       |with_reducible first|apply And.intro|intro _
      all_goals try exact clz
     ·have kG:(w.unit< -1)=False:=eq_false (by first|exact gG|omega)
      by_cases gH:(l.length:Int)≤w.unit
      ·have kH:((l.length:Int)≤w.unit)=True:=eq_true (by first|exact gH|omega)
       have hV:R=20:=by rw [hR];(repeat' split)<;>first|rfl|(exfalso;omega)
       rw [hV]
       refine acO zy ?_
       simp (disch:=omega) only [zZ,List.replicate,coC,wdC,qI,qs,k0,kB,kC,kD,kG,kH,go_sem]
       repeat' first
        |((first|apply qd|apply qb);exact rvk;simp only [go_sem];first|exact VLe.refl _|apply qe|apply qa|apply qf|skip)
        |with_reducible first|apply And.intro|intro _
       all_goals try exact clz
      ·have kH:((l.length:Int)≤w.unit)=False:=eq_false (by first|exact gH|omega)
       by_cases gI:p=w.unit
       ·have kI:(p=w.unit)=True:=eq_true (by first|exact gI|omega)
        by_cases gJ:w.dec< -1
        ·have kJ:(w.dec< -1)=True:=eq_true (by first|exact gJ|omega)
         have hV:R=2:=by rw [hR];(repeat' split)<;>first|rfl|(exfalso;omega)
         rw [hV]
         refine acO zy ?_
         simp (disch:=omega) only [zZ,List.replicate,coC,wdC,qI,qs,k0,kB,kC,kD,kG,kH,kI,kJ,go_sem]
         repeat' first
          |((first|refine cA (cF _) ?_ ?_|refine cG (fun e=>cF _) ?_ ?_|refine cU (fun _=>cF _) ?_ ?_);(next=>exact flk);simp (disch:=omega) only [coC,wdC,qI,qs,k0,kB,kC,kD,kG,kH,kI,kJ,go_sem])
          |((first|apply qd|apply qb);exact rvk;simp only [go_sem];first|exact VLe.refl _|apply qe|apply qa|apply qf|skip)
          |with_reducible first|apply And.intro|intro _
         all_goals try exact clz
        ·have kJ:(w.dec< -1)=False:=eq_false (by first|exact gJ|omega)
         by_cases gK:w.unit<0
         ·have kK:(w.unit<0)=True:=eq_true (by first|exact gK|omega)
          have kKb:(0≤w.unit)=False:=eq_false (by first|exact gK|omega)
          by_cases gL:w.dec= -1
          ·have kL:(w.dec= -1)=True:=eq_true (by first|exact gL|omega)
           have hV:R=0:=by rw [hR];(repeat' split)<;>first|rfl|(exfalso;omega)
           rw [hV]
           refine acO zy ?_
           simp (disch:=omega) only [zZ,List.replicate,coC,wdC,qI,qs,k0,kB,kC,kD,kG,kH,kI,kJ,kK,kKb,kL,go_sem]
           repeat' first
            |((first|refine cA (cF _) ?_ ?_|refine cG (fun e=>cF _) ?_ ?_|refine cU (fun _=>cF _) ?_ ?_);(next=>exact flk);simp (disch:=omega) only [coC,wdC,qI,qs,k0,kB,kC,kD,kG,kH,kI,kJ,kK,kKb,kL,go_sem])
            |((first|apply qd|apply qb);exact rvk;simp only [go_sem];first|exact VLe.refl _|apply qe|apply qa|apply qf|skip)
            |with_reducible first|apply And.intro|intro _
           all_goals try exact clz
          ·have kL:(w.dec= -1)=False:=eq_false (by first|exact gL|omega)
           have hV:R=2:=by rw [hR];(repeat' split)<;>first|rfl|(exfalso;omega)
           rw [hV]
           refine acO zy ?_
           simp (disch:=omega) only [zZ,List.replicate,coC,wdC,qI,qs,k0,kB,kC,kD,kG,kH,kI,kJ,kK,kKb,kL,go_sem]
           repeat' first
            |((first|refine cA (cF _) ?_ ?_|refine cG (fun e=>cF _) ?_ ?_|refine cU (fun _=>cF _) ?_ ?_);(next=>exact flk);simp (disch:=omega) only [coC,wdC,qI,qs,k0,kB,kC,kD,kG,kH,kI,kJ,kK,kKb,kL,go_sem])
            |((first|apply qd|apply qb);exact rvk;simp only [go_sem];first|exact VLe.refl _|apply qe|apply qa|apply qf|skip)
            |with_reducible first|apply And.intro|intro _
           all_goals try exact clz
         ·have kK:(w.unit<0)=False:=eq_false (by first|exact gK|omega)
          have kKb:(0≤w.unit)=True:=eq_true (by first|exact gK|omega)
          have hV:R=0:=by rw [hR];(repeat' split)<;>first|rfl|(exfalso;omega)
          rw [hV]
          refine acO zy ?_
          simp (disch:=omega) only [zZ,List.replicate,coC,wdC,qI,qs,k0,kB,kC,kD,kG,kH,kI,kJ,kK,kKb,go_sem]
          repeat' first
           |((first|refine cA (cF _) ?_ ?_|refine cG (fun e=>cF _) ?_ ?_|refine cU (fun _=>cF _) ?_ ?_);(next=>exact flk);simp (disch:=omega) only [coC,wdC,qI,qs,k0,kB,kC,kD,kG,kH,kI,kJ,kK,kKb,go_sem])
           |((first|apply qd|apply qb);exact rvk;simp only [go_sem];first|exact VLe.refl _|apply qe|apply qa|apply qf|skip)
           |with_reducible first|apply And.intro|intro _
          all_goals try exact clz
       ·have kI:(p=w.unit)=False:=eq_false (by first|exact gI|omega)
        have hV:R=20:=by rw [hR];(repeat' split)<;>first|rfl|(exfalso;omega)
        rw [hV]
        refine acO zy ?_
        simp (disch:=omega) only [zZ,List.replicate,coC,wdC,qI,qs,k0,kB,kC,kD,kG,kH,kI,go_sem]
        repeat' first
         |((first|refine cA (cF _) ?_ ?_|refine cG (fun e=>cF _) ?_ ?_|refine cU (fun _=>cF _) ?_ ?_);(next=>exact flk);simp (disch:=omega) only [coC,wdC,qI,qs,k0,kB,kC,kD,kG,kH,kI,go_sem])
         |((first|apply qd|apply qb);exact rvk;simp only [go_sem];first|exact VLe.refl _|apply qe|apply qa|apply qf|skip)
         |with_reducible first|apply And.intro|intro _
        all_goals try exact clz
 |false=>
  simp only [true_and]at hR
  by_cases gB:64<w.text.length
  ·have kB:((64:Int)<w.text.length)=True:=eq_true (by first|exact gB|omega)
   have hV:R=11:=by rw [hR];(repeat' split)<;>first|rfl|(exfalso;omega)
   rw [hV]
   refine acO zy ?_
   simp (disch:=omega) only [zZ,List.replicate,coC,wdC,qI,qs,k0,kB,go_sem]
   repeat' first
    |((first|apply qd|apply qb);exact rvk;simp only [go_sem];first|exact VLe.refl _|apply qe|apply qa|apply qf|skip)
    |with_reducible first|apply And.intro|intro _
   all_goals try exact clz
  ·have kB:((64:Int)<w.text.length)=False:=eq_false (by first|exact gB|omega)
   by_cases gC:w.col<0
   ·have kC:(w.col<0)=True:=eq_true (by first|exact gC|omega)
    have hV:R=19:=by rw [hR];(repeat' split)<;>first|rfl|(exfalso;omega)
    rw [hV]
    refine acO zy ?_
    simp (disch:=omega) only [zZ,List.replicate,coC,wdC,qI,qs,k0,kB,kC,go_sem]
    repeat' first
     |((first|apply qd|apply qb);exact rvk;simp only [go_sem];first|exact VLe.refl _|apply qe|apply qa|apply qf|skip)
     |with_reducible first|apply And.intro|intro _
    all_goals try exact clz
   ·have kC:(w.col<0)=False:=eq_false (by first|exact gC|omega)
    have eF:fnR l w.col=p:=by unfold fnR;rw [if_neg gC,hp]
    have eE:fnE w.col=0:=if_neg gC
    simp only [eF,eE]at cF
    by_cases gD:(x.col.length:Int)≤w.col
    ·have kD:((x.col.length:Int)≤w.col)=True:=eq_true (by first|exact gD|omega)
     have hV:R=19:=by rw [hR];(repeat' split)<;>first|rfl|(exfalso;omega)
     rw [hV]
     refine acO zy ?_
     simp (disch:=omega) only [zZ,List.replicate,coC,wdC,qI,qs,k0,kB,kC,kD,go_sem]
     repeat' first
      |((first|apply qd|apply qb);exact rvk;simp only [go_sem];first|exact VLe.refl _|apply qe|apply qa|apply qf|skip)
      |with_reducible first|apply And.intro|intro _
     all_goals try exact clz
    ·have kD:((x.col.length:Int)≤w.col)=False:=eq_false (by first|exact gD|omega)
     by_cases gF:w.col<bef.col
     ·have kF:(w.col<bef.col)=True:=eq_true (by first|exact gF|omega)
      have hV:R=19:=by rw [hR];(repeat' split)<;>first|rfl|(exfalso;omega)
      rw [hV]
      refine acO zy ?_
      simp (disch:=omega) only [zZ,List.replicate,coC,wdC,qI,qs,k0,kB,kC,kD,kF,go_sem]
      repeat' first
       |((first|apply qd|apply qb);exact rvk;simp only [go_sem];first|exact VLe.refl _|apply qe|apply qa|apply qf|skip)
       |with_reducible first|apply And.intro|intro _
      all_goals try exact clz
     ·have kF:(w.col<bef.col)=False:=eq_false (by first|exact gF|omega)
      by_cases gG:w.unit< -1
      ·have kG:(w.unit< -1)=True:=eq_true (by first|exact gG|omega)
       have hV:R=20:=by rw [hR];(repeat' split)<;>first|rfl|(exfalso;omega)
       rw [hV]
       refine acO zy ?_
       simp (disch:=omega) only [zZ,List.replicate,coC,wdC,qI,qs,k0,kB,kC,kD,kF,kG,go_sem]
       repeat' first
        |((first|apply qd|apply qb);exact rvk;simp only [go_sem];first|exact VLe.refl _|apply qe|apply qa|apply qf|skip)
        |with_reducible first|apply And.intro|intro _
       all_goals try exact clz
      ·have kG:(w.unit< -1)=False:=eq_false (by first|exact gG|omega)
       by_cases gH:(l.length:Int)≤w.unit
       ·have kH:((l.length:Int)≤w.unit)=True:=eq_true (by first|exact gH|omega)
        have hV:R=20:=by rw [hR];(repeat' split)<;>first|rfl|(exfalso;omega)
        rw [hV]
        refine acO zy ?_
        simp (disch:=omega) only [zZ,List.replicate,coC,wdC,qI,qs,k0,kB,kC,kD,kF,kG,kH,go_sem]
        repeat' first
         |((first|apply qd|apply qb);exact rvk;simp only [go_sem];first|exact VLe.refl _|apply qe|apply qa|apply qf|skip)
         |with_reducible first|apply And.intro|intro _
        all_goals try exact clz
       ·have kH:((l.length:Int)≤w.unit)=False:=eq_false (by first|exact gH|omega)
        by_cases gI:p=w.unit
        ·have kI:(p=w.unit)=True:=eq_true (by first|exact gI|omega)
         by_cases gJ:w.dec< -1
         ·have kJ:(w.dec< -1)=True:=eq_true (by first|exact gJ|omega)
          have hV:R=2:=by rw [hR];(repeat' split)<;>first|rfl|(exfalso;omega)
          rw [hV]
          refine acO zy ?_
          simp (disch:=omega) only [zZ,List.replicate,coC,wdC,qI,qs,k0,kB,kC,kD,kF,kG,kH,kI,kJ,go_sem]
          repeat' first
           |((first|refine cA (cF _) ?_ ?_|refine cG (fun e=>cF _) ?_ ?_|refine cU (fun _=>cF _) ?_ ?_);(next=>exact flk);simp (disch:=omega) only [coC,wdC,qI,qs,k0,kB,kC,kD,kF,kG,kH,kI,kJ,go_sem])
           |((first|apply qd|apply qb);exact rvk;simp only [go_sem];first|exact VLe.refl _|apply qe|apply qa|apply qf|skip)
           |with_reducible first|apply And.intro|intro _
          all_goals try exact clz
         ·have kJ:(w.dec< -1)=False:=eq_false (by first|exact gJ|omega)
          by_cases gK:w.unit<0
          ·have kK:(w.unit<0)=True:=eq_true (by first|exact gK|omega)
           have kKb:(0≤w.unit)=False:=eq_false (by first|exact gK|omega)
           by_cases gL:w.dec= -1
           ·have kL:(w.dec= -1)=True:=eq_true (by first|exact gL|omega)
            have hV:R=0:=by rw [hR];(repeat' split)<;>first|rfl|(exfalso;omega)
            rw [hV]
            refine acO zy ?_
            simp (disch:=omega) only [zZ,List.replicate,coC,wdC,qI,qs,k0,kB,kC,kD,kF,kG,kH,kI,kJ,kK,kKb,kL,go_sem]
            repeat' first
             |((first|refine cA (cF _) ?_ ?_|refine cG (fun e=>cF _) ?_ ?_|refine cU (fun _=>cF _) ?_ ?_);(next=>exact flk);simp (disch:=omega) only [coC,wdC,qI,qs,k0,kB,kC,kD,kF,kG,kH,kI,kJ,kK,kKb,kL,go_sem])
             |((first|apply qd|apply qb);exact rvk;simp only [go_sem];first|exact VLe.refl _|apply qe|apply qa|apply qf|skip)
             |with_reducible first|apply And.intro|intro _
            all_goals try exact clz
           ·have kL:(w.dec= -1)=False:=eq_false (by first|exact gL|omega)
            have hV:R=2:=by rw [hR];(repeat' split)<;>first|rfl|(exfalso;omega)
            rw [hV]
            refine acO zy ?_
            simp (disch:=omega) only [zZ,List.replicate,coC,wdC,qI,qs,k0,kB,kC,kD,kF,kG,kH,kI,kJ,kK,kKb,kL,go_sem]
            repeat' first
             |((first|refine cA (cF _) ?_ ?_|refine cG (fun e=>cF _) ?_ ?_|refine cU (fun _=>cF _) ?_ ?_);(next=>exact flk);simp (disch:=omega) only [coC,wdC,qI,qs,k0,kB,kC,kD,kF,kG,kH,kI,kJ,kK,kKb,kL,go_sem])
             |((first|apply qd|apply qb);exact rvk;simp only [go_sem];first|exact VLe.refl _|apply qe|apply qa|apply qf|skip)
             |with_reducible first|apply And.intro|intro _
            all_goals try exact clz
          ·have kK:(w.unit<0)=False:=eq_false (by first|exact gK|omega)
           have kKb:(0≤w.unit)=True:=eq_true (by first|exact gK|omega)
           by_cases gO:w.unit=bef.unit
           ·have kO:(w.unit=bef.unit)=True:=eq_true (by first|exact gO|omega)
            by_cases gP:w.dec=bef.dec
            ·have kP:(w.dec=bef.dec)=True:=eq_true (by first|exact gP|omega)
             have hV:R=0:=by rw [hR];(repeat' split)<;>first|rfl|(exfalso;omega)
             rw [hV]
             refine acO zy ?_
             simp (disch:=omega) only [zZ,List.replicate,coC,wdC,qI,qs,k0,kB,kC,kD,kF,kG,kH,kI,kJ,kK,kKb,kO,kP,go_sem]
             repeat' first
              |((first|refine cA (cF _) ?_ ?_|refine cG (fun e=>cF _) ?_ ?_|refine cU (fun _=>cF _) ?_ ?_);(next=>exact flk);simp (disch:=omega) only [coC,wdC,qI,qs,k0,kB,kC,kD,kF,kG,kH,kI,kJ,kK,kKb,kO,kP,go_sem])
              |((first|apply qd|apply qb);exact rvk;simp only [go_sem];first|exact VLe.refl _|apply qe|apply qa|apply qf|skip)
              |with_reducible first|apply And.intro|intro _
             all_goals try exact clz
            ·have kP:(w.dec=bef.dec)=False:=eq_false (by first|exact gP|omega)
             have hV:R=2:=by rw [hR];(repeat' split)<;>first|rfl|(exfalso;omega)
             rw [hV]
             refine acO zy ?_
             simp (disch:=omega) only [zZ,List.replicate,coC,wdC,qI,qs,k0,kB,kC,kD,kF,kG,kH,kI,kJ,kK,kKb,kO,kP,go_sem]
             repeat' first
              |((first|refine cA (cF _) ?_ ?_|refine cG (fun e=>cF _) ?_ ?_|refine cU (fun _=>cF _) ?_ ?_);(next=>exact flk);simp (disch:=omega) only [coC,wdC,qI,qs,k0,kB,kC,kD,kF,kG,kH,kI,kJ,kK,kKb,kO,kP,go_sem])
              |((first|apply qd|apply qb);exact rvk;simp only [go_sem];first|exact VLe.refl _|apply qe|apply qa|apply qf|skip)
              |with_reducible first|apply And.intro|intro _
             all_goals try exact clz
           ·have kO:(w.unit=bef.unit)=False:=eq_false (by first|exact gO|omega)
            have hV:R=0:=by rw [hR];(repeat' split)<;>first|rfl|(exfalso;omega)
            rw [hV]
            refine acO zy ?_
            simp (disch:=omega) only [zZ,List.replicate,coC,wdC,qI,qs,k0,kB,kC,kD,kF,kG,kH,kI,kJ,kK,kKb,kO,go_sem]
            repeat' first
             |((first|refine cA (cF _) ?_ ?_|refine cG (fun e=>cF _) ?_ ?_|refine cU (fun _=>cF _) ?_ ?_);(next=>exact flk);simp (disch:=omega) only [coC,wdC,qI,qs,k0,kB,kC,kD,kF,kG,kH,kI,kJ,kK,kKb,kO,go_sem])
             |((first|apply qd|apply qb);exact rvk;simp only [go_sem];first|exact VLe.refl _|apply qe|apply qa|apply qf|skip)
             |with_reducible first|apply And.intro|intro _
            all_goals try exact clz
        ·have kI:(p=w.unit)=False:=eq_false (by first|exact gI|omega)
         have hV:R=20:=by rw [hR];(repeat' split)<;>first|rfl|(exfalso;omega)
         rw [hV]
         refine acO zy ?_
         simp (disch:=omega) only [zZ,List.replicate,coC,wdC,qI,qs,k0,kB,kC,kD,kF,kG,kH,kI,go_sem]
         repeat' first
          |((first|refine cA (cF _) ?_ ?_|refine cG (fun e=>cF _) ?_ ?_|refine cU (fun _=>cF _) ?_ ?_);(next=>exact flk);simp (disch:=omega) only [coC,wdC,qI,qs,k0,kB,kC,kD,kF,kG,kH,kI,go_sem])
          |((first|apply qd|apply qb);exact rvk;simp only [go_sem];first|exact VLe.refl _|apply qe|apply qa|apply qf|skip)
          |with_reducible first|apply And.intro|intro _
         all_goals try exact clz
end RC
end
section
open Go Go.Proofs AF HY LN
namespace RC
set_option maxHeartbeats 16000000
section
variable {x : Co} {k s : Nat}
theorem qxC (h:List AObj) (ho:CoOk x) (hk:k<x.col.length) (hs:s<x.sig.length):ACalls Tryz.prog 300 [.agg (coC x),.int .i64 (k:Int),.int .i64 (s:Int)] h (.tup [.str ((clT x k s).getD []),.bool (clT x k s).isSome]) h:=by
 have hcl:=ho.cl k hk
 have hce:=ho.ce k hk s hs
 have htn:=ho.tn
 unfold clT
 obtain ⟨c,hc⟩: ∃c,c=x.col.getD k []:=⟨_,rfl⟩
 have ec:=hc.symm
 rw [ec]at hcl hce ⊢
 obtain ⟨t,ht⟩: ∃t,t=c.getD s 0:=⟨_,rfl⟩
 have et:=ht.symm
 rw [et]at hce ⊢
 obtain ⟨l,hl⟩: ∃l,l=x.tok.getD s []:=⟨_,rfl⟩
 have el:=hl.symm
 rw [el]at hce ⊢
 have k0:(0≤(k:Int))=True:=eq_true (by omega)
 have k1:((k:Int)<x.col.length)=True:=eq_true (by omega)
 have k2:((s:Int)<c.length)=True:=eq_true (by omega)
 have k3:((s:Int)<x.tok.length)=True:=eq_true (by omega)
 have k4:(0≤(s:Int))=True:=eq_true (by omega)
 by_cases g:t<0
 ·have k5:(t<0)=True:=eq_true g
  rw [if_pos g]
  refine acO qpy ?_
  simp (disch:=omega) only [qqo,List.replicate,coC,qs,qp,k0,k1,k2,k4,k5,ec,et,go_sem]
  repeat' first
   |((first|apply qd|apply qb);exact rvk;simp only [go_sem];first|exact VLe.refl _|apply qe|apply qa|apply qf|skip)
   |with_reducible first|apply And.intro|intro _
  all_goals try exact clz
 ·have k5:(t<0)=False:=eq_false g
  rw [if_neg g]
  have k6:(t<l.length)=True:=eq_true (by rcases hce with e|e;omega;omega)
  have k7:(0≤t)=True:=eq_true (by omega)
  obtain ⟨w,hw⟩: ∃w,w=l.getD t.toNat default:=⟨_,rfl⟩
  have ew:=hw.symm
  rw [ew]
  refine acO qpy ?_
  simp (disch:=omega) only [qqo,List.replicate,coC,qs,qp,qA,qaB,tkC,k0,k1,k2,k3,k4,k5,k6,k7,ec,et,el,ew,go_sem]
  repeat' first
   |((first|apply qd|apply qb);exact rvk;simp only [go_sem];first|exact VLe.refl _|apply qe|apply qa|apply qf|skip)
   |with_reducible first|apply And.intro|intro _
  all_goals try exact clz
theorem cmP (h:List AObj) (ho:CoOk x) (hk:k<x.col.length):ACalls Tryz.prog 278 [.agg (coC x),.int .i64 (k:Int)] h (.bool (cmB x k)) h:=by
 have hsg:=ho.sg
 obtain ⟨R,hR⟩: ∃R,R=cmB x k:=⟨_,rfl⟩
 rw [←hR]
 unfold cmB at hR
 have c0:=fun h=>qxC (x:=x) (k:=k) (s:=0) h ho hk hsg.1
 obtain ⟨o0,ho0⟩: ∃o0,o0=clT x k 0:=⟨_,rfl⟩
 rw [←ho0]at hR c0
 have ez:((0:Nat):Int)=0:=rfl
 rw [ez]at c0
 have zl: ∀g,valL g .len [strs x.sig]= .int .i64 x.sig.length:=fun _=>rfl
 have zo: ∀g,okL g .len [strs x.sig]=True:=fun _=>eq_true trivial
 unfold coC at c0
 refine acO qu3 ?_
 simp (disch:=omega) only [qtI,List.replicate,coC,zl,zo,go_sem]
 repeat' first
  |((first|refine cA (c0 _) ?_ ?_|refine cG (fun e=>c0 _) ?_ ?_|refine cU (fun _=>c0 _) ?_ ?_);(next=>exact flk);simp (disch:=omega) only [coC,zl,zo,go_sem])
  |((first|apply qd|apply qb);exact rvk;simp only [go_sem];first|exact VLe.refl _|apply qe|apply qa|apply qf|skip)
  |with_reducible first|apply And.intro|intro _
 all_goals try exact clz
 refine qv (T:=fun i:Nat=>qQ 41 [(1,.int .i64 (k:Int)),(2,.op h.length 1 0),(5,.str (o0.getD [])),(6,.bool o0.isSome),(18,.int .i64 x.sig.length),(19,.int .i64 i)]) (H:=fun _=>h++ [.mem 1 26 (coC x)])
  (inv:=fun i=>i≤x.sig.length∧ ∀j,j<i→(decide (clT x k j=none)|| !decide (clT x k j=o0))=false) (m:=fun i=>x.sig.length-i) 0 ⟨Nat.zero_le _,fun j hj=>absurd hj (Nat.not_lt_zero j)⟩ (Wk.temps ?_) ?_
 ·(simp only [List.replicate,go_sem,qk,qi,qg,qj];try (repeat' first|(with_reducible apply And.intro)|(apply qe;omega)|(apply qa;rfl)|exact VLe.refl _))
 rintro i ⟨i1,i2⟩ K hK
 by_cases hi:i<x.sig.length
 ·have k1:((i:Int)<x.sig.length)=True:=eq_true (by omega)
  have c1:=fun h=>qxC (x:=x) (k:=k) (s:=i) h ho hk hi
  have hno:(decide (clT x k i=none)|| !decide (clT x k i=o0))=true→R=false:=fun hx=>by rw [hR,qM.2 ⟨i,hi,hx⟩];rfl
  have hS:(decide (clT x k i=none)|| !decide (clT x k i=o0))=false→ ∀j,j<i+1→(decide (clT x k j=none)|| !decide (clT x k j=o0))=false:=fun hx j hj=>by
   by_cases e:j=i
   ·subst e;exact hx
   ·exact i2 j (by omega)
  obtain ⟨o,hox⟩: ∃o,o=clT x k i:=⟨_,rfl⟩
  rw [←hox]at hno hS
  rw [←hox]at c1
  unfold coC at c1
  cases o0 with
  |none=>
   have hV:R=false:=hno (by cases o<;>simp)
   rw [hV]
   simp (disch:=omega) only [List.replicate,coC,k1,Option.isSome_none,Option.getD_none,go_sem]
   repeat' first
    |((first|refine cA (c1 _) ?_ ?_|refine cG (fun e=>c1 _) ?_ ?_|refine cU (fun _=>c1 _) ?_ ?_);(next=>exact flk);simp (disch:=omega) only [coC,k1,Option.isSome_none,Option.getD_none,go_sem])
    |((first|apply qd|apply qb);exact rvk;simp only [go_sem];first|exact VLe.refl _|apply qe|apply qa|apply qf|skip)
    |with_reducible first|apply And.intro|intro _
   all_goals try exact clz
  |some w0=>
  cases o with
  |none=>
   rw [hno rfl]
   simp (disch:=omega) only [List.replicate,coC,k1,Option.isSome_none,Option.getD_none,Option.isSome_some,Option.getD_some,go_sem]
   repeat' first
    |((first|refine cA (c1 _) ?_ ?_|refine cG (fun e=>c1 _) ?_ ?_|refine cU (fun _=>c1 _) ?_ ?_);(next=>exact flk);simp (disch:=omega) only [coC,k1,Option.isSome_none,Option.getD_none,Option.isSome_some,Option.getD_some,go_sem])
    |((first|apply qd|apply qb);exact rvk;simp only [go_sem];first|exact VLe.refl _|apply qe|apply qa|apply qf|skip)
    |with_reducible first|apply And.intro|intro _
   all_goals try exact clz
  |some w=>
  by_cases g:w=w0
  ·have q1:(w=w0)=True:=eq_true g
   simp (disch:=omega) only [List.replicate,coC,k1,q1,Option.isSome_some,Option.getD_some,go_sem]
   repeat' first
    |((first|refine cA (c1 _) ?_ ?_|refine cG (fun e=>c1 _) ?_ ?_|refine cU (fun _=>c1 _) ?_ ?_);(next=>exact flk);simp (disch:=omega) only [coC,k1,q1,Option.isSome_some,Option.getD_some,go_sem])
    |((first|apply qd|apply qb);exact rvk;simp only [go_sem];first|exact VLe.refl _|apply qe|apply qa|apply qf|skip)
    |with_reducible first|apply And.intro|intro _
   all_goals try exact clz
   refine hK _ _ (i+1) ⟨hi,hS (by rw [g];simp)⟩ (by omega) (Wk.temps ?_)
   (simp only [List.replicate,go_sem,qk,qi,qg,qj];try (repeat' first|(with_reducible apply And.intro)|(apply qe;omega)|(apply qa;rfl)|exact VLe.refl _))
  ·have q1:(w=w0)=False:=eq_false g
   rw [hno (by simp [g])]
   simp (disch:=omega) only [List.replicate,coC,k1,q1,Option.isSome_some,Option.getD_some,go_sem]
   repeat' first
    |((first|refine cA (c1 _) ?_ ?_|refine cG (fun e=>c1 _) ?_ ?_|refine cU (fun _=>c1 _) ?_ ?_);(next=>exact flk);simp (disch:=omega) only [coC,k1,q1,Option.isSome_some,Option.getD_some,go_sem])
    |((first|apply qd|apply qb);exact rvk;simp only [go_sem];first|exact VLe.refl _|apply qe|apply qa|apply qf|skip)
    |with_reducible first|apply And.intro|intro _
   all_goals try exact clz
 ·have k1:((i:Int)<x.sig.length)=False:=eq_false (by omega)
  have hV:R=true:=by rw [hR,qq.2 fun j hj=>i2 j (by omega)];rfl
  rw [hV]
  simp (disch:=omega) only [List.replicate,coC,k1,go_sem]
  repeat' first
   |((first|apply qd|apply qb);exact rvk;simp only [go_sem];first|exact VLe.refl _|apply qe|apply qa|apply qf|skip)
   |with_reducible first|apply And.intro|intro _
  all_goals try exact clz
end
theorem rdP (x:Co) (f t s:Nat) (h:List AObj) (ho:CoOk x) (ht:t≤x.col.length) (hs:s<x.sig.length) (hn:x.col.length≤1000000000):ACalls Tryz.prog 274 [.agg (coC x),.int .i64 (f:Int),.int .i64 (t:Int),.int .i64 (s:Int)] h (strs (rdG x s f (t-f))) h:=by
 refine acO quZ ?_
 simp (disch:=omega) only [qtE,List.replicate,coC,go_sem]
 repeat' first
  |((first|apply qd|apply qb);exact rvk;simp only [go_sem];first|exact VLe.refl _|apply qe|apply qa|apply qf|skip)
  |with_reducible first|apply And.intro|intro _
 all_goals try exact clz
 refine qv (T:=fun i:Nat×Nat×AObj=>qQ 32 [(2,.int .i64 (t:Int)),(3,.int .i64 (s:Int)),(4,.op h.length 1 0),(9,.osl (h.length+2) i.2.1 1 0 (rdG x s f i.1).length),(10,.int .i64 ((f+i.1:Nat):Int))])
  (H:=fun i=>h++ [.mem 1 26 (coC x),.emp 1,zC i.2.1 9 (jc (rdG x s f i.1)),i.2.2,.emp 0])
  (inv:=fun i=>i.1≤t-f∧qE [i.2.2] 0=true) (m:=fun i=>t-f-i.1) (0,1,.emp 0) ⟨Nat.zero_le _,rfl⟩ (Wk.temps ?_) ?_
 ·(simp only [rdG,List.length_nil,List.replicate,Nat.add_zero,go_sem,qk,qi,qg,qj];try (repeat' first|(with_reducible apply And.intro)|(apply qe;omega)|(apply qa;rfl)|exact VLe.refl _))
 rintro ⟨d,v,O⟩ ⟨i1,i2⟩ K hK
 simp only at i1 i2 hK
 have i2': ∀m,qE (O::m) 0=true:=fun _=>i2
 have hln:=qcP x s f d
 have hst:rdG x s f (d+1)=rdG x s f d++(clT x (f+d) s).toList:=rfl
 obtain ⟨L,hL⟩: ∃L,L=rdG x s f d:=⟨_,rfl⟩
 rw [←hL]at hln hst
 have eL:=hL.symm
 have eC:=jF L
 by_cases hi:f+d<t
 ·have k1:(((f+d:Nat):Int)<t)=True:=eq_true (by omega)
  have c1:=fun h=>qxC (x:=x) (k:=f+d) (s:=s) h ho (by omega) hs
  obtain ⟨o,hox⟩: ∃o,o=clT x (f+d) s:=⟨_,rfl⟩
  rw [←hox]at hst c1
  unfold coC at c1
  have eTk:List.take L.length (jc L)=jc L:=List.take_of_length_le (by omega)
  cases o with
  |none=>
   have hst:rdG x s f (d+1)=L:=by rw [hst];simp
   simp (disch:=omega) only [List.replicate,coC,k1,i2',eL,Option.isSome_none,Option.getD_none,go_sem]
   repeat' first
    |((first|refine cA (c1 _) ?_ ?_|refine cG (fun e=>c1 _) ?_ ?_|refine cU (fun _=>c1 _) ?_ ?_);(next=>exact flk);simp (disch:=omega) only [coC,k1,i2',eL,Option.isSome_none,Option.getD_none,go_sem])
    |((first|apply qd|apply qb);exact rvk;simp only [go_sem];first|exact VLe.refl _|apply qe|apply qa|apply qf|skip)
    |with_reducible first|apply And.intro|intro _
   all_goals try exact clz
   refine hK _ _ (d+1,v,O) ⟨by omega,i2⟩ (by simp only;omega) ?_
   simp only [hst]
   refine Wk.temps ?_
   (simp only [List.replicate,go_sem,qk,qi,qg,qj];try (repeat' first|(with_reducible apply And.intro)|(apply qe;omega)|(apply qa;rfl)|exact VLe.refl _))
  |some w=>
   have hst:rdG x s f (d+1)=L++ [w]:=hst
   simp (disch:=omega) only [List.replicate,coC,k1,i2',eL,Nat.mul_one,eC,eTk,Option.isSome_some,Option.getD_some,go_sem]
   repeat' first
    |((first|refine cA (c1 _) ?_ ?_|refine cG (fun e=>c1 _) ?_ ?_|refine cU (fun _=>c1 _) ?_ ?_);(next=>exact flk);simp (disch:=omega) only [coC,k1,i2',eL,eC,eTk,Nat.mul_one,Option.isSome_some,Option.getD_some,go_sem])
    |((first|apply qd|apply qb);exact rvk;simp only [go_sem];first|exact VLe.refl _|apply qe|apply qa|apply qf|skip)
    |with_reducible first|apply And.intro|intro _
   all_goals try exact clz
   have eA:jc L++ [AV.str w]=jc (rdG x s f (d+1)):=by rw [hst,qbv];rfl
   try rw [eA]
   refine hK _ _ (d+1,v+1,.mem (qr (some O)+1) 9 [.str w]) ⟨by omega,rfl⟩ (by simp only;omega) ?_
   simp only [hst,List.length_append,List.length_cons,List.length_nil]
   refine Wk.temps ?_
   (simp only [List.replicate,go_sem,qk,qi,qg,qj];try (repeat' first|(with_reducible apply And.intro)|(apply qe;omega)|(apply qa;rfl)|exact VLe.refl _))
 ·have k1:(((f+d:Nat):Int)<t)=False:=eq_false (by omega)
  obtain rfl:d=t-f:=by omega
  rw [eL]
  simp (disch:=omega) only [List.replicate,k1,eL,eC,go_sem]
  repeat' first
   |((first|apply qd|apply qb);exact rvk;simp only [go_sem];first|exact VLe.refl _|apply qe|apply qa|apply qf|skip)
   |with_reducible first|apply And.intro|intro _
  all_goals try exact clz
  exact qcT (fun _=>rfl) rfl
end RC
end
section
open Go Go.Proofs AF HY LN
namespace RC
set_option maxHeartbeats 16000000
def rnX (x:Co):List (List AV):=(qeB (cmB x) x.col.length).map fun r=> [.int .i64 (r.1:Int),.int .i64 (r.2:Int)]
theorem qzX (x:Co) (h:List AObj):ACalls Tryz.prog 233 [.agg (coC x)] h (.fn (.func 277) [] [.ip (coC x)]) h:=by
 unfold coC
 refine acO quP ?_
 simp (disch:=omega) only [qtw,List.replicate,go_sem]
 repeat' first
  |((first|apply qd|apply qb);exact rvk;simp only [go_sem];first|exact VLe.refl _|apply qe|apply qa|apply qf|skip)
  |with_reducible first|apply And.intro|intro _
 all_goals try exact clz
theorem qzV (u:Un) (f t:Int) (h:List AObj):ACalls Tryz.prog 234 [.agg (unC u),.ip [.int .i64 f],.ip [.int .i64 t]] h (.bool (decide (u.frm≤f)&&decide (t≤u.to))) h:=by
 by_cases g:u.frm≤f
 ·have k1:(u.frm≤f)=True:=eq_true g
  rw [decide_eq_true g,Bool.true_and]
  refine acO qpr ?_
  simp (disch:=omega) only [qqh,List.replicate,unC,k1,go_sem]
  repeat' first
   |((first|apply qd|apply qb);exact rvk;simp only [go_sem];first|exact VLe.refl _|apply qe|apply qa|apply qf|skip)
   |with_reducible first|apply And.intro|intro _
  all_goals try exact clz
 ·have k1:(u.frm≤f)=False:=eq_false g
  rw [decide_eq_false g,Bool.false_and]
  refine acO qpr ?_
  simp (disch:=omega) only [qqh,List.replicate,unC,k1,go_sem]
  repeat' first
   |((first|apply qd|apply qb);exact rvk;simp only [go_sem];first|exact VLe.refl _|apply qe|apply qa|apply qf|skip)
   |with_reducible first|apply And.intro|intro _
  all_goals try exact clz
theorem qvJ {p:Nat→Bool} {n f t:Nat} (h1:f≤t) (h2:t≤n) (h3: ∀j,f≤j→j<t→p j=false) (h4:t<n→p t=true):nxt p (n-f) f=t:=by
 obtain ⟨a1,a2,a3,a4⟩:=qcK p (n-f) f
 rcases Nat.lt_trichotomy (nxt p (n-f) f) t with h|h|h
 ·have:=a4 (by omega)
  rw [h3 _ a1 h]at this
  cases this
 ·exact h
 ·have:=h4 (by omega)
  rw [a3 t h1 h]at this
  cases this
theorem qv5 {x:Co} {pre rest:List (Nat×Nat)} {r:Nat×Nat} (h:qeB (cmB x) x.col.length=pre++r::rest): ∃g:pre.length<(rnX x).length,(rnX x)[pre.length]= [.int .i64 (r.1:Int),.int .i64 (r.2:Int)]:=by
 unfold rnX
 refine ⟨by rw [h];simp,?_⟩
 simp only [h,List.getElem_map]
 rw [List.getElem_append_right (Nat.le_refl _)]
 simp
structure RnS where
 f:Nat
 D:Nat
 pre:List (Nat×Nat)
 hh:List AObj
theorem itR (x:Co) (ho:CoOk x) (hn:x.col.length≤1000000000):qsM Tryz.prog 277 [.ip (coC x)] (rnX x):=by
 intro h ts LI S E hS hE body start hts
 have hcom:=fun k h hk=>cmP (x:=x) (k:=k) h ho hk
 obtain ⟨p,hp⟩: ∃p,p=cmB x:=⟨_,rfl⟩
 have hxl:(rnX x).length=(qeB p x.col.length).length:=by rw [hp];simp [rnX]
 have hat:= @qv5 x
 rw [←hp]at hat
 rw [←hp]at hcom
 refine acQ qu2 ?_
 simp (disch:=omega) only [qtH,List.replicate,coC,go_sem]
 repeat' first
  |((first|apply qd|apply qb);exact rvk;simp only [go_sem];first|exact VLe.refl _|apply qe|apply qa|apply qf|skip)
  |with_reducible first|apply And.intro|intro _
 all_goals try exact clz
 refine qv (T:=fun i:RnS=>qQ 36 [(0,.yld h.length),(1,.ip (coC x)),(3,.int .i64 i.f)]) (H:=fun i=>i.hh++ [.lp .ready ts LI])
  (inv:=fun i=>i.f≤x.col.length+1∧x.col.length-i.f<i.D∧qeB p x.col.length=i.pre++jS p x.col.length i.D i.f∧S i.pre.length i.hh) (m:=fun i=>x.col.length+1-i.f) ⟨0,x.col.length+1,[],h⟩ ⟨Nat.zero_le _,by simp only;omega,rfl,start⟩ (Wk.temps ?_) ?_
 ·(simp only [coC,List.replicate,go_sem,qk,qi,qg,qj];try (repeat' first|(with_reducible apply And.intro)|(apply qe;omega)|(apply qa;rfl)|exact VLe.refl _))
 rintro ⟨f,D,pre,hh⟩ ⟨i1,i2,i3,i4⟩ K hK
 simp only at i1 i2 i3 i4 hK
 obtain ⟨hlen,hlow⟩:=hS _ _ i4
 have hb:(h++ [AObj.lp LS.ready ts LI]).length=(hh++ [AObj.lp LS.ready ts LI]).length:=by simp [hlen]
 by_cases hi:f<x.col.length
 ·have q0:((f:Int)<x.col.length)=True:=eq_true (by omega)
  obtain ⟨D',rfl⟩: ∃D',D=D'+1:=⟨D-1,by omega⟩
  have hD:jS p x.col.length (D'+1) f=(if f<nxt p (x.col.length-f) f then [(f,nxt p (x.col.length-f) f)] else [])++jS p x.col.length D' (nxt p (x.col.length-f) f+1):=by
   conv=>lhs;unfold jS
   rw [if_neg (by omega)]
  simp (disch:=omega) only [List.replicate,coC,qs,q0,go_sem]
  repeat' first
   |((first|apply qd|apply qb);exact rvk;simp only [go_sem];first|exact VLe.refl _|apply qe|apply qa|apply qf|skip)
   |with_reducible first|apply And.intro|intro _
  all_goals try exact clz
  refine qv (T:=fun t:Nat=>qQ 36 [(0,.yld h.length),(1,.ip (coC x)),(3,.int .i64 f),(4,.int .i64 t)]) (H:=fun _=>hh++ [.lp .ready ts LI])
   (inv:=fun t=>f≤t∧t≤x.col.length∧ ∀j,f≤j→j<t→p j=false) (m:=fun t=>x.col.length-t) f ⟨Nat.le_refl _,by omega,fun j h1 h2=>by omega⟩ (Wk.temps ?_) ?_
  ·(simp only [coC,List.replicate,go_sem,qk,qi,qg,qj];try (repeat' first|(with_reducible apply And.intro)|(apply qe;omega)|(apply qa;rfl)|exact VLe.refl _))
  rintro t ⟨t1,t2,t3⟩ K2 hK2
  have fin:(t<x.col.length→p t=true)→jS p x.col.length (D'+1) f=(if f<t then [(f,t)] else [])++jS p x.col.length D' (t+1):=fun h4=>by
   rw [hD,qvJ t1 t2 t3 h4]
  have hend: ∀hh',jS p x.col.length (D'+1) f=(if f<t then [(f,t)] else [])++jS p x.col.length D' (t+1)→S (pre++if f<t then [(f,t)] else []).length hh'→qeB p x.col.length=(pre++if f<t then [(f,t)] else [])++jS p x.col.length D' (t+1):=fun hh' h1 _=>by
   rw [i3,h1,List.append_assoc]
  by_cases ht:t<x.col.length
  ·have q1:((t:Int)<x.col.length)=True:=eq_true (by omega)
   have c1:=fun h=>hcom t h ht
   cases hpt:p t with
   |false=>
    rw [hpt]at c1
    unfold coC qs at c1
    simp (disch:=omega) only [List.replicate,coC,qs,q1,go_sem]
    repeat' first
     |((first|refine cA (c1 _) ?_ ?_|refine cG (fun e=>c1 _) ?_ ?_|refine cU (fun _=>c1 _) ?_ ?_);(next=>exact flk);simp (disch:=omega) only [coC,qs,q1,go_sem])
     |((first|apply qd|apply qb);exact rvk;simp only [go_sem];first|exact VLe.refl _|apply qe|apply qa|apply qf|skip)
     |with_reducible first|apply And.intro|intro _
    all_goals try exact clz
    refine hK2 _ _ (t+1) ⟨by omega,ht,fun j h1 h2=> ?_⟩ (by omega) (Wk.temps ?_)
    ·by_cases e:j=t
     ·subst e;exact hpt
     ·exact t3 j h1 (by omega)
    ·(simp only [coC,List.replicate,go_sem,qk,qi,qg,qj];try (repeat' first|(with_reducible apply And.intro)|(apply qe;omega)|(apply qa;rfl)|exact VLe.refl _))
   |true=>
    rw [hpt]at c1
    have hf:=fin fun _=>hpt
    unfold coC qs at c1
    by_cases gt:f<t
    ·have q2:((f:Int)<t)=True:=eq_true (by omega)
     rw [if_pos gt]at hf
     rw [hf]at i3
     obtain ⟨hdl,hxx⟩:=hat (pre:=pre) (r:=(f,t)) (rest:=jS p x.col.length D' (t+1)) i3
     have hb':=body pre.length hh [] hdl i4
     rw [hxx]at hb'
     have i5:qeB p x.col.length=(pre++ [(f,t)])++jS p x.col.length D' (t+1):=by rw [i3];simp
     simp (disch:=omega) only [List.replicate,coC,qs,q1,q2,go_sem]
     repeat' first
      |((first|refine cA (c1 _) ?_ ?_|refine cG (fun e=>c1 _) ?_ ?_|refine cU (fun _=>c1 _) ?_ ?_);(next=>exact flk);simp (disch:=omega) only [coC,qs,q1,q2,go_sem])
      |((first|apply qd|apply qb);exact rvk;simp only [go_sem];first|exact VLe.refl _|apply qe|apply qa|apply qf|skip)
      |with_reducible first|apply And.intro|intro _
     all_goals try exact clz
     ·exact ⟨.ready,ts,LI,jN hlen⟩
     ·refine jJ.mono ?_ hb'
      rintro v h' ⟨hh',⟨rfl,hn',rfl⟩|⟨st,rfl,hs',rfl⟩⟩
      ·simp (disch:=omega) only [q2,go_sem]
       repeat' first
        |((first|apply qd|apply qb);exact rvk;simp only [go_sem];first|exact VLe.refl _|apply qe|apply qa|apply qf|skip)
        |with_reducible first|apply And.intro|intro _
       all_goals try exact clz
       refine hK _ _ ⟨t+1,D',pre++ [(f,t)],hh'⟩ ⟨by simp only;omega,by simp only;omega,i5,by simp only [List.length_append,List.length_cons,List.length_nil];exact hn'⟩ (by simp only;omega) (Wk.temps ?_)
       (simp only [coC,List.replicate,go_sem,qk,qi,qg,qj];try (repeat' first|(with_reducible apply And.intro)|(apply qe;omega)|(apply qa;rfl)|exact VLe.refl _))
      ·simp (disch:=omega) only [q2,go_sem]
       obtain ⟨r1,r2⟩:=(hE _ _ hs').ret (L:=LI) st hts
       exact jM trivial r1 r2 ⟨_,.inr ⟨st,hs',rfl⟩⟩ (VLe.refl _)
    ·have q2:((f:Int)<t)=False:=eq_false (by omega)
     rw [if_neg gt,List.nil_append]at hf
     rw [hf]at i3
     simp (disch:=omega) only [List.replicate,coC,qs,q1,q2,go_sem]
     repeat' first
      |((first|refine cA (c1 _) ?_ ?_|refine cG (fun e=>c1 _) ?_ ?_|refine cU (fun _=>c1 _) ?_ ?_);(next=>exact flk);simp (disch:=omega) only [coC,qs,q1,q2,go_sem])
      |((first|apply qd|apply qb);exact rvk;simp only [go_sem];first|exact VLe.refl _|apply qe|apply qa|apply qf|skip)
      |with_reducible first|apply And.intro|intro _
     all_goals try exact clz
     refine hK _ _ ⟨t+1,D',pre,hh⟩ ⟨by simp only;omega,by simp only;omega,i3,i4⟩ (by simp only;omega) (Wk.temps ?_)
     (simp only [coC,List.replicate,go_sem,qk,qi,qg,qj];try (repeat' first|(with_reducible apply And.intro)|(apply qe;omega)|(apply qa;rfl)|exact VLe.refl _))
  ·have q1:((t:Int)<x.col.length)=False:=eq_false (by omega)
   have hf:=fin fun hx=>absurd hx ht
   by_cases gt:f<t
   ·have q2:((f:Int)<t)=True:=eq_true (by omega)
    rw [if_pos gt]at hf
    rw [hf]at i3
    obtain ⟨hdl,hxx⟩:=hat (pre:=pre) (r:=(f,t)) (rest:=jS p x.col.length D' (t+1)) i3
    have hb':=body pre.length hh [] hdl i4
    rw [hxx]at hb'
    have i5:qeB p x.col.length=(pre++ [(f,t)])++jS p x.col.length D' (t+1):=by rw [i3];simp
    simp (disch:=omega) only [List.replicate,coC,qs,q1,q2,go_sem]
    repeat' first
     |(refine ql ( .bool false) ?_;simp (disch:=omega) only [coC,qs,q1,q2,go_sem])
     |((first|apply qd|apply qb);exact rvk;simp only [go_sem];first|exact VLe.refl _|apply qe|apply qa|apply qf|skip)
     |with_reducible first|apply And.intro|intro _
    all_goals try exact clz
    ·exact ⟨.ready,ts,LI,jN hlen⟩
    ·refine jJ.mono ?_ hb'
     rintro v h' ⟨hh',⟨rfl,hn',rfl⟩|⟨st,rfl,hs',rfl⟩⟩
     ·simp (disch:=omega) only [q2,go_sem]
      repeat' first
       |((first|apply qd|apply qb);exact rvk;simp only [go_sem];first|exact VLe.refl _|apply qe|apply qa|apply qf|skip)
       |with_reducible first|apply And.intro|intro _
      all_goals try exact clz
      refine hK _ _ ⟨t+1,D',pre++ [(f,t)],hh'⟩ ⟨by simp only;omega,by simp only;omega,i5,by simp only [List.length_append,List.length_cons,List.length_nil];exact hn'⟩ (by simp only;omega) (Wk.temps ?_)
      (simp only [coC,List.replicate,go_sem,qk,qi,qg,qj];try (repeat' first|(with_reducible apply And.intro)|(apply qe;omega)|(apply qa;rfl)|exact VLe.refl _))
     ·simp (disch:=omega) only [q2,go_sem]
      obtain ⟨r1,r2⟩:=(hE _ _ hs').ret (L:=LI) st hts
      exact jM trivial r1 r2 ⟨_,.inr ⟨st,hs',rfl⟩⟩ (VLe.refl _)
   ·exact absurd (show f<t by omega) gt
 ·have q0:((f:Int)<x.col.length)=False:=eq_false (by omega)
  have hD:jS p x.col.length D f= []:=by
   cases D with
   |zero=>rfl
   |succ D=>unfold jS;rw [if_pos (by omega)]
  rw [hD,List.append_nil]at i3
  simp (disch:=omega) only [List.replicate,coC,qs,q0,go_sem]
  repeat' first
   |((first|apply qd|apply qb);exact rvk;simp only [go_sem];first|exact VLe.refl _|apply qe|apply qa|apply qf|skip)
   |with_reducible first|apply And.intro|intro _
  all_goals try exact clz
  obtain ⟨r1,r2⟩:=(hS _ _ i4).ret (L:=LI) .ready hts
  exact jM trivial r1 r2 ⟨hh,.inl ⟨by rw [hxl,i3];exact i4,rfl⟩⟩ (VLe.refl _)
end RC
end
section
open Go Go.Proofs AF HY LN
namespace RC
set_option maxHeartbeats 16000000
structure qsY (l:List Un):Prop where
 n:l.length≤1000000000
 rd: ∀i,(l.getD i default).rds.length≤1000000000
 sr: ∀i j,((l.getD i default).rds.getD j default).src.length≤1000000000
 wd: ∀i j,((l.getD i default).rds.getD j default).words.length≤1000000000
structure qpS (L:List Rd):Prop where
 n:L.length≤1000000000
 sr: ∀j,(L.getD j default).src.length≤1000000000
 wd: ∀j,(L.getD j default).words.length≤1000000000
theorem qyX (a b:List Str) (h:List AObj) (h1:a.length≤1000000000) (h2:b.length≤1000000000):ACalls Tryz.prog 53 [strs a,strs b] h (.bool (decide (a=b))) h:=by
 have c:=qui a b.length (fun j=>b.getD j []) h h1 h2
 have e:decide (a.length=b.length∧ ∀i,i<a.length→a.getD i []=b.getD i [])=decide (a=b):=decide_eq_decide.2 (jo ([]:Str)).symm
 rw [e]at c
 exact c
theorem qzB (a b:List Int) (h:List AObj) (h1:a.length≤1000000000) (h2:b.length≤1000000000):ACalls Tryz.prog 40 [qp a,qp b] h (.bool (decide (a=b))) h:=by
 have c:=qyW qxK a.length b.length (fun j=> .i (a.getD j 0)) (fun j=> .i (b.getD j 0)) h (fun _ _ _=>rfl) (by omega) (by omega)
 simp only [At.v,At.i.injEq]at c
 have e:decide (a.length=b.length∧ ∀i,i<a.length→a.getD i 0=b.getD i 0)=decide (a=b):=decide_eq_decide.2 (jo (0:Int)).symm
 rw [e]at c
 exact c
theorem qx8 {r s:Rd}:r=s↔r.words=s.words∧r.src=s.src:=by
 cases r;cases s;simp
theorem qzY (r s:Rd) (h:List AObj) (h1:r.words.length≤1000000000) (h2:s.words.length≤1000000000) (h3:r.src.length≤1000000000) (h4:s.src.length≤1000000000):ACalls Tryz.prog 273 [.agg (rdC r),.agg (rdC s)] h (.bool (decide (r=s))) h:=by
 have c1:=fun h=>qyX r.words s.words h h1 h2
 have c2:=fun h=>qzB r.src s.src h h3 h4
 have e:decide (r=s)=(decide (r.words=s.words)&&decide (r.src=s.src)):=by rw [←Bool.decide_and];exact decide_eq_decide.2 qx8
 rw [e]
 obtain ⟨a,ha⟩: ∃a,a=decide (r.words=s.words):=⟨_,rfl⟩
 obtain ⟨b,hb⟩: ∃b,b=decide (r.src=s.src):=⟨_,rfl⟩
 rw [←ha,←hb]
 simp only [←ha]at c1
 simp only [←hb]at c2
 cases a with
 |true=>
  rw [Bool.true_and]
  refine acO qpv ?_
  simp (disch:=omega) only [qql,List.replicate,rdC,go_sem]
  repeat' first
   |((first|refine cA (c1 _) ?_ ?_|refine cG (fun e=>c1 _) ?_ ?_|refine cA (c2 _) ?_ ?_|refine cG (fun e=>c2 _) ?_ ?_|refine cU (fun _=>c1 _) ?_ ?_|refine cU (fun _=>c2 _) ?_ ?_);(next=>exact flk);simp (disch:=omega) only [rdC,go_sem])
   |((first|apply qd|apply qb);exact rvk;simp only [go_sem];first|exact VLe.refl _|apply qe|apply qa|apply qf|skip)
   |with_reducible first|apply And.intro|intro _
  all_goals try exact clz
 |false=>
  rw [Bool.false_and]
  refine acO qpv ?_
  simp (disch:=omega) only [qql,List.replicate,rdC,go_sem]
  repeat' first
   |(refine ql ( .bool false) ?_;simp (disch:=omega) only [rdC,go_sem])
   |((first|refine cA (c1 _) ?_ ?_|refine cG (fun e=>c1 _) ?_ ?_|refine cU (fun _=>c1 _) ?_ ?_);(next=>exact flk);simp (disch:=omega) only [rdC,go_sem])
   |((first|apply qd|apply qb);exact rvk;simp only [go_sem];first|exact VLe.refl _|apply qe|apply qa|apply qf|skip)
   |with_reducible first|apply And.intro|intro _
  all_goals try exact clz
theorem efP (a b:List Rd) (h:List AObj) (za:qpS a) (zb:qpS b):ACalls Tryz.prog 272 [zE a,zE b,.fn (.func 273) [] []] h (.bool (decide (a=b))) h:=by
 have ha:=za.n
 have hb:=zb.n
 have he:decide (a=b)=decide (a.length=b.length∧ ∀i,i<a.length→a.getD i default=b.getD i default):=decide_eq_decide.2 (jo (default:Rd))
 obtain ⟨R,hR⟩: ∃R,R=decide (a=b):=⟨_,rfl⟩
 rw [←hR]at he ⊢
 by_cases g:a.length=b.length
 case neg=>
  have k1:((a.length:Int)=b.length)=False:=eq_false (by omega)
  rw [decide_eq_false (fun hc=>g hc.1)]at he
  rw [he]
  refine acO qpu ?_
  simp (disch:=omega) only [qqk,List.replicate,zE,k1,go_sem]
  repeat' first
   |((first|apply qd|apply qb);exact rvk;simp only [go_sem];first|exact VLe.refl _|apply qe|apply qa|apply qf|skip)
   |with_reducible first|apply And.intro|intro _
  all_goals try exact clz
 have k1:((a.length:Int)=b.length)=True:=eq_true (by omega)
 refine acO qpu ?_
 simp (disch:=omega) only [qqk,List.replicate,zE,k1,go_sem]
 repeat' first
  |((first|apply qd|apply qb);exact rvk;simp only [go_sem];first|exact VLe.refl _|apply qe|apply qa|apply qf|skip)
  |with_reducible first|apply And.intro|intro _
 all_goals try exact clz
 refine qv (T:=fun i:Nat×AObj×AObj=>qQ 32 [(1,zE b),(2,.fn (.func 273) [] []),(15,zE a),(16,.int .i64 a.length),(17,.int .i64 i.1)]) (H:=fun i=>h++ [i.2.1,i.2.2])
  (inv:=fun i=>i.1≤a.length∧qE [i.2.1] 0=true∧qE [i.2.2] 0=true∧ ∀j,j<i.1→a.getD j default=b.getD j default) (m:=fun i=>a.length-i.1) (0,.emp 0,.emp 0) ⟨Nat.zero_le _,rfl,rfl,fun j hj=>absurd hj (Nat.not_lt_zero j)⟩ (Wk.temps ?_) ?_
 ·(simp only [zE,List.replicate,go_sem,qk,qi,qg,qj];try (repeat' first|(with_reducible apply And.intro)|(apply qe;omega)|(apply qa;rfl)|exact VLe.refl _))
 rintro ⟨i,O1,O2⟩ ⟨i1,j1,j2,i2⟩ K hK
 simp only at i1 j1 j2 i2 hK
 have j1': ∀m,qE (O1::m) 0=true:=fun _=>j1
 have j2': ∀m,qE (O2::m) 0=true:=fun _=>j2
 by_cases hi:i<a.length
 ·have k2:((i:Int)<a.length)=True:=eq_true (by omega)
  have k3:((i:Int)<b.length)=True:=eq_true (by omega)
  have c1:=fun h=>qzY (a.getD i default) (b.getD i default) h (za.wd i) (zb.wd i) (za.sr i) (zb.sr i)
  have hno: ¬a.getD i default=b.getD i default→R=false:=fun hx=>by rw [he];exact decide_eq_false fun hc=>hx (hc.2 i hi)
  have hS:a.getD i default=b.getD i default→ ∀j,j<i+1→a.getD j default=b.getD j default:=fun hx j hj=>by
   by_cases e:j=i
   ·subst e;exact hx
   ·exact i2 j (by omega)
  obtain ⟨r,hr⟩: ∃r,r=a.getD i default:=⟨_,rfl⟩
  obtain ⟨s,hs⟩: ∃s,s=b.getD i default:=⟨_,rfl⟩
  have er:=hr.symm
  have es:=hs.symm
  rw [er,es]at hno hS
  simp only [er,es]at c1
  unfold rdC at c1
  by_cases g2:r=s
  ·have k4:decide (r=s)=true:=decide_eq_true g2
   simp only [k4]at c1
   simp (disch:=omega) only [List.replicate,zE,rdC,k2,k3,er,es,j1',j2',go_sem]
   repeat' first
    |(refine qx (c1 _) ?_;simp (disch:=omega) only [zE,rdC,k2,k3,er,es,j1',j2',go_sem])
    |((first|apply qd|apply qb);exact rvk;simp only [go_sem];first|exact VLe.refl _|apply qe|apply qa|apply qf|skip)
    |with_reducible first|apply And.intro|intro _
   all_goals try exact clz
   refine hK _ _ (i+1,_,_) ⟨hi,rfl,rfl,hS g2⟩ (by simp only;omega) (Wk.temps ?_)
   (simp only [zE,List.replicate,go_sem,qk,qi,qg,qj];try (repeat' first|(with_reducible apply And.intro)|(apply qe;omega)|(apply qa;rfl)|exact VLe.refl _))
  ·have k4:decide (r=s)=false:=decide_eq_false g2
   simp only [k4]at c1
   rw [hno g2]
   simp (disch:=omega) only [List.replicate,zE,rdC,k2,k3,er,es,j1',j2',go_sem]
   repeat' first
    |(refine qx (c1 _) ?_;simp (disch:=omega) only [zE,rdC,k2,k3,er,es,j1',j2',go_sem])
    |((first|apply qd|apply qb);exact rvk;simp only [go_sem];first|exact VLe.refl _|apply qe|apply qa|apply qf|skip)
    |with_reducible first|apply And.intro|intro _
   all_goals try exact clz
 ·have k2:((i:Int)<a.length)=False:=eq_false (by omega)
  rw [he,decide_eq_true ⟨g,fun j hj=>i2 j (by omega)⟩]
  simp (disch:=omega) only [List.replicate,zE,k2,go_sem]
  repeat' first
   |((first|apply qd|apply qb);exact rvk;simp only [go_sem];first|exact VLe.refl _|apply qe|apply qa|apply qf|skip)
   |with_reducible first|apply And.intro|intro _
  all_goals try exact clz
theorem qzZ (a b:List Rd) (h:List AObj) (za:qpS a) (zb:qpS b):ACalls Tryz.prog 231 [zE a,zE b] h (.bool (decide (a=b))) h:=by
 have c1:=fun h=>efP a b h za zb
 refine acO quN ?_
 simp (disch:=omega) only [qtu,List.replicate,go_sem]
 repeat' first
  |((first|refine cA (c1 _) ?_ ?_|refine cG (fun e=>c1 _) ?_ ?_|refine cU (fun _=>c1 _) ?_ ?_);(next=>exact flk);simp (disch:=omega) only [go_sem])
  |((first|apply qd|apply qb);exact rvk;simp only [go_sem];first|exact VLe.refl _|apply qe|apply qa|apply qf|skip)
  |with_reducible first|apply And.intro|intro _
 all_goals try exact clz
theorem qzT (r s:Rd) (h:List AObj) (h1:r.words.length≤1000000000) (h2:s.words.length≤1000000000):ACalls Tryz.prog 276 [.agg (rdC r),.agg (rdC s)] h (.bool (decide (r.words=s.words))) h:=by
 have c1:=fun h=>qyX r.words s.words h h1 h2
 refine acO qu1 ?_
 simp (disch:=omega) only [qtG,List.replicate,rdC,go_sem]
 repeat' first
  |((first|refine cA (c1 _) ?_ ?_|refine cG (fun e=>c1 _) ?_ ?_|refine cU (fun _=>c1 _) ?_ ?_);(next=>exact flk);simp (disch:=omega) only [rdC,go_sem])
  |((first|apply qd|apply qb);exact rvk;simp only [go_sem];first|exact VLe.refl _|apply qe|apply qa|apply qf|skip)
  |with_reducible first|apply And.intro|intro _
 all_goals try exact clz
theorem fd1 (r y:Rd) (h:List AObj) (h1:r.words.length≤1000000000) (h2:y.words.length≤1000000000):ACalls Tryz.prog 301 [.agg (rdC y),.ip [.fn (.func 276) [] []],.ip (rdC r)] h (.bool (decide (r.words=y.words))) h:=by
 have c1:=fun h=>qzT r y h h1 h2
 unfold rdC at c1
 refine acO qu9 ?_
 simp (disch:=omega) only [qtN,List.replicate,rdC,go_sem]
 repeat' first
  |(refine qx (c1 _) ?_;simp (disch:=omega) only [rdC,go_sem])
  |((first|apply qd|apply qb);exact rvk;simp only [go_sem];first|exact VLe.refl _|apply qe|apply qa|apply qf|skip)
  |with_reducible first|apply And.intro|intro _
 all_goals try exact clz
theorem fdP (L:List Rd) (r:Rd) (h:List AObj) (hL:L.length≤1000000000) (h1:r.words.length≤1000000000) (h2: ∀j,(L.getD j default).words.length≤1000000000):ACalls Tryz.prog 275 [zE L,.agg (rdC r),.fn (.func 276) [] []] h (.int .i64 (qhu L r.words)) h:=by
 have c1: ∀k v k2 v2 H,qy k H=some (.mem v 89 (rdC r))→qy k2 H=some (.mem v2 280 [.fn (.func 276) [] []])→
   ACalls Tryz.prog 127 [zE L,.fn (.func 301) [] [.op k2 v2 0,.op k v 0]] H (.int .i64 (qhu L r.words)) H:=fun k v k2 v2 H hk hk2=>by
  have hc:=qX hk
  have hc2:=qX hk2
  unfold zE qhu
  refine qcD qpl L.length (fun j=>rdC (L.getD j default)) (fun j=> .agg (rdC (L.getD j default))) _ [] [.op k2 v2 0,.op k v 0] _ H (fun i _=>⟨rfl,by simp [z7,rdC],rfl,rfl,rfl⟩) (fun i _=> ?_) (by omega)
  refine ACalls.borrow ?_ rfl
  have e:([AV.agg (rdC (L.getD i default))]++ [AV.op k2 v2 0,AV.op k v 0]).map (rei (fun _=>true) H 8)= [.agg (rdC (L.getD i default)),.ip [.fn (.func 276) [] []],.ip (rdC r)]:=by
   simp only [List.cons_append,List.nil_append,List.map_cons,List.map_nil,rei_op,if_true,hc,hc2,ipOf_some,List.drop_zero,rei_agg]
   rfl
  rw [List.nil_append,e]
  exact fd1 r _ _ h1 (h2 i)
 have c2:=c1 h.length 1 (h.length+1) 1 (h++ [.mem 1 89 (rdC r),.mem 1 280 [.fn (.func 276) [] []]]) (by rw [getO_app0];rfl) (by simp only [go_sem])
 unfold rdC at c2
 refine acO qu0 ?_
 simp (disch:=omega) only [qtF,List.replicate,rdC,go_sem]
 repeat' first
  |((first|refine cA (c2) ?_ ?_|refine cG (fun e=>c2) ?_ ?_);(next=>exact flk);simp (disch:=omega) only [rdC,go_sem])
  |((first|apply qd|apply qb);exact rvk;simp only [go_sem];first|exact VLe.refl _|apply qe|apply qa|apply qf|skip)
  |with_reducible first|apply And.intro|intro _
 all_goals try exact clz
end RC
end
section
open Go Go.Proofs AF HY LN
namespace RC
set_option maxHeartbeats 16000000
def gnB (sec:Str) (sig:List Str):Bool:=zr (fun i=>decide (20<(sig.getD i []).length)) sig.length||decide (20<sec.length)
def qsi (t:Tk):Bool:=decide (12<t.text.length)||(decide (12<t.norm.length)||(decide (20<t.page.length)||decide (20<t.name.length)))
def qvz (i:Nat) (r:List Tk):Bool:=decide (6<r.length)||((decide (4≤i)&&decide (1<r.length))||zr (fun k=>qsi (r.getD k default)) r.length)
def prN (L:List (List Tk)):Nat→Nat
 |0=>1
 |i+1=>if i<4 then prN L i*((L.getD i []).length+1) else prN L i
def gtB (L:List (List Tk)):Bool:=zr (fun i=>qvz i (L.getD i [])) L.length||(decide (400<prN L L.length)||((decide (6<L.length)&&decide (L.length≤32))||decide (34<L.length)))
end RC
end
section
open Go Go.Proofs AF HY LN
namespace RC
set_option maxHeartbeats 16000000
structure CoB (x:Co):Prop where
 sg:x.sig.length≤9223372036854775807
 tk:x.tok.length≤9223372036854775807
 cl:x.col.length≤9223372036854775807
def qxR (x:Co):Bool:=zr (fun i=>decide (36<(x.col.getD i []).length)) x.col.length||(gtB x.tok||(decide (24<x.col.length)||(decide (36<x.sig.length)||gnB x.sec x.sig)))
def guR (u:Un) (k:Nat):Bool:=decide (8<(u.rds.getD k default).src.length)||gwB (u.rds.getD k default).words 8
def guB (u:Un):Bool:=decide (6<u.rds.length)||zr (guR u) u.rds.length
def qxS (l:List Un):Bool:=zr (fun i=>guB (l.getD i default)) l.length||decide (12<l.length)
structure UnB (l:List Un):Prop where
 n:l.length≤9223372036854775807
 rd: ∀i,(l.getD i default).rds.length≤9223372036854775807
 wd: ∀i j,((l.getD i default).rds.getD j default).words.length≤9223372036854775807
end RC
end
section
open Go Go.Proofs AF
def qjB:List Nat:= []
def qyU:C:=
 ((C.ops [⟨some 0,none,.alloc 0 26 [.str [],.nl,.nl,.nl],[]⟩]).seq ((C.ops [⟨some 1,none,.bslc 1 1 2 9 [.str []] [(0,1),(1,1)],[.c (.str [65]),.c (.str [66])]⟩,ON 2
 (.call 163 true) [.c (.str [100,101,117,115])],ON 3 (.call 163 true) [.c (.str [101,115,116])],ON 4 (.call 163 true) [.c (.str [98,111,110,117,115])],⟨some 5,none,
 .bslc 2 6 3 124 [.str [],.str [],.str [],i6 0,i6 0,.str []] [(0,6),(6,6),(12,6)],[.t 2,.t 3,.t 4]⟩,ON 6 (.call 163 true) [.c (.str [100,101,117,115])],ON 7 (.call
 163 true) [.c (.str [98,111,110,117,115])],⟨some 8,none,.bslc 3 6 2 124 [.str [],.str [],.str [],i6 0,i6 0,.str []] [(0,6),(6,6)],[.t 6,.t 7]⟩,⟨some 9,none,
 .bslc 4 1 2 125 [.nl] [(0,1),(1,1)],[.t 5,.t 8]⟩,⟨some 10,none,.bslc 5 1 2 3 [i6 0] [(0,1),(1,1)],[.c (i6 0),.c (i6 0)]⟩,⟨some 11,none,.bslc 6 1 2 3 [i6 0] [(0,1),
 (1,1)],[.c (i6 1),.c (i6 (-1))]⟩,⟨some 12,none,.bslc 7 1 2 3 [i6 0] [(0,1),(1,1)],[.c (i6 2),.c (i6 1)]⟩,⟨some 13,none,.bslc 8 1 3 62 [.nl] [(0,1),(1,1),(2,1)],
 [.t 10,.t 11,.t 12]⟩,⟨some 14,none,.build [.str [],.nl,.nl,.nl] [(0,1),(1,1),(2,1),(3,1)],[.c (.str [97]),.t 1,.t 9,.t 13]⟩,ST 4 0 14]).seq
 C.ret))
theorem qxQ:qL Tryz.prog 97 15 9 [RV.cell 0 (some 4)] qyU:=fi Tryz.f97 [0,1,5,8,9,10,11,12,13] qjB [] (by kernel_rfl) (by kernel_rfl) (by kernel_rfl) (by kernel_rfl)
def qth:C:=
 ((C.ops [⟨some 2,none,.alloc 0 124 [.str [],.str [],.str [],i6 0,i6 0,.str []],[]⟩]).seq ((C.ops [MV 3 0,MV 4 0,⟨some 5,none,.build [.str [],.str [],.str [],i6 0,i6
 0,.str []] [(0,1),(1,1)],[.t 3,.t 4]⟩,ST 6 2 5]).seq
 C.ret))
theorem quy:qL Tryz.prog 163 6 1 [RV.cell 2 (some 6)] qth:=fi Tryz.f163 [2] qjB [] (by kernel_rfl) (by kernel_rfl) (by kernel_rfl) (by kernel_rfl)
end
section
open Go Go.Proofs AF HY LN
namespace RC
set_option maxHeartbeats 16000000
def jX (L:List (List Str)):AV:= .sl L.length fun i=> [strs (L.getD i [])]
def jV (L:List Bool):AV:= .sl L.length fun i=> [.bool (L.getD i false)]
theorem flag_clsV (L:List (List Str)):(jX L).flag=true:=rfl
theorem strip_clsV (L:List (List Str)):(jX L).strip=jX L:=rfl
theorem flag_bolV (L:List Bool):(jV L).flag=true:=rfl
theorem strip_bolV (L:List Bool):(jV L).strip=jV L:=rfl
section
variable {fz : Nat → Bool} {h : List AObj} {n : Nat}
theorem rei_clsV (L:List (List Str)):rei fz h (n+1) (jX L)=jX L:=rfl
theorem rei_bolV (L:List Bool):rei fz h (n+1) (jV L)=jV L:=rfl
theorem frz_clsV (L:List (List Str)):frz fz h (n+1) (jX L)=jX L:=rfl
theorem frz_bolV (L:List Bool):frz fz h (n+1) (jV L)=jV L:=rfl
end
attribute [go_sem] flag_clsV strip_clsV flag_bolV strip_bolV rei_clsV rei_bolV frz_clsV frz_bolV
structure ApB (a:Ap):Prop where
 x:CoB a.x
 l:UnB a.l
 c:a.cls.length≤9223372036854775807
 cw: ∀i,(a.cls.getD i []).length≤9223372036854775807
 b:a.b.length≤9223372036854775807
 g:a.gs.length≤9223372036854775807
 y:a.lay.length≤9223372036854775807
 p:a.pos.length≤9223372036854775807
def qxT (a:Ap):Bool:=qxR a.x||(qxS a.l||(qra a.x.sig a.gs||(decide (18<a.gs.length)||(decide (12<a.cls.length)||(zr (fun j=>gwB (a.cls.getD j []) 8) a.cls.length||(decide (14<a.b.length)||(zr (fun j=>decide (30<(a.b.getD j default).text.length)) a.b.length||(decide (18<a.lay.length)||(zr (fun j=>decide (40<(a.lay.getD j []).length)) a.lay.length||decide (20<a.pos.length))))))))))
end RC
end
section
open Go Go.Proofs AF HY LN
namespace RC
theorem qU {α:Type} {d:α} (L:List α) (P:α→Prop) (hd:P d) (h: ∀i,i<L.length→P (L.getD i d)): ∀i,P (L.getD i d):=by
 intro i
 by_cases hi:i<L.length
 ·exact h i hi
 ·rw [gdqA,List.getElem?_eq_none (by omega)]
  exact hd
theorem qvm {x:Co} (h:qxR x=false):qsL x∧x.col.length≤24∧x.sig.length≤36:=by
 unfold qxR at h
 rw [Bool.or_eq_false_iff,Bool.or_eq_false_iff,Bool.or_eq_false_iff,Bool.or_eq_false_iff,qq,decide_eq_false_iff_not,decide_eq_false_iff_not]at h
 obtain ⟨h1,h2,h3,h4,h5⟩:=h
 unfold gtB at h2
 rw [Bool.or_eq_false_iff,qq,Bool.or_eq_false_iff,Bool.or_eq_false_iff,decide_eq_false_iff_not,decide_eq_false_iff_not]at h2
 obtain ⟨t1,t2,t3,t4⟩:=h2
 unfold gnB at h5
 rw [Bool.or_eq_false_iff,qq,decide_eq_false_iff_not]at h5
 obtain ⟨n1,n2⟩:=h5
 have hrow: ∀i,i<x.tok.length→(x.tok.getD i []).length≤6∧ ∀j,j<(x.tok.getD i []).length→qsi ((x.tok.getD i []).getD j default)=false:=fun i hi=>by
  have:=t1 i hi
  unfold qvz at this
  rw [Bool.or_eq_false_iff,Bool.or_eq_false_iff,decide_eq_false_iff_not,qq]at this
  exact ⟨by omega,this.2.2⟩
 have hd0:qpT (default:Tk):=⟨by decide,by decide,by decide,by decide⟩
 refine ⟨⟨by omega,by omega,?_,by omega,?_,?_,by omega,?_⟩,by omega,by omega⟩
 ·exact qU x.sig (fun s=>s.length≤1000000000) (by decide) fun i hi=>by
   have:=of_decide_eq_false (n1 i hi)
   omega
 ·exact qU x.tok (fun s=>s.length≤1000000000) (by decide) fun i hi=>by have:=(hrow i hi).1;omega
 ·exact qU x.tok (fun s=> ∀j,qpT (s.getD j default)) (fun j=>by simpa using hd0) fun i hi=>qU _ qpT hd0 fun j hj=>by
   have:=(hrow i hi).2 j hj
   unfold qsi at this
   simp only [Bool.or_eq_false_iff,decide_eq_false_iff_not]at this
   exact ⟨by omega,by omega,by omega,by omega⟩
 ·exact qU x.col (fun s=>s.length≤1000000000) (by decide) fun i hi=>by
   have:=of_decide_eq_false (h1 i hi)
   omega
theorem qvn {l:List Un} (h:qxS l=false):qsY l∧l.length≤12:=by
 unfold qxS at h
 rw [Bool.or_eq_false_iff,qq,decide_eq_false_iff_not]at h
 obtain ⟨h1,h2⟩:=h
 have hu: ∀i,i<l.length→(l.getD i default).rds.length≤6∧ ∀j,j<(l.getD i default).rds.length→((l.getD i default).rds.getD j default).src.length≤8∧((l.getD i default).rds.getD j default).words.length≤8:=fun i hi=>by
  have:=h1 i hi
  unfold guB at this
  rw [Bool.or_eq_false_iff,decide_eq_false_iff_not,qq]at this
  refine ⟨by omega,fun j hj=> ?_⟩
  have h3:=this.2 j hj
  unfold guR at h3
  rw [Bool.or_eq_false_iff,decide_eq_false_iff_not]at h3
  have:=(qpE h3.2).1
  exact ⟨by omega,by omega⟩
 refine ⟨⟨by omega,?_,?_,?_⟩,by omega⟩
 ·exact qU l (fun u=>u.rds.length≤1000000000) (by decide) fun i hi=>by have:=(hu i hi).1;omega
 ·exact qU l (fun u=> ∀j,(u.rds.getD j default).src.length≤1000000000) (fun j=>by simp [show (default:Un).rds= []from rfl,show (default:Rd).src= []from rfl]) fun i hi=>qU _ (fun r:Rd=>r.src.length≤1000000000) (by decide) fun j hj=>by have:=(hu i hi).2 j hj;omega
 ·exact qU l (fun u=> ∀j,(u.rds.getD j default).words.length≤1000000000) (fun j=>by simp [show (default:Un).rds= []from rfl,show (default:Rd).words= []from rfl]) fun i hi=>qU _ (fun r:Rd=>r.words.length≤1000000000) (by decide) fun j hj=>by have:=(hu i hi).2 j hj;omega
structure qxl (a:Ap):Prop where
 co:qsL a.x
 un:qsY a.l
 l12:a.l.length≤12
 b14:a.b.length≤14
 bt: ∀i,(a.b.getD i default).text.length≤30
 y18:a.lay.length≤18
 yl: ∀i,(a.lay.getD i []).length≤40
 p20:a.pos.length≤20
 c12:a.cls.length≤12
 cw: ∀i,(a.cls.getD i []).length≤8
 g42:qra a.x.sig a.gs=false
theorem qrc {a:Ap} (h:qxT a=false):qxl a:=by
 unfold qxT at h
 simp only [Bool.or_eq_false_iff,decide_eq_false_iff_not]at h
 obtain ⟨h1,h2,h3,h4,h5,h6,h7,h8,h9,h10,h11⟩:=h
 obtain ⟨o1,o2,o3⟩:=qvm h1
 obtain ⟨u1,u2⟩:=qvn h2
 refine ⟨o1,u1,u2,by omega,?_,by omega,?_,by omega,by omega,?_,h3⟩
 ·exact qU a.b (fun w=>w.text.length≤30) (by decide) fun i hi=>by have:=of_decide_eq_false (qq.1 h8 i hi);omega
 ·exact qU a.lay (fun s=>s.length≤40) (by decide) fun i hi=>by have:=of_decide_eq_false (qq.1 h10 i hi);omega
 ·exact qU a.cls (fun w=>w.length≤8) (by decide) fun i hi=>(qpE (qq.1 h6 i hi)).1
end RC
end
section
namespace AF
open Go
theorem Wk.moveCell {t:List AV} {h:List AObj} {i j a w v:Nat} {ty ty':TypeId} {ds cs:List AV} {sz off len:Nat}
  (hi:qy i h=some (.mem w ty' ds)) (ha:ds[a]? =some (.osl j v sz off len)) (hj:qy j h=some (.mem v ty cs)) (hne:i≠j):
  Wk t h t (qG i (qG j h (.emp (v+1))) (.mem w ty' (ds.set a (.osl h.length 1 sz off len)))++ [.mem 1 ty cs]):=by
 intro N W σ A H
 obtain ⟨p1,p2⟩:=H.hr.pushN 1
 have hjl:=j0 hj
 have hil:=j0 hi
 have hj':qy j (h++ [.emp 0])=some (.mem v ty cs):=by rw [qbI hjl];exact hj
 have hg:qy h.length (h++ [AObj.emp 0])=some (.emp 0):=by unfold qy;rw [List.getElem?_append_right (Nat.le_refl _),Nat.sub_self];rfl
 have hk':qE (h++ [.emp 0]) h.length=true:=by unfold qE;rw [hg]
 obtain ⟨σ2,q1,q2,q3⟩:=HR.move (h:=h++ [.emp 0]) p1 hj' hk' (by omega)
 have e0:qG h.length (qG j (h++ [.emp 0]) (.emp (v+1))) (.mem (qr (qy h.length (h++ [.emp 0]))+1) ty cs)=qG j h (.emp (v+1))++ [.mem 1 ty cs]:=by
  rw [hg]
  unfold qG
  rw [List.set_append_left _ _ hjl,List.set_append_right _ _ (by rw [List.length_set];exact Nat.le_refl _),List.length_set,Nat.sub_self]
  rfl
 rw [e0]at q1
 rw [hg]at q3
 have ee:=p2.trans q2
 have hiq:qy i (qG j h (.emp (v+1))++ [.mem 1 ty cs])=some (.mem w ty' ds):=by
  rw [qbI (by rw [jy];exact hil),qa4 (by exact hne)]
  exact hi
 obtain ⟨o,b,arr,o1,o2,o3,o4,o5,o6,o7,o8,o9⟩:=zP q1 (qX hiq)
 obtain ⟨o',b',arr',r1,r2,r3,r4,r5,r6,r7,r8,r9⟩:=zP H.hr (qX hi)
 obtain ⟨o2',s1,s2,s3⟩:=ee.obj i o' r1
 rw [o1]at s1
 cases s1
 have eo:o=o':=s3 (o2.trans r2.symm)
 subst eo
 rw [o4]at r4
 cases r4
 have earr:arr=arr':=by
  obtain ⟨T,fz,_,x1⟩:=o5
  obtain ⟨T',fz',_,x2⟩:=r5
  rw [x1]at x2
  cases x2
  rfl
 subst earr
 have q:=q1.recell (cs':=ds.set a (.osl h.length 1 sz off len)) hiq o1 o4 o5 o6 (by simpa using o7) (fun n x hn hx=>o8 n x (by simpa using hn) hx) (fun n d x hd hx=>by
  rw [List.getElem?_set]at hd
  split at hd
  ·rename_i e
   subst e
   split at hd
   ·cases hd
    exact q3 sz off len x ((r9 a _ x ha hx).ext p2)
   ·cases hd
  ·exact o9 n d x hd hx)
 have e1:qG i (qG j h (.emp (v+1))++ [.mem 1 ty cs]) (.mem w ty' (ds.set a (.osl h.length 1 sz off len)))=qG i (qG j h (.emp (v+1))) (.mem w ty' (ds.set a (.osl h.length 1 sz off len)))++ [.mem 1 ty cs]:=by
  unfold qG
  rw [List.set_append_left _ _ (by rw [List.length_set];exact hil)]
 rw [e1]at q
 exact ⟨σ2,⟨q,H.sz,fun n d x hd hx=>(H.tm n d x hd hx).ext ee,kX ee H.df⟩,ee⟩
end AF
end
