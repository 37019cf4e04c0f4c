import Derived.Test.YthlgfjbghnildaaGreatDoorK8
import Derived.Test.YthlgfjbghnildaaGreatDoorK3
import Derived.Below
import Derived.Test.YthlgfjbghnildaaGreatDoorK0
import Derived.Lib.AppendIntMem
import Derived.Stop.LaidErr
import Derived.Lib.ItoaLen
import Derived.Test.YthlgfjbghnildaaGreatDoorK4
set_option linter.all false
set_option linter.unusedSimpArgs false
set_option linter.unusedVariables false
set_option linter.unusedSectionVars false
set_option maxRecDepth 100000
section
open Go Go.Proofs AF HY LN
namespace RC
structure Szs (names:List Str) (gs:List Gr):Prop where
 n:names.length≤1000000000
 g:gs.length≤1000000000
 ns: ∀i,(names.getD i []).length≤1000000000
 gn: ∀i,(gs.getD i default).name.length≤1000000000
 gm: ∀i,(gs.getD i default).mem.length≤1000000000
set_option maxHeartbeats 4000000 in
theorem sgP (names:List Str) (gs:List Gr) (h:List AObj) (hz:Szs names gs):qm Tryz.prog 59 [strs names,qt gs] h (.int .i64 (sgE names gs)) h:=by
 obtain ⟨z1,z2,z3,z4,z5⟩:=hz
 obtain ⟨R,hR⟩: ∃R,R=sgE names gs:=⟨_,rfl⟩
 rw [←hR]
 unfold sgE at hR
 by_cases g0:32<names.length
 ·have k0:((32:Int)<names.length)=True:=eq_true (by omega)
  rw [if_pos g0]at hR
  rw [hR]
  refine acO quN ?_
  simp (disch:=omega) only [qwV,List.replicate,strs,qt,k0,go_sem]
  repeat' first
   |((first|apply qc|apply qb);exact rvk;simp only [go_sem];first|exact VLe.refl _|apply qd|apply qa|apply qe|skip)
   |with_reducible first|refine And.intro ?_ ?_|intro _
  all_goals try exact clz
 have k0:((32:Int)<names.length)=False:=eq_false (by omega)
 rw [if_neg g0]at hR
 refine acO quN ?_
 simp (disch:=omega) only [qwV,List.replicate,strs,qt,k0,go_sem]
 repeat' first
  |((first|apply qc|apply qb);exact rvk;simp only [go_sem];first|exact VLe.refl _|apply qd|apply qa|apply qe|skip)
  |with_reducible first|refine And.intro ?_ ?_|intro _
 all_goals try exact clz
 refine qn (T:=fun i:Nat=>qI 70 [(0,strs names),(1,qt gs),(13,strs names),(14,.int .i64 names.length),(15,.int .i64 i)]) (H:=fun _=>h++ [.emp 0]) (inv:=fun i=>i≤names.length∧ ∀j,j<i→kf names j=0) (m:=fun i=>names.length-i) 0 ⟨Nat.zero_le _,fun j hj=>by omega⟩ (Wk.temps ?_) ?_
 ·(simp only [strs,qt,List.replicate,go_sem,qj,qh,qg,qi];try (repeat' first|(with_reducible refine And.intro ?_ ?_)|(apply qd;omega)|(apply qa;rfl)|exact VLe.refl _))
 rintro i ⟨i1,i2⟩ K hK
 by_cases hi:i<names.length
 ·have k1:((i:Int)<names.length)=True:=eq_true (by omega)
  have k2:((i:Int)≤names.length)=True:=eq_true (by omega)
  have hE:=qP (f:=kf names) hi i2
  have hs:kf names i=if qou (names.getD i [])=false then 14 else if jb (fun j=>decide (names.getD i []=names.getD j [])) i=true then 7 else 0:=rfl
  have c87:=fun h=>qx5 (names.getD i []) h (z3 i)
  have c88:=fun h=>qqu i (fun j=>names.getD j []) (names.getD i []) h (by omega)
  obtain ⟨s,hsx⟩: ∃s,s=names.getD i []:=⟨_,rfl⟩
  have es:=hsx.symm
  rw [es]at hs c87
  simp only [es]at hs c88
  cases g1:qou s with
  |false=>
   rw [g1]at c87
   rw [if_pos g1]at hs
   have hV:R=14:=by rw [hR,hE (by rw [hs];decide),hs];rfl
   rw [hV]
   simp (disch:=omega) only [List.replicate,strs,qt,k1,k2,es,go_sem]
   repeat' first
    |((first|refine cA (c87 _) ?_ ?_|refine cG (fun e=>c87 _) ?_ ?_|refine cU (fun _=>c87 _) ?_ ?_);(next=>exact flk);simp (disch:=omega) only [strs,qt,k1,k2,es,go_sem])
    |((first|apply qc|apply qb);exact rvk;simp only [go_sem];first|exact VLe.refl _|apply qd|apply qa|apply qe|skip)
    |with_reducible first|refine And.intro ?_ ?_|intro _
   all_goals try exact clz
  |true=>
  rw [g1]at c87
  rw [if_neg (by rw [g1];simp)]at hs
  cases g2:jb (fun j=>decide (s=names.getD j [])) i with
  |true=>
   rw [g2]at c88
   rw [if_pos g2]at hs
   have hV:R=7:=by rw [hR,hE (by rw [hs];decide),hs];rfl
   rw [hV]
   simp (disch:=omega) only [List.replicate,strs,qt,k1,k2,es,Nat.sub_zero,go_sem]
   repeat' first
    |((first|refine cA (c87 _) ?_ ?_|refine cG (fun e=>c87 _) ?_ ?_|refine cA (c88 _) ?_ ?_|refine cG (fun e=>c88 _) ?_ ?_|refine cU (fun _=>c87 _) ?_ ?_|refine cU (fun _=>c88 _) ?_ ?_);(next=>exact flk);simp (disch:=omega) only [strs,qt,k1,k2,es,Nat.sub_zero,go_sem])
    |((first|apply qc|apply qb);exact rvk;simp only [go_sem];first|exact VLe.refl _|apply qd|apply qa|apply qe|skip)
    |with_reducible first|refine And.intro ?_ ?_|intro _
   all_goals try exact clz
  |false=>
   rw [g2]at c88
   rw [if_neg (by rw [g2];simp)]at hs
   simp (disch:=omega) only [List.replicate,strs,qt,k1,k2,es,Nat.sub_zero,go_sem]
   repeat' first
    |((first|refine cA (c87 _) ?_ ?_|refine cG (fun e=>c87 _) ?_ ?_|refine cA (c88 _) ?_ ?_|refine cG (fun e=>c88 _) ?_ ?_|refine cU (fun _=>c87 _) ?_ ?_|refine cU (fun _=>c88 _) ?_ ?_);(next=>exact flk);simp (disch:=omega) only [strs,qt,k1,k2,es,Nat.sub_zero,go_sem])
    |((first|apply qc|apply qb);exact rvk;simp only [go_sem];first|exact VLe.refl _|apply qd|apply qa|apply qe|skip)
    |with_reducible first|refine And.intro ?_ ?_|intro _
   all_goals try exact clz
   refine hK _ _ (i+1) ⟨hi,fun j hj=> ?_⟩ (by omega) (Wk.temps ?_)
   ·by_cases e:j=i
    ·subst e;exact hs
    ·exact i2 j (by omega)
   ·(simp only [strs,qt,List.replicate,go_sem,qj,qh,qg,qi];try (repeat' first|(with_reducible refine And.intro ?_ ?_)|(apply qd;omega)|(apply qa;rfl)|exact VLe.refl _))
 have k1:((i:Int)<names.length)=False:=eq_false (by omega)
 have hn0:=qA (f:=kf names) (fun j (hj:j<names.length)=>i2 j (by omega))
 rw [if_neg (fun hc=>hc hn0)]at hR
 by_cases g1:16<gs.length
 ·have k2:((16:Int)<gs.length)=True:=eq_true (by omega)
  rw [if_pos g1]at hR
  rw [hR]
  simp (disch:=omega) only [List.replicate,strs,qt,k1,k2,go_sem]
  repeat' first
   |((first|apply qc|apply qb);exact rvk;simp only [go_sem];first|exact VLe.refl _|apply qd|apply qa|apply qe|skip)
   |with_reducible first|refine And.intro ?_ ?_|intro _
  all_goals try exact clz
 have k2:((16:Int)<gs.length)=False:=eq_false (by omega)
 rw [if_neg g1]at hR
 simp (disch:=omega) only [List.replicate,strs,qt,k1,k2,go_sem]
 repeat' first
  |((first|apply qc|apply qb);exact rvk;simp only [go_sem];first|exact VLe.refl _|apply qd|apply qa|apply qe|skip)
  |with_reducible first|refine And.intro ?_ ?_|intro _
 all_goals try exact clz
 refine qn (T:=fun i:Nat×Nat=>qI 70 [(0,strs names),(1,qt gs),(32,qt gs),(33,.int .i64 gs.length),(34,.int .i64 i.1)]) (H:=fun i=>h++ [.emp i.2]) (inv:=fun i=>i.1≤gs.length∧ ∀j,j<i.1→qbS names gs j=0) (m:=fun i=>gs.length-i.1) (0,0) ⟨Nat.zero_le _,fun j hj=>absurd hj (Nat.not_lt_zero j)⟩ (Wk.temps ?_) ?_
 ·(simp only [strs,qt,List.replicate,go_sem,qj,qh,qg,qi];try (repeat' first|(with_reducible refine And.intro ?_ ?_)|(apply qd;omega)|(apply qa;rfl)|exact VLe.refl _))
 rintro ⟨i,v⟩ ⟨i1,i2⟩ K hK
 simp only at i1 i2 hK
 by_cases hi:i<gs.length
 ·have k3:((i:Int)<gs.length)=True:=eq_true (by omega)
  have k4:((i:Int)≤gs.length)=True:=eq_true (by omega)
  have hE:=qP (f:=qbS names gs) hi i2
  have hs:qbS names gs i=if jI (gs.getD i default).name=false then 14 else if jb (fun j=>decide ((gs.getD i default).name=names.getD j [])) names.length=true then 7 else
   if jb (fun j=>decide ((gs.getD i default).name=(gs.getD j default).name)) i=true then 7 else if (gs.getD i default).mem.length=0 then 5 else qad names.length (gs.getD i default).mem:=rfl
  have z4i:=z4 i
  have z5i:=z5 i
  obtain ⟨g,hg⟩: ∃g,g=gs.getD i default:=⟨_,rfl⟩
  have eg:=hg.symm
  simp only [eg]at hs z4i z5i
  have c89:=fun h=>t44 g.name h z4i
  have c88:=fun h=>qqu names.length (fun j=>names.getD j []) g.name h z1
  have c90:=fun h hk=>qzn i gs g.name (List.length h) (v+1) (ql g.mem) (h++ [.mem (v+1) 85 (grC g)]) hk (by omega) z2
  have c90:=c90 h (by rw [getO_app0];rfl)
  have c92:=fun h=>qy5 g.mem names.length h z5i
  cases g2:jI g.name with
  |false=>
   rw [g2]at c89
   rw [if_pos g2]at hs
   have hV:R=14:=by rw [hR,hE (by rw [hs];decide),hs]
   rw [hV]
   simp (disch:=omega) only [List.replicate,strs,qt,grC,ql,k3,k4,eg,go_sem]
   repeat' first
    |((first|refine cA (c89 _) ?_ ?_|refine cG (fun e=>c89 _) ?_ ?_|refine cU (fun _=>c89 _) ?_ ?_);(next=>exact flk);simp (disch:=omega) only [strs,qt,grC,ql,k3,k4,eg,go_sem])
    |((first|apply qc|apply qb);exact rvk;simp only [go_sem];first|exact VLe.refl _|apply qd|apply qa|apply qe|skip)
    |with_reducible first|refine And.intro ?_ ?_|intro _
   all_goals try exact clz
  |true=>
  rw [g2]at c89
  rw [if_neg (by rw [g2];simp)]at hs
  cases g3:jb (fun j=>decide (g.name=names.getD j [])) names.length with
  |true=>
   rw [g3]at c88
   rw [if_pos g3]at hs
   have hV:R=7:=by rw [hR,hE (by rw [hs];decide),hs]
   rw [hV]
   simp (disch:=omega) only [List.replicate,strs,qt,grC,ql,k3,k4,eg,go_sem]
   repeat' first
    |(refine qo ( .bool false) ?_;simp (disch:=omega) only [strs,qt,grC,ql,k3,k4,eg,go_sem])
    |((first|refine cA (c89 _) ?_ ?_|refine cG (fun e=>c89 _) ?_ ?_|refine cA (c88 _) ?_ ?_|refine cG (fun e=>c88 _) ?_ ?_|refine cU (fun _=>c89 _) ?_ ?_|refine cU (fun _=>c88 _) ?_ ?_);(next=>exact flk);simp (disch:=omega) only [strs,qt,grC,ql,k3,k4,eg,go_sem])
    |((first|apply qc|apply qb);exact rvk;simp only [go_sem];first|exact VLe.refl _|apply qd|apply qa|apply qe|skip)
    |with_reducible first|refine And.intro ?_ ?_|intro _
   all_goals try exact clz
  |false=>
  rw [g3]at c88
  rw [if_neg (by rw [g3];simp)]at hs
  cases g4:jb (fun j=>decide (g.name=(gs.getD j default).name)) i with
  |true=>
   rw [g4]at c90
   rw [if_pos g4]at hs
   have hV:R=7:=by rw [hR,hE (by rw [hs];decide),hs]
   rw [hV]
   simp only [grC,ql]at c90
   simp (disch:=omega) only [List.replicate,strs,qt,grC,ql,k3,k4,eg,Nat.sub_zero,go_sem]
   repeat' first
    |((first|refine cA (c89 _) ?_ ?_|refine cG (fun e=>c89 _) ?_ ?_|refine cA (c88 _) ?_ ?_|refine cG (fun e=>c88 _) ?_ ?_|refine cA (c90) ?_ ?_|refine cG (fun e=>c90) ?_ ?_|refine cU (fun _=>c89 _) ?_ ?_|refine cU (fun _=>c88 _) ?_ ?_);(next=>exact flk);simp (disch:=omega) only [strs,qt,grC,ql,k3,k4,eg,Nat.sub_zero,go_sem])
    |((first|apply qc|apply qb);exact rvk;simp only [go_sem];first|exact VLe.refl _|apply qd|apply qa|apply qe|skip)
    |with_reducible first|refine And.intro ?_ ?_|intro _
   all_goals try exact clz
  |false=>
  rw [g4]at c90
  rw [if_neg (by rw [g4];simp)]at hs
  simp only [grC,ql]at c90
  by_cases g5:g.mem.length=0
  ·have k5:((g.mem.length:Int)=0)=True:=eq_true (by omega)
   rw [if_pos g5]at hs
   have hV:R=5:=by rw [hR,hE (by rw [hs];decide),hs]
   rw [hV]
   simp (disch:=omega) only [List.replicate,strs,qt,grC,ql,k3,k4,eg,Nat.sub_zero,go_sem]
   repeat' first
    |((first|refine cA (c89 _) ?_ ?_|refine cG (fun e=>c89 _) ?_ ?_|refine cA (c88 _) ?_ ?_|refine cG (fun e=>c88 _) ?_ ?_|refine cA (c90) ?_ ?_|refine cG (fun e=>c90) ?_ ?_|refine cU (fun _=>c89 _) ?_ ?_|refine cU (fun _=>c88 _) ?_ ?_);(next=>exact flk);simp (disch:=omega) only [strs,qt,grC,ql,k3,k4,eg,Nat.sub_zero,k5,go_sem])
    |((first|apply qc|apply qb);exact rvk;simp only [go_sem];first|exact VLe.refl _|apply qd|apply qa|apply qe|skip)
    |with_reducible first|refine And.intro ?_ ?_|intro _
   all_goals try exact clz
  have k5:((g.mem.length:Int)=0)=False:=eq_false (by omega)
  rw [if_neg g5]at hs
  unfold ql at c92
  obtain ⟨e,he⟩: ∃e,e=qad names.length g.mem:=⟨_,rfl⟩
  rw [←he]at c92 hs
  by_cases g6:e=0
  ·have k6:(e=0)=True:=eq_true g6
   simp (disch:=omega) only [List.replicate,strs,qt,grC,ql,k3,k4,eg,Nat.sub_zero,go_sem]
   repeat' first
    |((first|refine cA (c89 _) ?_ ?_|refine cG (fun e=>c89 _) ?_ ?_|refine cA (c88 _) ?_ ?_|refine cG (fun e=>c88 _) ?_ ?_|refine cA (c90) ?_ ?_|refine cG (fun e=>c90) ?_ ?_|refine cA (c92 _) ?_ ?_|refine cG (fun e=>c92 _) ?_ ?_|refine cU (fun _=>c89 _) ?_ ?_|refine cU (fun _=>c88 _) ?_ ?_|refine cU (fun _=>c92 _) ?_ ?_);(next=>exact flk);simp (disch:=omega) only [strs,qt,grC,ql,k3,k4,eg,Nat.sub_zero,k5,k6,go_sem])
    |((first|apply qc|apply qb);exact rvk;simp only [go_sem];first|exact VLe.refl _|apply qd|apply qa|apply qe|skip)
    |with_reducible first|refine And.intro ?_ ?_|intro _
   all_goals try exact clz
   refine hK _ _ (i+1,v+1+1) ⟨hi,fun j hj=> ?_⟩ (by simp only;omega) (Wk.trans Wk.kill0 (Wk.temps ?_))
   ·by_cases e':j=i
    ·subst e';rw [hs,g6]
    ·exact i2 j (by simp only at hj;omega)
   ·(simp only [strs,qt,List.replicate,go_sem,qj,qh,qg,qi];try (repeat' first|(with_reducible refine And.intro ?_ ?_)|(apply qd;omega)|(apply qa;rfl)|exact VLe.refl _))
  ·have k6:(e=0)=False:=eq_false g6
   have hV:R=e:=by rw [hR,hE (by rw [hs];exact g6),hs]
   rw [hV]
   simp (disch:=omega) only [List.replicate,strs,qt,grC,ql,k3,k4,eg,Nat.sub_zero,go_sem]
   repeat' first
    |((first|refine cA (c89 _) ?_ ?_|refine cG (fun e=>c89 _) ?_ ?_|refine cA (c88 _) ?_ ?_|refine cG (fun e=>c88 _) ?_ ?_|refine cA (c90) ?_ ?_|refine cG (fun e=>c90) ?_ ?_|refine cA (c92 _) ?_ ?_|refine cG (fun e=>c92 _) ?_ ?_|refine cU (fun _=>c89 _) ?_ ?_|refine cU (fun _=>c88 _) ?_ ?_|refine cU (fun _=>c92 _) ?_ ?_);(next=>exact flk);simp (disch:=omega) only [strs,qt,grC,ql,k3,k4,eg,Nat.sub_zero,k5,k6,go_sem])
    |((first|apply qc|apply qb);exact rvk;simp only [go_sem];first|exact VLe.refl _|apply qd|apply qa|apply qe|skip)
    |with_reducible first|refine And.intro ?_ ?_|intro _
   all_goals try exact clz
 ·have k3:((i:Int)<gs.length)=False:=eq_false (by omega)
  rw [qA (fun j (hj:j<gs.length)=>i2 j (by omega))]at hR
  rw [hR]
  simp (disch:=omega) only [List.replicate,strs,qt,k3,go_sem]
  repeat' first
   |((first|apply qc|apply qb);exact rvk;simp only [go_sem];first|exact VLe.refl _|apply qd|apply qa|apply qe|skip)
   |with_reducible first|refine And.intro ?_ ?_|intro _
  all_goals try exact clz
end RC
end
section
open Go Go.Proofs AF HY LN
namespace RC
theorem _root_.AF.Wk.kill2 {t:List AV} {h l:List AObj} {a b:AObj} {v:Nat} {ty:TypeId} {cs:List AV}:Wk t (h++a::b:: .mem v ty cs::l) t (h++a::b:: .emp (v+1)::l):=by
 have:=Wk.kill0 (t:=t) (h:=h++ [a,b]) (l:=l) (v:=v) (ty:=ty) (cs:=cs)
 simpa using this
theorem qaH {n:Int} (h0:0≤n) (h1:n<18446744073709551616):IntKind.u64.wrap n=n:=by
 have e1:(2:Int)^IntKind.bits IntKind.u64=18446744073709551616:=by decide
 have e3:IntKind.signed IntKind.u64=false:=rfl
 unfold IntKind.wrap
 rw [e1,e3]
 simp only [Bool.false_and,Bool.false_eq_true,if_false]
 omega
theorem jL (a:Nat):BitVec.ofInt 64 (a:Int)=BitVec.ofNat 64 a:=by simp
theorem qfX {a b:Nat} (ha:a<2^64) (hb:b<2^64):orK .u64 (a:Int) (b:Int)=((a|||b:Nat):Int):=by
 have hab:a|||b<2^64:=Nat.or_lt_two_pow ha hb
 unfold orK
 rw [show IntKind.bits IntKind.u64=64 from rfl,jL,jL,BitVec.toNat_or,BitVec.toNat_ofNat,BitVec.toNat_ofNat,Nat.mod_eq_of_lt ha,Nat.mod_eq_of_lt hb]
 exact qaH (by omega) (by omega)
theorem qp6 {a b:Nat} (ha:a<2^64) (hb:b<2^64):qwu .u64 (a:Int) (b:Int)=((a&&&b:Nat):Int):=by
 have hab:a&&&b<2^64:=Nat.lt_of_le_of_lt Nat.and_le_left ha
 unfold qwu
 rw [show IntKind.bits IntKind.u64=64 from rfl,jL,jL,BitVec.toNat_and,BitVec.toNat_ofNat,BitVec.toNat_ofNat,Nat.mod_eq_of_lt ha,Nat.mod_eq_of_lt hb]
 exact qaH (by omega) (by omega)
theorem qe0 {n:Nat} (hn:n<64):qx4 .u64 1 (n:Int)=((2^n:Nat):Int):=by
 unfold qx4
 rw [show IntKind.bits IntKind.u64=64 from rfl,Int.toNat_natCast,Nat.min_eq_left (by omega)]
 have h2:(2:Nat)^n<2^64:=Nat.pow_lt_pow_right (by omega) hn
 rw [Int.one_mul,show ((2:Int)^n)=((2^n:Nat):Int) by simp]
 exact qaH (Int.natCast_nonneg _) (Int.ofNat_lt.2 (show 2^n<18446744073709551616 from h2))
theorem qr9 {a n:Nat} (hn:n<64):qwE .u64 (a:Int) (n:Int)=((a>>>n:Nat):Int):=by
 unfold qwE
 rw [show IntKind.bits IntKind.u64=64 from rfl,Int.toNat_natCast,Nat.min_eq_left (by omega),Nat.shiftRight_eq_div_pow,show ((2:Int)^n)=((2^n:Nat):Int) by simp,Int.fdiv_eq_ediv_of_nonneg _ (Int.natCast_nonneg _)]
 rfl
theorem qiU {a n:Nat} (ha:a<2^64) (hn:n<64):qwu .u64 (qwE .u64 (a:Int) (n:Int)) 1=if a.testBit n=true then 1 else 0:=by
 rw [qr9 hn,show (1:Int)=((1:Nat):Int)from rfl,qp6 (Nat.lt_of_le_of_lt (by rw [Nat.shiftRight_eq_div_pow];exact Nat.div_le_self _ _) ha) (by decide)]
 have:(a>>>n)&&&1=(a.testBit n).toNat:=by rw [Nat.testBit];simp [Nat.and_comm 1];rcases Nat.mod_two_eq_zero_or_one (a>>>n)with h|h<;>simp [h]
 rw [this]
 cases a.testBit n<;>rfl
def zU (l:List Int):Nat:=l.foldl (fun a n=>a|||2^n.toNat) 0
def inB (b:Int) (l:List Int):Prop:= ∀i,i<l.length→0≤l.getD i 0∧l.getD i 0<b
theorem qpG (l:List Int): ∀a:Nat,a<2^64→(∀n∈l,0≤n∧n<64)→l.foldl (fun a n=>a|||2^n.toNat) a<2^64∧ ∀i,(l.foldl (fun a n=>a|||2^n.toNat) a).testBit i=(a.testBit i||decide ((i:Int)∈l)):=by
 induction l with
 |nil=>intro a ha _;exact ⟨ha,fun i=>by simp⟩
 |cons n l ih=>
  intro a ha hl
  have hn:=hl n (by simp)
  obtain ⟨h1,h2⟩:=ih (a|||2^n.toNat) (Nat.or_lt_two_pow ha (Nat.pow_lt_pow_right (by omega) (by omega))) (fun m hm=>hl m (by simp [hm]))
  refine ⟨h1,fun i=> ?_⟩
  rw [List.foldl_cons,h2 i,Nat.testBit_or,Nat.testBit_two_pow]
  by_cases e:(i:Int)=n
  ·have e':n.toNat=i:=by omega
   simp [e,e']
  ·have e': ¬n.toNat=i:=by omega
   simp [e,e']
theorem zN {l:List Int} {b:Int} (h:inB b l): ∀n∈l,0≤n∧n<b:=by
 intro n hn
 obtain ⟨i,hi,e⟩:=List.getElem_of_mem hn
 have:=h i hi
 rw [gdqA,qU hi]at this
 rw [←e];exact this
theorem qbb {l:List Int} (h:inB 64 l):zU l<2^64:=(qpG l 0 (by decide) (zN h)).1
theorem zY {l:List Int} (h:inB 64 l) (i:Nat):(zU l).testBit i=decide ((i:Int)∈l):=by
 have:=(qpG l 0 (by decide) (zN h)).2 i
 rw [Nat.zero_testBit,Bool.false_or]at this
 exact this
theorem qnz {l:List Int} {b:Int} {i:Nat} (h:inB b l) (hi:i≤l.length):inB b (l.take i):=by
 intro j hj
 rw [List.length_take]at hj
 have:=h j (by omega)
 rw [gdqA,List.getElem?_take,if_pos (by omega),←gdqA]
 exact this
theorem qnM {l:List Int} {i:Nat} (hi:i<l.length):zU (l.take (i+1))=zU (l.take i)|||2^(l.getD i 0).toNat:=by
 unfold zU
 rw [List.take_add_one,qU hi,List.foldl_append,gdqA,qU hi]
 rfl
theorem qwA (l:List Int) (h:List AObj) (hl:l.length≤1000000000) (hb:inB 64 l):qm Tryz.prog 96 [ql l] h (.int .u64 (zU l:Int)) h:=by
 refine acO qxM ?_
 simp (disch:=omega) only [qyT,List.replicate,ql,go_sem]
 repeat' first
  |((first|apply qc|apply qb);exact rvk;simp only [go_sem];first|exact VLe.refl _|apply qd|apply qa|apply qe|skip)
  |with_reducible first|refine And.intro ?_ ?_|intro _
 all_goals try exact clz
 refine qn (T:=fun i:Nat=>qI 18 [(3,.int .u64 (zU (l.take i):Int)),(6,ql l),(7,.int .i64 l.length),(8,.int .i64 i)]) (H:=fun _=>h) (inv:=fun i=>i≤l.length) (m:=fun i=>l.length-i) 0 (Nat.zero_le _) (Wk.temps ?_) ?_
 ·(simp only [ql,List.replicate,go_sem,qj,qh,qg,qi];try (repeat' first|(with_reducible refine And.intro ?_ ?_)|(apply qd;omega)|(apply qa;rfl)|exact VLe.refl _))
 rintro i i1 K hK
 by_cases hi:i<l.length
 ·have k1:((i:Int)<l.length)=True:=eq_true (by omega)
  have hv:=hb i hi
  have hst:=qnM hi
  obtain ⟨v,hv'⟩: ∃v,v=l.getD i 0:=⟨_,rfl⟩
  have ev:=hv'.symm
  rw [ev]at hv hst
  obtain ⟨u,rfl⟩: ∃u:Nat,v=(u:Int):=⟨v.toNat,by omega⟩
  rw [Int.toNat_natCast]at hst
  have k2:(0≤(u:Int))=True:=eq_true (by omega)
  have e1:=qe0 (n:=u) (by omega)
  have hm:=qbb (qnz hb i1)
  have h2:(2:Nat)^u<2^64:=Nat.pow_lt_pow_right (by omega) (by omega)
  have e2:=qfX hm h2
  simp (disch:=omega) only [List.replicate,ql,k1,k2,ev,e1,e2,go_sem]
  repeat' first
   |((first|apply qc|apply qb);exact rvk;simp only [go_sem];first|exact VLe.refl _|apply qd|apply qa|apply qe|skip)
   |with_reducible first|refine And.intro ?_ ?_|intro _
  all_goals try exact clz
  refine hK _ _ (i+1) hi (by omega) (Wk.temps ?_)
  rw [hst]
  (simp only [ql,List.replicate,go_sem,qj,qh,qg,qi];try (repeat' first|(with_reducible refine And.intro ?_ ?_)|(apply qd;omega)|(apply qa;rfl)|exact VLe.refl _))
 ·have k1:((i:Int)<l.length)=False:=eq_false (by omega)
  have e:i=l.length:=by omega
  subst e
  rw [List.take_length]
  simp (disch:=omega) only [List.replicate,ql,k1,go_sem]
  repeat' first
   |((first|apply qc|apply qb);exact rvk;simp only [go_sem];first|exact VLe.refl _|apply qd|apply qa|apply qe|skip)
   |with_reducible first|refine And.intro ?_ ?_|intro _
  all_goals try exact clz
def qS (p:Nat→Bool) (k:Nat):List Int:=((List.range k).filter p).map Int.ofNat
theorem zT (p:Nat→Bool) (k:Nat):qS p (k+1)=qS p k++if p k=true then [(k:Int)] else []:=by
 unfold qS
 rw [List.range_succ,List.filter_append,List.map_append]
 congr 1
 rw [List.filter_cons]
 split<;>rfl
theorem qX (p:Nat→Bool) (k:Nat):(qS p k).length≤k:=by
 unfold qS
 rw [List.length_map]
 exact Nat.le_trans (List.length_filter_le _ _) (by simp)
def qs (L:List Int):List AV:=L.map fun n=> .int .i64 n
theorem qF (L:List Int):(qs L).length=L.length:=by simp [qs]
theorem qT (L M:List Int):qs (L++M)=qs L++qs M:=by simp [qs]
theorem qdN {L:List Int}:qs L= []↔L= []:=by simp [qs]
theorem zS {L:List Int} {n:Nat} (g:AV→AV) (hg: ∀n,g (.int .i64 n)= .int .i64 n) (hn:n=L.length):VLe (.sl n fun i=>(((qs L).drop i).take 1).map g) (ql L):=by
 subst hn
 refine VLe.sl_eq rfl (fun i hi=> ?_)
 unfold qs
 rw [←List.map_drop,List.drop_eq_getElem_cons hi,List.map_cons,List.take_succ_cons,List.take_zero,List.map_cons,List.map_nil,hg,gdqA,qU hi]
 rfl
set_option maxHeartbeats 2000000 in
theorem qxY (m:Nat) (h:List AObj) (hm:m<2^64):qm Tryz.prog 100 [.int .u64 (m:Int)] h (ql (qS m.testBit 64)) h:=by
 refine acO qt1 ?_
 simp (disch:=omega) only [qs0,List.replicate,go_sem]
 repeat' first
  |((first|apply qc|apply qb);exact rvk;simp only [go_sem];first|exact VLe.refl _|apply qd|apply qa|apply qe|skip)
  |with_reducible first|refine And.intro ?_ ?_|intro _
 all_goals try exact clz
 refine qn (T:=fun i:Nat×Nat×Nat=>qI 19 [(0,.int .u64 (m:Int)),(3,.osl (h.length+1) i.2.1 1 0 (qS m.testBit i.1).length),(5,.int .i64 i.1)]) (H:=fun i=>h++ [.emp 1,zt i.2.1 3 (qs (qS m.testBit i.1)),.emp i.2.2,.emp 0])
  (inv:=fun i=>i.1≤64) (m:=fun i=>64-i.1) (0,1,0) (Nat.zero_le _) (Wk.temps ?_) ?_
 ·(simp only [qS,List.range_zero,List.filter_nil,List.length_nil,List.replicate,go_sem,qj,qh,qg,qi];try (repeat' first|(with_reducible refine And.intro ?_ ?_)|(apply qd;omega)|(apply qa;rfl)|exact VLe.refl _))
 rintro ⟨i,v,w⟩ i1 K hK
 simp only at i1 hK
 have hst:=zT m.testBit i
 have hln:=qX m.testBit i
 obtain ⟨L,hL⟩: ∃L,L=qS m.testBit i:=⟨_,rfl⟩
 rw [←hL]at hst hln
 have eL:=hL.symm
 have eC:=qF L
 by_cases hi:i<64
 ·have k1:((i:Int)<64)=True:=eq_true (by omega)
  have k2:(0≤(i:Int))=True:=eq_true (by omega)
  have e1:=qiU (a:=m) (n:=i) hm hi
  cases g:m.testBit i with
  |true=>
   rw [g,if_pos rfl]at e1
   rw [g,if_pos rfl]at hst
   have eT:List.take L.length (qs L)=qs L:=List.take_of_length_le (by omega)
   simp (disch:=omega) only [List.replicate,k1,k2,e1,eL,Nat.mul_one,go_sem]
   repeat' first
    |((first|apply qc|apply qb);exact rvk;simp only [go_sem];first|exact VLe.refl _|apply qd|apply qa|apply qe|skip)
    |with_reducible first|refine And.intro ?_ ?_|intro _
   all_goals try exact clz
   have eA:qs L++ [AV.int .i64 (i:Int)]=qs (L++ [(i:Int)]):=by rw [qT];rfl
   rw [eT,eA]
   refine hK _ _ (i+1,v+1,w+1+1) hi (by simp only;omega) (Wk.trans Wk.kill2 ?_)
   simp only [hst]
   refine Wk.temps ?_
   (simp only [List.length_append,List.replicate,go_sem,qj,qh,qg,qi];try (repeat' first|(with_reducible refine And.intro ?_ ?_)|(apply qd;omega)|(apply qa;rfl)|exact VLe.refl _))
  |false=>
   rw [g,if_neg (by simp)]at e1
   rw [g,if_neg (by simp),List.append_nil]at hst
   simp (disch:=omega) only [List.replicate,k1,k2,e1,eL,go_sem]
   repeat' first
    |((first|apply qc|apply qb);exact rvk;simp only [go_sem];first|exact VLe.refl _|apply qd|apply qa|apply qe|skip)
    |with_reducible first|refine And.intro ?_ ?_|intro _
   all_goals try exact clz
   refine hK _ _ (i+1,v,w) hi (by simp only;omega) ?_
   simp only [hst]
   refine Wk.temps ?_
   (simp only [List.replicate,go_sem,qj,qh,qg,qi];try (repeat' first|(with_reducible refine And.intro ?_ ?_)|(apply qd;omega)|(apply qa;rfl)|exact VLe.refl _))
 ·have k1:((i:Int)<64)=False:=eq_false (by omega)
  obtain rfl:i=64:=by omega
  rw [←hL]
  by_cases g:L= []
  ·subst g
   have e0:zt v 3 (qs [])= .emp v:=rfl
   rw [e0]
   simp (disch:=omega) only [List.replicate,k1,eL,go_sem]
   repeat' first
    |((first|apply qc|apply qb);exact rvk;simp only [go_sem];first|exact VLe.refl _|apply qd|apply qa|apply qe|skip)
    |with_reducible first|refine And.intro ?_ ?_|intro _
   all_goals try exact clz
   exact zP
  ·have e0:zt v 3 (qs L)= .mem v 3 (qs L):=j4 (fun e=>g (qdN.1 e))
   rw [e0]
   simp (disch:=omega) only [List.replicate,k1,eL,go_sem]
   repeat' first
    |((first|apply qc|apply qb);exact rvk;simp only [go_sem];first|exact VLe.refl _|apply qd|apply qa|apply qe|skip)
    |with_reducible first|refine And.intro ?_ ?_|intro _
   all_goals try exact clz
   rw [if_pos (by omega)]
   refine zS _ ?_ rfl
   intro n
   rfl
end RC
end
section
open Go Go.Proofs AF HY LN
namespace RC
theorem qgM (L:List Int):(ql L).flag=true:=rfl
theorem qfc (L:List Int):(ql L).strip=ql L:=rfl
theorem qjS {fz:Nat→Bool} {h:List AObj} {n:Nat} (L:List Int):frz fz h (n+1) (ql L)=ql L:=rfl
theorem qk6 {fz:Nat→Bool} {h:List AObj} {n:Nat} (L:List Int):rei fz h (n+1) (ql L)=ql L:=rfl
theorem qjJ (L:List Str):(strs L).flag=true:=rfl
theorem qhB (L:List Str):(strs L).strip=strs L:=rfl
theorem qns {fz:Nat→Bool} {h:List AObj} {n:Nat} (L:List Str):frz fz h (n+1) (strs L)=strs L:=rfl
theorem qoi {fz:Nat→Bool} {h:List AObj} {n:Nat} (L:List Str):rei fz h (n+1) (strs L)=strs L:=rfl
theorem qjH (L:List Gr):(qt L).flag=true:=rfl
theorem qhz (L:List Gr):(qt L).strip=qt L:=rfl
theorem qnr {fz:Nat→Bool} {h:List AObj} {n:Nat} (L:List Gr):frz fz h (n+1) (qt L)=qt L:=rfl
theorem qoh {fz:Nat→Bool} {h:List AObj} {n:Nat} (L:List Gr):rei fz h (n+1) (qt L)=qt L:=rfl
attribute [go_sem] qgM qfc qjS qk6 qjJ qhB qns qoi qjH qhz qnr qoh
theorem qzD (x:Gr) (y:Str) (h:List AObj):qm Tryz.prog 104 [.agg (grC x),.ip [.str y]] h (.bool (decide (y=x.name))) h:=by
 have k:decide (x.name=y)=decide (y=x.name):=decide_eq_decide.2 ⟨Eq.symm,Eq.symm⟩
 refine acO qt4 ?_
 simp (disch:=omega) only [qs2,List.replicate,grC,go_sem]
 repeat' first
  |((first|apply qc|apply qb);exact rvk;simp only [go_sem];first|exact VLe.refl _|apply qd|apply qa|apply qe|skip)
  |with_reducible first|refine And.intro ?_ ?_|intro _
 all_goals try exact clz
theorem qzP (n:Nat) (gs:List Gr) (y:Str) (k v:Nat) (h:List AObj) (hk:qy k h=some (.mem v 9 [.str y])) (hn:n≤gs.length) (hl:gs.length≤1000000000):
  qm Tryz.prog 103 [.sl n (fun j=>grC (gs.getD j default)),.fn (.func 104) [] [.op k v 0]] h (.int .i64 (qbo (fun j=>decide (y=(gs.getD j default).name)) n 0)) h:=by
 have hc:=kK hk
 refine qj0 qpp n (fun j=>grC (gs.getD j default)) (fun j=> .agg (grC (gs.getD j default))) _ [] [.op k v 0] _ h (fun i _=>⟨rfl,by simp [jA,grC],rfl,rfl,rfl⟩) (fun i _=> ?_) (by omega)
 refine qm.borrow ?_ rfl
 have e:([AV.agg (grC (gs.getD i default))]++ [AV.op k v 0]).map (rei (fun _=>true) h 8)= [.agg (grC (gs.getD i default)),.ip [.str y]]:=by
  simp only [List.cons_append,List.nil_append,List.map_cons,List.map_nil,rei_op,if_true,hc,ipOf_some,List.drop_zero,rei_agg]
  rfl
 rw [List.nil_append,e]
 exact qzD _ y _
def nIx (names:List Str) (s:Str):Int:=qbo (fun j=>decide (s=names.getD j [])) names.length 0
def gIx (gs:List Gr) (s:Str):Int:=qbo (fun j=>decide (s=(gs.getD j default).name)) gs.length 0
def qag (names:List Str) (gs:List Gr) (sg:List Str) (i:Nat):Int:=
 if nIx names (sg.getD i [])<0∧gIx gs (sg.getD i [])<0 then 6 else if jb (fun j=>decide (sg.getD i []=sg.getD j [])) i=true then 7 else 0
def els (names:List Str) (gs:List Gr) (s:Str):List Int:=if 0≤nIx names s then [nIx names s] else (gs.getD (gIx gs s).toNat default).mem
def qdl (names:List Str) (gs:List Gr) (sg:List Str):Nat→Nat
 |0=>0
 |i+1=>qdl names gs sg i|||zU (els names gs (sg.getD i []))
def jo (names:List Str) (gs:List Gr) (sg:List Str):Int:=if sgE names gs≠0 then 1 else kW (qag names gs sg) 0 sg.length
def zz (names:List Str) (gs:List Gr) (sg:List Str):List Int:=if jo names gs sg=0 then qS (qdl names gs sg sg.length).testBit 64 else []
theorem kD {b:Int} {l:List Int} (h:qad b l=0):inB b l∧ ∀i,0<i→i<l.length→l.getD (i-1) 0<l.getD i 0:=by
 unfold qad at h
 rw [jY]at h
 refine ⟨fun i hi=> ?_,fun i h0 hi=> ?_⟩
 ·have:=h i hi
  unfold qbq at this
  split at this
  ·cases this
  ·rename_i hc;omega
 ·have:=h i hi
  unfold qbq at this
  split at this
  ·cases this
  ·split at this
   ·cases this
   ·rename_i hc;omega
structure qh0 (names:List Str) (gs:List Gr):Prop where
 n32:names.length≤32
 g16:gs.length≤16
 na: ∀i,i<names.length→kf names i=0
 gr: ∀i,i<gs.length→qbS names gs i=0
theorem qbk {names:List Str} {gs:List Gr} (h:sgE names gs=0):qh0 names gs:=by
 unfold sgE at h
 split at h
 ·cases h
 split at h
 ·rename_i h1;exact absurd h h1
 split at h
 ·cases h
 rename_i h1 h2 h3
 exact ⟨by omega,by omega,jY.1 (by simpa using h2),jY.1 h⟩
theorem qeL {names:List Str} {gs:List Gr} (h:qh0 names gs) {i:Nat} (hi:i<gs.length):qad names.length (gs.getD i default).mem=0:=by
 have:=h.gr i hi
 unfold qbS at this
 repeat' split at this
 all_goals first|(cases this;done)|exact this
theorem kB (names:List Str) (s:Str):(∃k:Nat,k<names.length∧names.getD k []=s∧nIx names s=k)∨((∀j,j<names.length→s≠names.getD j [])∧nIx names s= -1):=by
 rcases jH (fun j=>decide (s=names.getD j [])) names.length with ⟨i,h1,h2,_,h4⟩|⟨h1,h2⟩
 ·exact .inl ⟨i,h1,(of_decide_eq_true h2).symm,h4⟩
 ·exact .inr ⟨fun j hj=>of_decide_eq_false (h1 j hj),h2⟩
theorem qar (gs:List Gr) (s:Str):(∃k:Nat,k<gs.length∧(gs.getD k default).name=s∧gIx gs s=k)∨((∀j,j<gs.length→s≠(gs.getD j default).name)∧gIx gs s= -1):=by
 rcases jH (fun j=>decide (s=(gs.getD j default).name)) gs.length with ⟨i,h1,h2,_,h4⟩|⟨h1,h2⟩
 ·exact .inl ⟨i,h1,(of_decide_eq_true h2).symm,h4⟩
 ·exact .inr ⟨fun j hj=>of_decide_eq_false (h1 j hj),h2⟩
theorem qeE {names:List Str} {gs:List Gr} {s:Str} (h:qh0 names gs) (hf: ¬(nIx names s<0∧gIx gs s<0)):inB names.length (els names gs s):=by
 unfold els
 rcases kB names s with ⟨k,h1,_,h3⟩|⟨_,h3⟩
 ·rw [h3,if_pos (by omega)]
  intro i hi
  have:i=0:=by simpa using hi
  subst this
  simp only [List.getD_cons_zero]
  omega
 ·rw [h3,if_neg (by omega)]
  rcases qar gs s with ⟨k,g1,_,g3⟩|⟨_,g3⟩
  ·rw [g3,Int.toNat_natCast]
   exact (kD (qeL h g1)).1
  ·exact absurd ⟨by omega,by omega⟩ hf
theorem qcR {b c:Int} {l:List Int} (h:inB b l) (hbc:b≤c):inB c l:=fun i hi=>⟨(h i hi).1,by have:=(h i hi).2;omega⟩
theorem qcC {names:List Str} {gs:List Gr} {sg:List Str} (h:qh0 names gs): ∀ {i:Nat},(∀j,j<i→qag names gs sg j=0)→qdl names gs sg i<2^64∧ ∀k,(qdl names gs sg i).testBit k=decide (∃j,j<i∧(k:Int)∈els names gs (sg.getD j [])):=by
 intro i
 induction i with
 |zero=>intro _;exact ⟨Nat.two_pow_pos 64,fun k=>by simp [qdl]⟩
 |succ i ih=>
  intro hz
  obtain ⟨h1,h2⟩:=ih (fun j hj=>hz j (by omega))
  have h3: ¬(nIx names (sg.getD i [])<0∧gIx gs (sg.getD i [])<0):=by
   intro hc
   have:=hz i (by omega)
   unfold qag at this
   rw [if_pos hc]at this
   cases this
  have h4:inB 64 (els names gs (sg.getD i [])):=qcR (qeE h h3) (by have:=h.n32;omega)
  refine ⟨Nat.or_lt_two_pow h1 (qbb h4),fun k=> ?_⟩
  unfold qdl
  rw [Nat.testBit_or,h2 k,zY h4 k,←Bool.decide_or]
  refine decide_eq_decide.2 ⟨?_,?_⟩
  ·rintro (⟨j,hj,hm⟩|hm)
   ·exact ⟨j,by omega,hm⟩
   ·exact ⟨i,by omega,hm⟩
  ·rintro ⟨j,hj,hm⟩
   by_cases e:j=i
   ·subst e;exact .inr hm
   ·exact .inl ⟨j,by omega,hm⟩
theorem _root_.AF.Wk.kill1 {t:List AV} {h l:List AObj} {a:AObj} {v:Nat} {ty:TypeId} {cs:List AV}:Wk t (h++a:: .mem v ty cs::l) t (h++a:: .emp (v+1)::l):=by
 have:=Wk.kill0 (t:=t) (h:=h++ [a]) (l:=l) (v:=v) (ty:=ty) (cs:=cs)
 simpa using this
theorem zE {e:Int}:VLe (.tup [.nl,.int .i64 e]) (.tup [ql [],.int .i64 e]):=qV ⟨zP,VLe.refl _,trivial⟩
set_option maxHeartbeats 4000000 in
theorem qy1 (names:List Str) (gs:List Gr) (sg:List Str) (h:List AObj) (hz:Szs names gs) (hs:sg.length≤1000000000):
  qm Tryz.prog 62 [strs names,qt gs,strs sg] h (.tup [ql (zz names gs sg),.int .i64 (jo names gs sg)]) h:=by
 have c59:=fun h=>sgP names gs h hz
 obtain ⟨z1,z2,z3,z4,z5⟩:=hz
 obtain ⟨R,hR⟩: ∃R,R=jo names gs sg:=⟨_,rfl⟩
 obtain ⟨Q,hQ⟩: ∃Q,Q=zz names gs sg:=⟨_,rfl⟩
 rw [←hR,←hQ]
 unfold zz at hQ
 rw [←hR]at hQ
 unfold jo at hR
 obtain ⟨e,he⟩: ∃e,e=sgE names gs:=⟨_,rfl⟩
 rw [←he]at c59 hR
 by_cases g0: ¬e=0
 ·have k0:(e=0)=False:=eq_false g0
  rw [if_pos g0]at hR
  rw [if_neg (by omega)]at hQ
  rw [hR,hQ]
  refine acO quQ ?_
  simp (disch:=omega) only [qwY,List.replicate,strs,qt,k0,go_sem]
  unfold strs qt at c59
  repeat' first
   |((first|refine cA (c59 _) ?_ ?_|refine cG (fun e=>c59 _) ?_ ?_|refine cU (fun _=>c59 _) ?_ ?_);(next=>exact flk);simp (disch:=omega) only [strs,qt,k0,go_sem])
   |((first|apply qc|apply qb);exact rvk;simp only [go_sem];first|exact VLe.refl _|apply qd|apply qa|apply qe|skip)
   |with_reducible first|refine And.intro ?_ ?_|intro _
  all_goals try exact clz
  exact zE
 have g0:e=0:=Classical.not_not.1 g0
 have k0:(e=0)=True:=eq_true g0
 rw [if_neg (fun hc=>hc g0)]at hR
 have hok:=qbk (he.symm.trans g0)
 have h32:=hok.n32
 unfold strs qt at c59
 refine acO quQ ?_
 simp (disch:=omega) only [qwY,List.replicate,strs,qt,go_sem]
 repeat' first
  |((first|refine cA (c59 _) ?_ ?_|refine cG (fun e=>c59 _) ?_ ?_|refine cU (fun _=>c59 _) ?_ ?_);(next=>exact flk);simp (disch:=omega) only [strs,qt,k0,go_sem])
  |((first|apply qc|apply qb);exact rvk;simp only [go_sem];first|exact VLe.refl _|apply qd|apply qa|apply qe|skip)
  |with_reducible first|refine And.intro ?_ ?_|intro _
 all_goals try exact clz
 refine qn (T:=fun i:Nat×Nat=>qI 61 [(0,strs names),(1,qt gs),(2,strs sg),(8,.int .u64 (qdl names gs sg i.1:Int)),(17,strs sg),(18,.int .i64 sg.length),(19,.int .i64 i.1)]) (H:=fun i=>h++ [.emp 1,.emp i.2])
  (inv:=fun i=>i.1≤sg.length∧ ∀j,j<i.1→qag names gs sg j=0) (m:=fun i=>sg.length-i.1) (0,0) ⟨Nat.zero_le _,fun j hj=>absurd hj (Nat.not_lt_zero j)⟩ (Wk.temps ?_) ?_
 ·(simp only [strs,qt,qdl,List.replicate,go_sem,qj,qh,qg,qi];try (repeat' first|(with_reducible refine And.intro ?_ ?_)|(apply qd;omega)|(apply qa;rfl)|exact VLe.refl _))
 rintro ⟨i,v⟩ ⟨i1,i2⟩ K hK
 simp only at i1 i2 hK
 obtain ⟨m1,m2⟩:=qcC hok i2
 have hst:qdl names gs sg (i+1)=qdl names gs sg i|||zU (els names gs (sg.getD i [])):=rfl
 obtain ⟨a,ha⟩: ∃a,a=qdl names gs sg i:=⟨_,rfl⟩
 have ea:=ha.symm
 rw [ea]at m1 hst
 by_cases hi:i<sg.length
 ·have k1:((i:Int)<sg.length)=True:=eq_true (by omega)
  have k2:((i:Int)≤sg.length)=True:=eq_true (by omega)
  have hE:=qP (f:=qag names gs sg) hi i2
  have hs:qag names gs sg i=if nIx names (sg.getD i [])<0∧gIx gs (sg.getD i [])<0 then 6 else if jb (fun j=>decide (sg.getD i []=sg.getD j [])) i=true then 7 else 0:=rfl
  obtain ⟨s,hsx⟩: ∃s,s=sg.getD i []:=⟨_,rfl⟩
  have es:=hsx.symm
  simp only [es]at hs hst
  have c102:=fun h=>qvf names.length (fun j=>names.getD j []) s h z1
  have c103:=qzP gs.length gs s (h.length+1) (v+1) (h++ [.emp 1,.mem (v+1) 9 [.str s]]) (by rw [getO_app];rfl) (Nat.le_refl _) z2
  have c88:=fun h=>qqu i (fun j=>sg.getD j []) s h (by omega)
  have hn:=kB names s
  have hg:=qar gs s
  obtain ⟨n,hnx⟩: ∃n,n=nIx names s:=⟨_,rfl⟩
  obtain ⟨g,hgx⟩: ∃g,g=gIx gs s:=⟨_,rfl⟩
  have hnx':qbo (fun j=>decide (s=names.getD j [])) names.length 0=n:=hnx.symm
  have hgx':qbo (fun j=>decide (s=(gs.getD j default).name)) gs.length 0=g:=hgx.symm
  rw [hnx']at c102
  rw [hgx']at c103
  rw [←hnx]at hn hs
  rw [←hgx]at hg hs
  by_cases g1:n<0∧g<0
  ·have q1:(n<0)=True:=eq_true g1.1
   have q2:(g<0)=True:=eq_true g1.2
   rw [if_pos g1]at hs
   have hV:R=6:=by rw [hR,hE (by rw [hs];decide),hs]
   rw [hV,if_neg (by decide)]at hQ
   rw [hV,hQ]
   simp (disch:=omega) only [List.replicate,strs,qt,k1,k2,es,ea,go_sem]
   repeat' first
    |((first|refine cA (c102 _) ?_ ?_|refine cG (fun e=>c102 _) ?_ ?_|refine cA (c103) ?_ ?_|refine cG (fun e=>c103) ?_ ?_|refine cU (fun _=>c102 _) ?_ ?_);(next=>exact flk);simp (disch:=omega) only [strs,qt,k1,k2,es,q1,q2,go_sem])
    |((first|apply qc|apply qb);exact rvk;simp only [go_sem];first|exact VLe.refl _|apply qd|apply qa|apply qe|skip)
    |with_reducible first|refine And.intro ?_ ?_|intro _
   all_goals try exact clz
   exact zE
  rw [if_neg g1]at hs
  cases g2:jb (fun j=>decide (s=sg.getD j [])) i with
  |true=>
   rw [g2]at c88
   rw [if_pos g2]at hs
   have hV:R=7:=by rw [hR,hE (by rw [hs];decide),hs]
   rw [hV,if_neg (by decide)]at hQ
   rw [hV,hQ]
   by_cases g3:n<0
   ·have q1:(n<0)=True:=eq_true g3
    have q2:(g<0)=False:=eq_false (fun hc=>g1 ⟨g3,hc⟩)
    simp (disch:=omega) only [List.replicate,strs,qt,k1,k2,es,ea,Nat.sub_zero,go_sem]
    repeat' first
     |((first|refine cA (c102 _) ?_ ?_|refine cG (fun e=>c102 _) ?_ ?_|refine cA (c103) ?_ ?_|refine cG (fun e=>c103) ?_ ?_|refine cA (c88 _) ?_ ?_|refine cG (fun e=>c88 _) ?_ ?_|refine cU (fun _=>c102 _) ?_ ?_|refine cU (fun _=>c88 _) ?_ ?_);(next=>exact flk);simp (disch:=omega) only [strs,qt,k1,k2,es,q1,q2,Nat.sub_zero,go_sem])
     |((first|apply qc|apply qb);exact rvk;simp only [go_sem];first|exact VLe.refl _|apply qd|apply qa|apply qe|skip)
     |with_reducible first|refine And.intro ?_ ?_|intro _
    all_goals try exact clz
    exact zE
   ·have q1:(n<0)=False:=eq_false g3
    simp (disch:=omega) only [List.replicate,strs,qt,k1,k2,es,ea,Nat.sub_zero,go_sem]
    repeat' first
     |((first|refine cA (c102 _) ?_ ?_|refine cG (fun e=>c102 _) ?_ ?_|refine cA (c103) ?_ ?_|refine cG (fun e=>c103) ?_ ?_|refine cA (c88 _) ?_ ?_|refine cG (fun e=>c88 _) ?_ ?_|refine cU (fun _=>c102 _) ?_ ?_|refine cU (fun _=>c88 _) ?_ ?_);(next=>exact flk);simp (disch:=omega) only [strs,qt,k1,k2,es,q1,Nat.sub_zero,go_sem])
     |((first|apply qc|apply qb);exact rvk;simp only [go_sem];first|exact VLe.refl _|apply qd|apply qa|apply qe|skip)
     |with_reducible first|refine And.intro ?_ ?_|intro _
    all_goals try exact clz
    exact zE
  |false=>
  rw [g2]at c88
  rw [if_neg (by rw [g2];simp)]at hs
  by_cases g3:n<0
  ·have q1:(n<0)=True:=eq_true g3
   have q2:(g<0)=False:=eq_false (fun hc=>g1 ⟨g3,hc⟩)
   have q3:(0≤n)=False:=eq_false (by omega)
   have eE:els names gs s=(gs.getD g.toNat default).mem:=by unfold els;rw [←hnx,←hgx,if_neg (by omega)]
   rcases hg with ⟨k,p1,p2,rfl⟩|⟨_,p2⟩
   ·rw [Int.toNat_natCast]at eE
    have hB:=(kD (qeL hok p1)).1
    have hB64:inB 64 (gs.getD k default).mem:=qcR hB (by omega)
    have z5k:=z5 k
    obtain ⟨w,hw⟩: ∃w,w=gs.getD k default:=⟨_,rfl⟩
    have ew:=hw.symm
    rw [ew]at hB64 z5k eE
    rw [eE]at hst
    have c96:=fun h=>qwA w.mem h z5k hB64
    have q4:((k:Int)<gs.length)=True:=eq_true (by omega)
    have q5:(0≤(k:Int))=True:=eq_true (by omega)
    have e2:=qfX m1 (qbb hB64)
    unfold ql at c96
    simp (disch:=omega) only [List.replicate,strs,qt,grC,ql,k1,k2,es,ea,Nat.sub_zero,go_sem]
    repeat' first
     |((first|refine cA (c102 _) ?_ ?_|refine cG (fun e=>c102 _) ?_ ?_|refine cA (c103) ?_ ?_|refine cG (fun e=>c103) ?_ ?_|refine cA (c88 _) ?_ ?_|refine cG (fun e=>c88 _) ?_ ?_|refine cA (c96 _) ?_ ?_|refine cG (fun e=>c96 _) ?_ ?_|refine cU (fun _=>c102 _) ?_ ?_|refine cU (fun _=>c88 _) ?_ ?_|refine cU (fun _=>c96 _) ?_ ?_);(next=>exact flk);simp (disch:=omega) only [strs,qt,grC,ql,k1,k2,es,ew,q1,q2,q3,q4,q5,e2,Nat.sub_zero,go_sem])
     |((first|apply qc|apply qb);exact rvk;simp only [go_sem];first|exact VLe.refl _|apply qd|apply qa|apply qe|skip)
     |with_reducible first|refine And.intro ?_ ?_|intro _
    all_goals try exact clz
    refine hK _ _ (i+1,v+1+1) ⟨hi,fun j hj=> ?_⟩ (by simp only;omega) (Wk.trans Wk.kill1 ?_)
    ·by_cases e':j=i
     ·subst e';exact hs
     ·exact i2 j (by simp only at hj;omega)
    ·simp only [hst]
     refine Wk.temps ?_
     (simp only [strs,qt,List.replicate,go_sem,qj,qh,qg,qi];try (repeat' first|(with_reducible refine And.intro ?_ ?_)|(apply qd;omega)|(apply qa;rfl)|exact VLe.refl _))
   ·exact absurd ⟨g3,by omega⟩ g1
  ·have q1:(n<0)=False:=eq_false g3
   have q3:(0≤n)=True:=eq_true (by omega)
   rcases hn with ⟨k,p1,p2,rfl⟩|⟨_,p2⟩
   ·have eE:els names gs s= [(k:Int)]:=by unfold els;rw [←hnx,if_pos (by omega)]
    have eM:zU [(k:Int)]=2^k:=by show 0|||2^(k:Int).toNat=2^k;simp
    rw [eE,eM]at hst
    have e1:=qe0 (n:=k) (by omega)
    have e2:=qfX m1 (show 2^k<2^64 from Nat.pow_lt_pow_right (by omega) (by omega))
    simp (disch:=omega) only [List.replicate,strs,qt,k1,k2,es,ea,Nat.sub_zero,go_sem]
    repeat' first
     |((first|refine cA (c102 _) ?_ ?_|refine cG (fun e=>c102 _) ?_ ?_|refine cA (c103) ?_ ?_|refine cG (fun e=>c103) ?_ ?_|refine cA (c88 _) ?_ ?_|refine cG (fun e=>c88 _) ?_ ?_|refine cU (fun _=>c102 _) ?_ ?_|refine cU (fun _=>c88 _) ?_ ?_);(next=>exact flk);simp (disch:=omega) only [strs,qt,k1,k2,es,q1,q3,e1,e2,Nat.sub_zero,go_sem])
     |((first|apply qc|apply qb);exact rvk;simp only [go_sem];first|exact VLe.refl _|apply qd|apply qa|apply qe|skip)
     |with_reducible first|refine And.intro ?_ ?_|intro _
    all_goals try exact clz
    refine hK _ _ (i+1,v+1+1) ⟨hi,fun j hj=> ?_⟩ (by simp only;omega) (Wk.trans Wk.kill1 ?_)
    ·by_cases e':j=i
     ·subst e';exact hs
     ·exact i2 j (by simp only at hj;omega)
    ·simp only [hst]
     refine Wk.temps ?_
     (simp only [strs,qt,List.replicate,go_sem,qj,qh,qg,qi];try (repeat' first|(with_reducible refine And.intro ?_ ?_)|(apply qd;omega)|(apply qa;rfl)|exact VLe.refl _))
   ·exact absurd g3 (by omega)
 ·have k1:((i:Int)<sg.length)=False:=eq_false (by omega)
  have e':i=sg.length:=by omega
  subst e'
  have hV:R=0:=by rw [hR,qA (fun j hj=>i2 j hj)]
  rw [hV,if_pos rfl,ea]at hQ
  have c100:=fun h=>qxY a h m1
  rw [hV,hQ]
  simp (disch:=omega) only [List.replicate,strs,qt,k1,ea,go_sem]
  repeat' first
   |((first|refine cA (c100 _) ?_ ?_|refine cG (fun e=>c100 _) ?_ ?_|refine cU (fun _=>c100 _) ?_ ?_);(next=>exact flk);simp (disch:=omega) only [strs,qt,k1,go_sem])
   |((first|apply qc|apply qb);exact rvk;simp only [go_sem];first|exact VLe.refl _|apply qd|apply qa|apply qe|skip)
   |with_reducible first|refine And.intro ?_ ?_|intro _
  all_goals try exact clz
end RC
end
section
namespace AF
open Go Go.RowKit
theorem Ext.ofBelow {w w':World} {σ:List OB} {h:List AObj} (H:HR w σ h) (hb:Below w.heap.size w w'):HR w' σ h∧Ext w σ w' σ:=by
 have e:Ext w σ w' σ:=⟨hb.os,hb.tape,hb.output,hb.size,fun b hl _=>hb.block b hl,fun _ h=> .inl h,fun _ o h=>⟨o,h,Nat.le_refl _,fun _=>rfl⟩,
  fun b r h=>⟨r,(hb.block b (Array.getElem?_eq_some_iff.1 h).1).trans h⟩⟩
 exact ⟨⟨H.len,H.inj,fun k o b h1 h2=>Nat.lt_of_lt_of_le (H.lt k o b h1 h2) hb.size,fun k a o h1 h2=>(H.obj k a o h1 h2).ext e (fun b h3=>hb.block b (H.lt k o b h2 h3))⟩,e⟩
end AF
end
section
namespace AF
open Go Go.ChangeShapes Go.WideShapes Go.ChangeAt Go.RowKit
def qkX:OB:=⟨none,0,0,0⟩
theorem qeU (b:Nat): ¬own [qkX] b:=by
 rintro ⟨k,o,h,h2⟩
 cases k with
 |zero=>simp at h;subst h;cases h2
 |succ k=>simp at h
theorem qu9 {w:World} {bs:List Nat} {G:World→Prop} (hb: ∀b,b∈bs→ ∃arr T fz,w.heap[b]? =some (.cells arr T fz)) (hG: ∀w':World,(∀b,b∈bs→w'.heap[b]? =w.heap[b]?)→G w'):
  HR w [qkX] [.pin bs G]:=by
 refine ⟨rfl,?_,?_,?_⟩
 ·intro i j oi oj b hi hj bi
  cases i with
  |zero=>simp at hi;subst hi;cases bi
  |succ i=>simp at hi
 ·intro k o b hk hb'
  cases k with
  |zero=>simp at hk;subst hk;cases hb'
  |succ k=>simp at hk
 ·intro k a o ha ho
  cases k with
  |zero=>
   simp at ha ho
   subst ha;subst ho
   exact ⟨rfl,rfl,fun b h=>⟨qeU b,hb b h⟩,hG⟩
  |succ k=>simp at ha
theorem qqV (w:World):Ext w [] w [qkX]:=
 ⟨rfl,rfl,rfl,Nat.le_refl _,fun _ _ _=>rfl,fun b h=>absurd h (qeU b),fun k o h=>by simp at h,fun _ r h=>⟨r,h⟩⟩
theorem qia {w w':World} {σ':List OB} (h:Ext w [qkX] w' σ'):Below w.heap.size w w':=⟨h.os,h.tape,h.output,h.size,fun k hk=>h.keep k hk (qeU k)⟩
theorem VRs.ext {w w':World} {σ σ':List OB} (h:Ext w σ w' σ') {avs:List AV} {xs:List Value} (hv:VRs w σ avs xs):VRs w' σ' avs xs:=⟨hv.1,fun i c x hc hx=>(hv.2 i c x hc hx).ext h⟩
theorem qvt {w:World} {σ:List OB} {h:List AObj} {k:Nat} {bs:List Nat} {G:World→Prop} (H:HR w σ h) (hk:h[k]? =some (.pin bs G)):G w:=by
 have hl:k<σ.length:=by rw [H.len];exact (List.getElem?_eq_some_iff.1 hk).1
 obtain ⟨_,_,_,h4⟩:=H.obj k _ σ[k] hk (qU hl)
 exact h4 w (fun _ _=>rfl)
theorem qdR {H:Type} {enc:TypeId×Value→H} {P:Program} {W:World} {f:Func} {fid:FuncId} {s:ChangeSpec} {args:Array Value} {ds gs:List (DataW H)} {before:List MemPlace} {tb:TypeId} {bs:List Nat} {G:World→Prop}
  (hl:laidOutB P=true) (hv:s.vars= []) (hfn: ∀ds',ds'.length=f.params.size→s.fn H ds'= { results:= [.lit (.bool true)],args:=ds' })
  (hrt:f.resultTypes= #[tb]) (htb:P.underlying tb=some .bool) (hro: ∀t∈f.params.toList,P.readableRec t=true∧t<P.types.size)
  (hW:DataW.Whole enc P f.params.toList s.vars false W args.toList ds gs before)
  (hb: ∀b,b∈bs→ ∃arr T fz,W.heap[b]? =some (.cells arr T fz)) (hG: ∀w':World,(∀b,b∈bs→w'.heap[b]? =W.heap[b]?)→G w')
  (hc: ∀p,DataW.TrodAll enc P W 0 (fun _=>true) true f.params.toList args.toList ds p→ds.length=f.params.size∧ ∃avs:List AV,VRs W [] avs args.toList∧qm P fid avs [.pin bs G] (.bool true) [.pin bs G]):
  Calls P fid args W fun e W'=> ∃v,e= .returned v∧s.post enc P f false true false false W args v W':=by
 have hW':=hW
 obtain ⟨p,q,hA,hV,rfl,hz,_⟩:=hW
 rw [hv]at hV
 obtain ⟨rfl,rfl⟩:=trodVars_none hV
 obtain ⟨hlen,avs,h1,h2⟩:=hc p hA
 rw [List.append_nil]at hW'
 have h3:=h2.2 W [qkX] args.toList (qu9 hb hG) (h1.ext (qqV W))
 rw [Array.toArray_toList]at h3
 refine (callsIn_wide.1 h3).mono ?_
 rintro e W' ⟨v,σ',rfl,g1,g2,g3⟩
 obtain rfl:=zC g2
 exact ⟨_,rfl,qnG hl hv (hfn ds hlen) hrt htb hro hW' hA (qia g3)⟩
theorem qdb {P:Program} {w w':World} {name:String} {g:Nat} (hg:P.globalNamed name=some g) (h:w'.heap[g]? =w.heap[g]?):w'.var? P name=w.var? P name:=by
 unfold World.var?
 rw [hg]
 simp only [Option.bind_some]
 rw [h]
theorem qb5 {P:Program} {w:World} {name:String} {g:Nat} {cs:Array Value} (hg:P.globalNamed name=some g) (h:w.var? P name=some cs): ∃arr T fz,w.heap[g]? =some (.cells arr T fz):=by
 unfold World.var? at h
 rw [hg]at h
 simp only [Option.bind_some]at h
 split at h
 ·rename_i cs T fz hc
  exact ⟨_,_,_,hc⟩
 ·cases h
end AF
end
section
open Go Go.Proofs AF HY
namespace LN
def qph (w : World) : Prop := Lib.TabIs Tryz.prog w "internal/strconv.uint64pow10" .u64 Lib.pow10Tab
def qsT (w : World) : Prop := (∃ tp p, w.var? Tryz.prog "strconv.ErrSyntax" = some #[.iface tp p]) ∧ ∃ tp p, w.var? Tryz.prog "strconv.ErrRange" = some #[.iface tp p]
def kh (Q:World→Prop) (h:List AObj):Prop:= ∃(k:Nat) (bs:List Nat) (G:World→Prop),h[k]? =some (.pin bs G)∧ ∀w,G w→Q w
theorem kh.app {Q:World→Prop} {h:List AObj} (hp:kh Q h) (l:List AObj):kh Q (h++l):=by
 obtain ⟨k,bs,G,h1,h2⟩:=hp
 exact ⟨k,bs,G,by rw [List.getElem?_append_left (List.getElem?_eq_some_iff.1 h1).1];exact h1,h2⟩
theorem kh.mono {Q Q':World→Prop} {h:List AObj} (hp:kh Q h) (hq: ∀w,Q w→Q' w):kh Q' h:=by
 obtain ⟨k,bs,G,h1,h2⟩:=hp
 exact ⟨k,bs,G,h1,fun w hw=>hq w (h2 w hw)⟩
theorem kh.of {Q:World→Prop} {h:List AObj} {w:World} {σ:List OB} (hp:kh Q h) (H:HR w σ h):Q w:=by
 obtain ⟨k,bs,G,h1,h2⟩:=hp
 exact h2 w (qvt H h1)
theorem t48 (n:Int) (h:List AObj) (hp:kh qph h) (h0: -9223372036854775808≤n) (h1:n≤9223372036854775807):qm Tryz.prog 181 [.int .i64 n] h (.str (Lib.itoa n)) h:=by
 refine ⟨qwB Tryz.func181 (by kernel_rfl) (by kernel_rfl),fun w σ xs H hv=> ?_⟩
 obtain ⟨x,rfl,hx⟩:=hv.one
 rw [q9 hx]
 refine (callsIn_wide.2 (Any.strconv_Itoa Tryz.laysM171 n h0 h1 w (hp.of H))).mono ?_
 rintro e w' ⟨rfl,k,os,rfl⟩
 obtain ⟨g1,g2⟩:=Ext.ofBelow H (Lib.below_grow w.heap.size w (Nat.le_refl _) k os)
 exact ⟨_,σ,rfl,g1,.imm .str,g2⟩
def qp9 (s:List UInt8):Int:=
 match Lib.atoiAll s with
 | .ok _=>0
 | .range=>Lib.atoiSat s
 |_=>0
def qp8 (s:List UInt8):AV:=
 match Lib.atoiAll s with
 | .ok v=> .tup [.int .i64 v,.nilif]
 |_=> .tup [.int .i64 (qp9 s),.ifc]
theorem t50 (s:List UInt8) (h:List AObj) (hp:kh qsT h) (hl:s.length≤281474976710656):qm Tryz.prog 180 [.str s] h (qp8 s) h:=by
 refine ⟨qwB Tryz.func180 (by kernel_rfl) (by kernel_rfl),fun w σ xs H hv=> ?_⟩
 obtain ⟨x,rfl,hx⟩:=hv.one
 rw [zK hx]
 have hsz:(⟨s.toArray⟩:ByteArray).size≤281474976710656:=by simpa [ByteArray.size] using hl
 obtain ⟨⟨t1,p1,e1⟩,t2,p2,e2⟩:=hp.of H
 unfold qp8 qp9
 have hd:(⟨s.toArray⟩:ByteArray).data.toList=s:=rfl
 cases hs:Lib.atoiAll s
 ·rename_i v
  refine (callsIn_wide.2 (Any.strconv_Atoi_ok Tryz.laysC172 ⟨s.toArray⟩ (by omega) v (by rw [hd];exact hs) w)).mono ?_
  rintro e w' ⟨rfl,hw⟩
  have hb:Go.RowKit.Below w.heap.size w w':=by
   rcases hw with rfl|⟨t,rfl⟩
   ·exact Go.RowKit.Below.refl _ _
   ·exact Lib.bytesWorld_below _ _ _
  obtain ⟨g1,g2⟩:=Ext.ofBelow H hb
  refine ⟨_,σ,rfl,g1,.imm (.tup rfl (fun i c y hc hy=> ?_)),g2⟩
  match i with
  |0=>simp at hc hy;subst hc hy;exact .int
  |1=>simp at hc hy;subst hc hy;exact .nilif
  |i+2=>simp at hc
 ·refine (callsIn_wide.2 (Any.strconv_Atoi_syntax_var Tryz.laysC172 ⟨s.toArray⟩ hsz (by rw [hd];exact hs) t1 p1 w e1)).mono ?_
  rintro e w' ⟨N,rfl,_,_,hb⟩
  obtain ⟨g1,g2⟩:=Ext.ofBelow H hb
  refine ⟨_,σ,rfl,g1,.imm (.tup rfl (fun i c y hc hy=> ?_)),g2⟩
  match i with
  |0=>simp at hc hy;subst hc hy;exact .int
  |1=>simp at hc hy;subst hc hy;exact .ifc
  |i+2=>simp at hc
 ·refine (callsIn_wide.2 (Any.strconv_Atoi_range_var Tryz.laysC172 ⟨s.toArray⟩ hsz (by rw [hd];exact hs) t2 p2 w e2)).mono ?_
  rintro e w' ⟨N,rfl,_,_,hb⟩
  obtain ⟨g1,g2⟩:=Ext.ofBelow H hb
  refine ⟨_,σ,rfl,g1,.imm (.tup rfl (fun i c y hc hy=> ?_)),g2⟩
  match i with
  |0=>simp at hc hy;subst hc hy;exact .int
  |1=>simp at hc hy;subst hc hy;exact .ifc
  |i+2=>simp at hc
end LN
end
section
open Go Go.Proofs AF HY
namespace LN
theorem qkJ: ∀(l r:List UInt8) (acc:Nat),Lib.parseUint10 acc (l++r)=match Lib.parseUint10 acc l with
  | .ok v=>Lib.parseUint10 v r
  |e=>e:=by
 intro l
 induction l with
 |nil=>intro r acc;rfl
 |cons c l ih=>
  intro r acc
  rw [List.cons_append,Lib.parseUint10,Lib.parseUint10]
  by_cases h1:48≤c.toNat∧c.toNat≤57
  ·rw [if_pos h1,if_pos h1]
   by_cases h2:1844674407370955162≤acc
   ·rw [if_pos h2,if_pos h2]
   ·rw [if_neg h2,if_neg h2]
    by_cases h3:18446744073709551616≤acc*10+(c.toNat-48)
    ·rw [if_pos h3,if_pos h3]
    ·rw [if_neg h3,if_neg h3]
     exact ih r _
  ·rw [if_neg h1,if_neg h1]
theorem qcL {d:Nat} (h:d<10):(UInt8.ofNat (48+d)).toNat=48+d:=by
 rw [UInt8.toNat_ofNat']
 omega
theorem qkK: ∀u,u<1000000000→Lib.parseUint10 0 (Lib.decDigits u)= .ok u:=by
 intro u
 induction u using Nat.strongRecOn with
 |_ u ih=>
  intro hu
  by_cases h:u<10
  ·rw [Lib.decDigits,dif_pos h,Lib.parseUint10,qcL h,if_pos (by omega),if_neg (by omega),if_neg (by omega),Lib.parseUint10]
   congr 1
   omega
  ·rw [Lib.decDigits,dif_neg h,qkJ,ih (u/10) (by omega) (by omega)]
   simp only
   rw [Lib.parseUint10,qcL (by omega),if_pos (by omega),if_neg (by omega),if_neg (by omega),Lib.parseUint10]
   congr 1
   omega
theorem qgF: ∀u,∀c∈Lib.decDigits u,48≤c.toNat∧c.toNat≤57:=by
 intro u
 induction u using Nat.strongRecOn with
 |_ u ih=>
  intro c hc
  by_cases h:u<10
  ·rw [Lib.decDigits,dif_pos h,List.mem_singleton]at hc
   subst hc
   rw [qcL h]
   omega
  ·rw [Lib.decDigits,dif_neg h]at hc
   rcases List.mem_append.1 hc with hc|hc
   ·exact ih (u/10) (by omega) c hc
   ·rw [List.mem_singleton]at hc
    subst hc
    rw [qcL (by omega)]
    omega
theorem qtM (u:Nat):Lib.decDigits u≠ []:=by
 intro h
 have:=Lib.decDigits_length u
 have:=Lib.nDigits_pos u
 rw [h]at*
 simp at*
 omega
theorem qh8 {n:Int} (h0:0≤n) (h1:n<1000000000):Lib.atoiAll (Lib.itoa n)= .ok n:=by
 obtain ⟨u,rfl⟩: ∃u:Nat,n=u:=⟨n.toNat,by omega⟩
 rw [Lib.itoa_nonneg]
 have hd:=qgF u
 have hp:=qkK u (by omega)
 have hne:=qtM u
 cases hl:Lib.decDigits u with
 |nil=>exact absurd hl hne
 |cons c r=>
  rw [hl]at hd hp
  have hc:=hd c (List.mem_cons_self ..)
  unfold Lib.atoiAll
  simp only
  rw [if_neg (show¬(c.toNat=43∨c.toNat=45) by omega)]
  unfold Lib.parseMag
  rw [if_neg (by simp),hp]
  simp only
  rw [if_neg (by omega),if_neg (by omega),if_neg (by omega)]
end LN
end
section
open Go Go.Proofs AF HY LN
namespace RC
theorem qmp {s:Str} {v:Int} (h:Lib.atoiAll s= .ok v): -9223372036854775808≤v∧v≤9223372036854775807:=by
 unfold Lib.atoiAll at h
 split at h
 ·cases h
 ·simp only at h
  split at h
  ·cases h
  ·cases h
  ·split at h
   ·cases h
   ·split at h
    ·cases h
    ·rename_i h1 h2
     cases h
     split
     ·rename_i h3;have:=mt (And.intro h3) h2;omega
     ·rename_i h3;have:=mt (And.intro h3) h1;omega
theorem qkb {k:Nat} (h:k≤64):(Lib.itoa (k:Int)).length≤9:=by
 rw [Lib.itoa_nonneg]
 by_cases g:k<10
 ·rw [Lib.decDigits,dif_pos g];simp
 ·rw [Lib.decDigits,dif_neg g,Lib.decDigits,dif_pos (show k/10<10 by omega)];simp
def qqD (s:Str):Bool:=match Lib.atoiAll s with
 | .ok v=>decide (1≤v)&&(decide (s.length≤9)&&decide (Lib.itoa v=s))
 |_=>false
def qsO (s:Str):Int:=match Lib.atoiAll s with
 | .ok v=>v
 |_=>qp9 s
def SG (w:World):Prop:=qph w∧qsT w
theorem SG.pow {h:List AObj} (hp:kh SG h):kh qph h:=hp.mono fun _ h=>h.1
theorem SG.err {h:List AObj} (hp:kh SG h):kh qsT h:=hp.mono fun _ h=>h.2
theorem qzx (s:Str) (h:List AObj) (hs:s.length≤1000000000) (hp:kh SG h):qm Tryz.prog 169 [.str s] h (.tup [.int .i64 (qsO s),.bool (qqD s)]) h:=by
 have c180:=t50 s h (SG.err hp) (by omega)
 unfold qsO qqD
 unfold qp8 at c180
 cases ha:Lib.atoiAll s
 ·rename_i v
  rw [ha]at c180
  simp only at c180
  obtain ⟨r1,r2⟩:=qmp ha
  have c181:=t48 v h (SG.pow hp) r1 r2
  obtain ⟨t,ht⟩: ∃t,t=Lib.itoa v:=⟨_,rfl⟩
  rw [←ht]at c181
  simp only [←ht]
  by_cases g1:1≤v
  ·have k1:(1≤v)=True:=eq_true g1
   rw [decide_eq_true g1]
   by_cases g2:s.length≤9
   ·have k2:((s.length:Int)≤9)=True:=eq_true (by omega)
    rw [decide_eq_true g2]
    refine acO qdG ?_
    simp (disch:=omega) only [qgs,List.replicate,go_sem]
    repeat' first
     |((first|refine cA (c180) ?_ ?_|refine cG (fun e=>c180) ?_ ?_|refine cA (c181) ?_ ?_|refine cG (fun e=>c181) ?_ ?_);(next=>exact flk);simp (disch:=omega) only [k1,k2,go_sem])
     |((first|apply qc|apply qb);exact rvk;simp only [go_sem];first|exact VLe.refl _|apply qd|apply qa|apply qe|skip)
     |with_reducible first|refine And.intro ?_ ?_|intro _
    all_goals try exact clz
   ·have k2:((s.length:Int)≤9)=False:=eq_false (by omega)
    rw [decide_eq_false g2]
    refine acO qdG ?_
    simp (disch:=omega) only [qgs,List.replicate,go_sem]
    repeat' first
     |(refine qo ( .str []) ?_;simp (disch:=omega) only [k1,k2,go_sem])
     |((first|refine cA (c180) ?_ ?_|refine cG (fun e=>c180) ?_ ?_);(next=>exact flk);simp (disch:=omega) only [k1,k2,go_sem])
     |((first|apply qc|apply qb);exact rvk;simp only [go_sem];first|exact VLe.refl _|apply qd|apply qa|apply qe|skip)
     |with_reducible first|refine And.intro ?_ ?_|intro _
    all_goals try exact clz
  ·have k1:(1≤v)=False:=eq_false g1
   rw [decide_eq_false g1]
   refine acO qdG ?_
   simp (disch:=omega) only [qgs,List.replicate,go_sem]
   repeat' first
    |(refine qo ( .str []) ?_;simp (disch:=omega) only [k1,go_sem])
    |((first|refine cA (c180) ?_ ?_|refine cG (fun e=>c180) ?_ ?_);(next=>exact flk);simp (disch:=omega) only [k1,go_sem])
    |((first|apply qc|apply qb);exact rvk;simp only [go_sem];first|exact VLe.refl _|apply qd|apply qa|apply qe|skip)
    |with_reducible first|refine And.intro ?_ ?_|intro _
   all_goals try exact clz
 ·rw [ha]at c180
  simp only at c180
  refine acO qdG ?_
  simp (disch:=omega) only [qgs,List.replicate,go_sem]
  repeat' first
   |(refine qo ( .str []) ?_;simp (disch:=omega) only [go_sem])
   |((first|refine cA (c180) ?_ ?_|refine cG (fun e=>c180) ?_ ?_);(next=>exact flk);simp (disch:=omega) only [go_sem])
   |((first|apply qc|apply qb);exact rvk;simp only [go_sem];first|exact VLe.refl _|apply qd|apply qa|apply qe|skip)
   |with_reducible first|refine And.intro ?_ ?_|intro _
  all_goals try exact clz
 ·rw [ha]at c180
  simp only at c180
  refine acO qdG ?_
  simp (disch:=omega) only [qgs,List.replicate,go_sem]
  repeat' first
   |(refine qo ( .str []) ?_;simp (disch:=omega) only [go_sem])
   |((first|refine cA (c180) ?_ ?_|refine cG (fun e=>c180) ?_ ?_);(next=>exact flk);simp (disch:=omega) only [go_sem])
   |((first|apply qc|apply qb);exact rvk;simp only [go_sem];first|exact VLe.refl _|apply qd|apply qa|apply qe|skip)
   |with_reducible first|refine And.intro ?_ ?_|intro _
  all_goals try exact clz
def pre (s:Str):Bool:=decide (1≤s.length)&&decide (s.take 1= [91])
theorem qpB (s:Str) (h:List AObj) (hs:s.length≤1000000000):qm Tryz.prog 185 [.str s,.str [91]] h (.bool (pre s)) h:=by
 unfold pre
 by_cases g:1≤s.length
 ·have k1:((1:Int)≤s.length)=True:=eq_true (by omega)
  rw [decide_eq_true g]
  refine acO qpy ?_
  simp (disch:=omega) only [qqn,List.replicate,qbp,k1,go_sem]
  repeat' first
   |((first|apply qc|apply qb);exact rvk;simp only [go_sem];first|exact VLe.refl _|apply qd|apply qa|apply qe|skip)
   |with_reducible first|refine And.intro ?_ ?_|intro _
  all_goals try exact clz
 ·have k1:((1:Int)≤s.length)=False:=eq_false (by omega)
  rw [decide_eq_false g]
  refine acO qpy ?_
  simp (disch:=omega) only [qqn,List.replicate,qbp,k1,go_sem]
  repeat' first
   |((first|apply qc|apply qb);exact rvk;simp only [go_sem];first|exact VLe.refl _|apply qd|apply qa|apply qe|skip)
   |with_reducible first|refine And.intro ?_ ?_|intro _
  all_goals try exact clz
theorem qqx (s:Str) (h:List AObj) (hs:s.length≤1000000000):qm Tryz.prog 179 [.str s,.str [91]] h (.tup [.str (if pre s=true then s.drop 1 else s),.bool (pre s)]) h:=by
 have c1:=fun h=>qpB s h hs
 cases g:pre s with
 |true=>
  rw [g]at c1
  have g1:1≤s.length:=by unfold pre at g;simp at g;omega
  have k4:((1:Int)≤s.length)=True:=eq_true (by omega)
  have k5:List.take (s.length-1) (List.drop 1 s)=s.drop 1:=List.take_of_length_le (by simp)
  refine acO qpx ?_
  simp (disch:=omega) only [qqm,List.replicate,qbp,k4,go_sem]
  repeat' first
   |((first|refine cA (c1 _) ?_ ?_|refine cG (fun e=>c1 _) ?_ ?_|refine cU (fun _=>c1 _) ?_ ?_);(next=>exact flk);simp (disch:=omega) only [qbp,k4,go_sem])
   |((first|apply qc|apply qb);exact rvk;simp only [go_sem];first|exact VLe.refl _|apply qd|apply qa|apply qe|skip)
   |with_reducible first|refine And.intro ?_ ?_|intro _
  all_goals try exact clz
  simp only [Int.toNat_one,k5,if_true]
  exact VLe.refl _
 |false=>
  rw [g]at c1
  refine acO qpx ?_
  simp (disch:=omega) only [qqm,List.replicate,go_sem]
  repeat' first
   |((first|refine cA (c1 _) ?_ ?_|refine cG (fun e=>c1 _) ?_ ?_|refine cU (fun _=>c1 _) ?_ ?_);(next=>exact flk);simp (disch:=omega) only [go_sem])
   |((first|apply qc|apply qb);exact rvk;simp only [go_sem];first|exact VLe.refl _|apply qd|apply qa|apply qe|skip)
   |with_reducible first|refine And.intro ?_ ?_|intro _
  all_goals try exact clz
theorem qtJ (s:Str) (h:List AObj) (hs:s.length≤1000000000):qm Tryz.prog 168 [.str s,.str [91]] h (.tup [.str (if pre s=true then s.drop 1 else s),.bool (pre s)]) h:=by
 have c1:=fun h=>qqx s h hs
 refine acO quu ?_
 simp (disch:=omega) only [qtm,List.replicate,go_sem]
 repeat' first
  |((first|refine cA (c1 _) ?_ ?_|refine cG (fun e=>c1 _) ?_ ?_|refine cU (fun _=>c1 _) ?_ ?_);(next=>exact flk);simp (disch:=omega) only [go_sem])
  |((first|apply qc|apply qb);exact rvk;simp only [go_sem];first|exact VLe.refl _|apply qd|apply qa|apply qe|skip)
  |with_reducible first|refine And.intro ?_ ?_|intro _
 all_goals try exact clz
def qah (s:Str):Bool:=decide (1≤s.length)&&decide (s.drop (s.length-1)= [93])
theorem qrh (s:Str) (h:List AObj) (hs:s.length≤1000000000):qm Tryz.prog 164 [.str s,.str [93]] h (.bool (qah s)) h:=by
 unfold qah
 by_cases g:1≤s.length
 ·have k1:((1:Int)≤s.length)=True:=eq_true (by omega)
  have k2:((s.length:Int)-1).toNat=s.length-1:=by omega
  have k3:(0≤(s.length:Int)-1)=True:=eq_true (by omega)
  have k4:((s.length:Int)-1≤s.length)=True:=eq_true (by omega)
  have k5:List.take (s.length-(s.length-1)) (List.drop (s.length-1) s)=s.drop (s.length-1):=List.take_of_length_le (by simp)
  rw [decide_eq_true g]
  refine acO qfK ?_
  simp (disch:=omega) only [qi0,List.replicate,qbp,k1,k2,k3,k4,k5,go_sem]
  repeat' first
   |((first|apply qc|apply qb);exact rvk;simp only [go_sem];first|exact VLe.refl _|apply qd|apply qa|apply qe|skip)
   |with_reducible first|refine And.intro ?_ ?_|intro _
  all_goals try exact clz
 ·have k1:((1:Int)≤s.length)=False:=eq_false (by omega)
  rw [decide_eq_false g]
  refine acO qfK ?_
  simp (disch:=omega) only [qi0,List.replicate,qbp,k1,go_sem]
  repeat' first
   |((first|apply qc|apply qb);exact rvk;simp only [go_sem];first|exact VLe.refl _|apply qd|apply qa|apply qe|skip)
   |with_reducible first|refine And.intro ?_ ?_|intro _
  all_goals try exact clz
theorem qmN (s:Str) (h:List AObj) (hs:s.length≤1000000000):qm Tryz.prog 152 [.str s,.str [93]] h (.tup [.str (if qah s=true then s.take (s.length-1) else s),.bool (qah s)]) h:=by
 have c1:=fun h=>qrh s h hs
 cases g:qah s with
 |true=>
  rw [g]at c1
  have g1:1≤s.length:=by unfold qah at g;simp at g;omega
  have k2:((s.length:Int)-1).toNat=s.length-1:=by omega
  have k3:(0≤(s.length:Int)-1)=True:=eq_true (by omega)
  have k4:((s.length:Int)-1≤s.length)=True:=eq_true (by omega)
  refine acO qfJ ?_
  simp (disch:=omega) only [qiZ,List.replicate,qbp,k2,k3,k4,go_sem]
  repeat' first
   |((first|refine cA (c1 _) ?_ ?_|refine cG (fun e=>c1 _) ?_ ?_|refine cU (fun _=>c1 _) ?_ ?_);(next=>exact flk);simp (disch:=omega) only [qbp,k2,k3,k4,Nat.sub_zero,go_sem])
   |((first|apply qc|apply qb);exact rvk;simp only [go_sem];first|exact VLe.refl _|apply qd|apply qa|apply qe|skip)
   |with_reducible first|refine And.intro ?_ ?_|intro _
  all_goals try exact clz
 |false=>
  rw [g]at c1
  refine acO qfJ ?_
  simp (disch:=omega) only [qiZ,List.replicate,go_sem]
  repeat' first
   |((first|refine cA (c1 _) ?_ ?_|refine cG (fun e=>c1 _) ?_ ?_|refine cU (fun _=>c1 _) ?_ ?_);(next=>exact flk);simp (disch:=omega) only [go_sem])
   |((first|apply qc|apply qb);exact rvk;simp only [go_sem];first|exact VLe.refl _|apply qd|apply qa|apply qe|skip)
   |with_reducible first|refine And.intro ?_ ?_|intro _
  all_goals try exact clz
theorem qqz (s:Str) (h:List AObj) (hs:s.length≤1000000000):qm Tryz.prog 126 [.str s,.str [93]] h (.tup [.str (if qah s=true then s.take (s.length-1) else s),.bool (qah s)]) h:=by
 have c1:=fun h=>qmN s h hs
 refine acO qps ?_
 simp (disch:=omega) only [qqh,List.replicate,go_sem]
 repeat' first
  |((first|refine cA (c1 _) ?_ ?_|refine cG (fun e=>c1 _) ?_ ?_|refine cU (fun _=>c1 _) ?_ ?_);(next=>exact flk);simp (disch:=omega) only [go_sem])
  |((first|apply qc|apply qb);exact rvk;simp only [go_sem];first|exact VLe.refl _|apply qd|apply qa|apply qe|skip)
  |with_reducible first|refine And.intro ?_ ?_|intro _
 all_goals try exact clz
def qdI (s:Str):Bool:=(List.range 64).any fun k=>decide (s=91::(Lib.itoa ((k+1:Nat):Int)++ [93]))
def qbt (s:Str):Bool:=kX s||(if s.length=1 then decide (zA (ch s 0)=5)||decide (zA (ch s 0)=4) else qdI s)
def qmf (s:Str):Str:=if qah (if pre s=true then s.drop 1 else s)=true then (if pre s=true then s.drop 1 else s).take ((if pre s=true then s.drop 1 else s).length-1) else if pre s=true then s.drop 1 else s
def quX (s:Str):Bool:=pre s&&qah (if pre s=true then s.drop 1 else s)&&qqD (qmf s)&&decide (qsO (qmf s)≤64)
theorem quY (s:Str):quX s=qdI s:=by
 cases g:qdI s with
 |true=>
  unfold qdI at g
  rw [List.any_eq_true]at g
  obtain ⟨k,hk,e⟩:=g
  have hk':k<64:=by simpa using hk
  have e:=of_decide_eq_true e
  obtain ⟨t,ht⟩: ∃t,t=Lib.itoa ((k+1:Nat):Int):=⟨_,rfl⟩
  rw [←ht]at e
  have ha:Lib.atoiAll t= .ok ((k+1:Nat):Int):=by rw [ht];exact qh8 (by omega) (by omega)
  have hl:t.length≤9:=by
   rw [ht];exact qkb (by omega)
  have p1:pre s=true:=by rw [e];simp [pre]
  have p2:s.drop 1=t++ [93]:=by rw [e];rfl
  have p3:qah (t++ [93])=true:=by unfold qah;simp
  have p4:qmf s=t:=by unfold qmf;rw [if_pos p1,p2,if_pos p3];simp
  have p5:qqD t=true:=by unfold qqD;rw [ha];simp only;rw [←ht];simp;omega
  have p6:qsO t=((k+1:Nat):Int):=by unfold qsO;rw [ha]
  unfold quX
  rw [p4,p1,if_pos rfl,p2,p3,p5,p6]
  simp;omega
 |false=>
  cases q:quX s with
  |false=>rfl
  |true=>
   exfalso
   unfold quX at q
   simp only [Bool.and_eq_true,decide_eq_true_eq]at q
   obtain ⟨⟨⟨q1,q2⟩,q3⟩,q4⟩:=q
   rw [if_pos q1]at q2
   obtain ⟨m,hm⟩: ∃m,m=qmf s:=⟨_,rfl⟩
   have hm':=hm
   unfold qmf at hm'
   rw [if_pos q1,if_pos q2]at hm'
   rw [←hm]at q3 q4
   unfold qqD at q3
   unfold qsO at q4
   cases ha:Lib.atoiAll m
   ·rename_i v
    rw [ha]at q3 q4
    simp only [Bool.and_eq_true,decide_eq_true_eq]at q3 q4
    obtain ⟨r1,r2,r3⟩:=q3
    unfold pre at q1
    unfold qah at q2
    simp only [Bool.and_eq_true,decide_eq_true_eq]at q1 q2
    have e1:s=91::s.drop 1:=by
     have:=List.take_append_drop 1 s
     rw [q1.2]at this
     exact this.symm
    have e2:s.drop 1=m++ [93]:=by
     have:=List.take_append_drop ((s.drop 1).length-1) (s.drop 1)
     rw [q2.2,←hm']at this
     exact this.symm
    have:qdI s=true:=by
     unfold qdI
     rw [List.any_eq_true]
     refine ⟨v.toNat-1,by simp;omega,decide_eq_true ?_⟩
     rw [show ((v.toNat-1+1:Nat):Int)=v by omega,r3,←e2,←e1]
    rw [g]at this
    cases this
   ·rw [ha]at q3;cases q3
   ·rw [ha]at q3;cases q3
end RC
end
section
open Go Go.Proofs AF HY LN
namespace RC
set_option maxHeartbeats 4000000
theorem qys (s:Str) (h:List AObj) (hs:s.length≤1000000000) (hp:kh SG h):qm Tryz.prog 160 [.str s] h (.bool (qbt s)) h:=by
 have c167:=fun h=>t88 s h hs
 unfold qbt
 cases g:kX s with
 |true=>
  rw [g]at c167
  refine acO qjO ?_
  simp (disch:=omega) only [qmA,List.replicate,go_sem]
  repeat' first
   |((first|refine cA (c167 _) ?_ ?_|refine cG (fun e=>c167 _) ?_ ?_|refine cU (fun _=>c167 _) ?_ ?_);(next=>exact flk);simp (disch:=omega) only [go_sem])
   |((first|apply qc|apply qb);exact rvk;simp only [go_sem];first|exact VLe.refl _|apply qd|apply qa|apply qe|skip)
   |with_reducible first|refine And.intro ?_ ?_|intro _
  all_goals try exact clz
 |false=>
 rw [g]at c167
 rw [Bool.false_or]
 by_cases g1:s.length=1
 ·have k1:((s.length:Int)=1)=True:=eq_true (by omega)
  have k2:((0:Int)<s.length)=True:=eq_true (by omega)
  rw [if_pos g1]
  have e:(s[0]?).getD 0=ch s 0:=by simp [ch,gdqA]
  have c153:=fun h=>jq (ch s 0) h
  obtain ⟨k,hk⟩: ∃k,k=zA (ch s 0):=⟨_,rfl⟩
  rw [←hk]at c153 ⊢
  refine acO qjO ?_
  simp (disch:=omega) only [qmA,List.replicate,k1,k2,e,Int.toNat_zero,go_sem]
  repeat' first
   |((first|refine cA (c167 _) ?_ ?_|refine cG (fun e=>c167 _) ?_ ?_|refine cA (c153 _) ?_ ?_|refine cG (fun e=>c153 _) ?_ ?_|refine cU (fun _=>c167 _) ?_ ?_|refine cU (fun _=>c153 _) ?_ ?_);(next=>exact flk);simp (disch:=omega) only [k1,k2,e,Int.toNat_zero,go_sem])
   |((first|apply qc|apply qb);exact rvk;simp only [go_sem];first|exact VLe.refl _|apply qd|apply qa|apply qe|skip)
   |with_reducible first|refine And.intro ?_ ?_|intro _
  all_goals try exact clz
 ·have k1:((s.length:Int)=1)=False:=eq_false (by omega)
  rw [if_neg g1,←quY]
  have c168:=fun h=>qtJ s h hs
  unfold quX
  have hm:qmf s=if qah (if pre s=true then s.drop 1 else s)=true then (if pre s=true then s.drop 1 else s).take ((if pre s=true then s.drop 1 else s).length-1) else if pre s=true then s.drop 1 else s:=rfl
  obtain ⟨u,hu⟩: ∃u,u=if pre s=true then s.drop 1 else s:=⟨_,rfl⟩
  rw [←hu]at c168 hm ⊢
  have hul:u.length≤s.length:=by rw [hu];split<;>simp
  have c126:=fun h=>qqz u h (by omega)
  rw [←hm]at c126
  have hml:(qmf s).length≤u.length:=by rw [hm];split<;>simp
  have c169:=qzx (qmf s) h (by omega) hp
  obtain ⟨m,hmm⟩: ∃m,m=qmf s:=⟨_,rfl⟩
  rw [←hmm]at c126 c169 ⊢
  obtain ⟨a,ha⟩: ∃a,a=pre s:=⟨_,rfl⟩
  obtain ⟨b,hb⟩: ∃b,b=qah u:=⟨_,rfl⟩
  obtain ⟨c,hc⟩: ∃c,c=qqD m:=⟨_,rfl⟩
  rw [←ha]at c168 ⊢
  rw [←hb]at c126 ⊢
  rw [←hc]at c169 ⊢
  cases a<;>cases b<;>cases c
  all_goals
   refine acO qjO ?_
   simp (disch:=omega) only [qmA,List.replicate,k1,go_sem]
   repeat' first
    |((first|refine cA (c167 _) ?_ ?_|refine cG (fun e=>c167 _) ?_ ?_|refine cA (c168 _) ?_ ?_|refine cG (fun e=>c168 _) ?_ ?_|refine cA (c126 _) ?_ ?_|refine cG (fun e=>c126 _) ?_ ?_|refine cA (c169) ?_ ?_|refine cG (fun e=>c169) ?_ ?_|refine cU (fun _=>c167 _) ?_ ?_|refine cU (fun _=>c168 _) ?_ ?_|refine cU (fun _=>c126 _) ?_ ?_);(next=>exact flk);simp (disch:=omega) only [k1,go_sem])
    |((first|apply qc|apply qb);exact rvk;simp only [go_sem];first|exact VLe.refl _|apply qd|apply qa|apply qe|skip)
    |with_reducible first|refine And.intro ?_ ?_|intro _
   all_goals try exact clz
def wE (s:Str):Int:=if qbt s=true then 0 else 11
theorem qzR (s:Str) (h:List AObj) (hs:s.length≤1000000000) (hp:kh SG h):qm Tryz.prog 145 [.agg [.str s,.str [],.int .i64 0]] h (.int .i64 (wE s)) h:=by
 have c160:=fun l=>qys s (h++l) hs (hp.app l)
 unfold wE
 cases g:qbt s with
 |true=>
  rw [g]at c160
  refine acO qpt ?_
  simp (disch:=omega) only [qqi,List.replicate,go_sem]
  repeat' first
   |(refine qo ( .bool false) ?_;simp (disch:=omega) only [go_sem])
   |((first|refine cA (c160 _) ?_ ?_|refine cG (fun e=>c160 _) ?_ ?_|refine cU (fun _=>c160 _) ?_ ?_);(next=>exact flk);simp (disch:=omega) only [go_sem])
   |((first|apply qc|apply qb);exact rvk;simp only [go_sem];first|exact VLe.refl _|apply qd|apply qa|apply qe|skip)
   |with_reducible first|refine And.intro ?_ ?_|intro _
  all_goals try exact clz
 |false=>
  rw [g]at c160
  refine acO qpt ?_
  simp (disch:=omega) only [qqi,List.replicate,go_sem]
  repeat' first
   |(refine qo ( .bool false) ?_;simp (disch:=omega) only [go_sem])
   |((first|refine cA (c160 _) ?_ ?_|refine cG (fun e=>c160 _) ?_ ?_|refine cU (fun _=>c160 _) ?_ ?_);(next=>exact flk);simp (disch:=omega) only [go_sem])
   |((first|apply qc|apply qb);exact rvk;simp only [go_sem];first|exact VLe.refl _|apply qd|apply qa|apply qe|skip)
   |with_reducible first|refine And.intro ?_ ?_|intro _
  all_goals try exact clz
def jz (L:List Str):Int:=kW (fun i=>wE (L.getD i [])) 0 L.length
theorem qzg (L:List Str) (h:List AObj) (hl:L.length≤1000000000) (hs: ∀i,(L.getD i []).length≤1000000000) (hp:kh SG h):qm Tryz.prog 116 [strs L] h (.int .i64 (jz L)) h:=by
 obtain ⟨R,hR⟩: ∃R,R=jz L:=⟨_,rfl⟩
 rw [←hR]
 unfold jz at hR
 refine acO qua ?_
 simp (disch:=omega) only [qs7,List.replicate,strs,go_sem]
 repeat' first
  |((first|apply qc|apply qb);exact rvk;simp only [go_sem];first|exact VLe.refl _|apply qd|apply qa|apply qe|skip)
  |with_reducible first|refine And.intro ?_ ?_|intro _
 all_goals try exact clz
 refine qn (T:=fun i:Nat=>qI 19 [(6,strs L),(7,.int .i64 L.length),(8,.int .i64 i)]) (H:=fun _=>h) (inv:=fun i=>i≤L.length∧ ∀j,j<i→wE (L.getD j [])=0) (m:=fun i=>L.length-i) 0 ⟨Nat.zero_le _,fun j hj=>absurd hj (Nat.not_lt_zero j)⟩ (Wk.temps ?_) ?_
 ·(simp only [strs,List.replicate,go_sem,qj,qh,qg,qi];try (repeat' first|(with_reducible refine And.intro ?_ ?_)|(apply qd;omega)|(apply qa;rfl)|exact VLe.refl _))
 rintro i ⟨i1,i2⟩ K hK
 by_cases hi:i<L.length
 ·have k1:((i:Int)<L.length)=True:=eq_true (by omega)
  have c145:=qzR (L.getD i []) h (hs i) hp
  obtain ⟨e,he⟩: ∃e,e=wE (L.getD i []):=⟨_,rfl⟩
  rw [←he]at c145
  by_cases g:e=0
  ·have q1:(e=0)=True:=eq_true g
   simp (disch:=omega) only [List.replicate,strs,k1,go_sem]
   repeat' first
    |((first|refine cA (c145) ?_ ?_|refine cG (fun e=>c145) ?_ ?_);(next=>exact flk);simp (disch:=omega) only [strs,k1,q1,go_sem])
    |((first|apply qc|apply qb);exact rvk;simp only [go_sem];first|exact VLe.refl _|apply qd|apply qa|apply qe|skip)
    |with_reducible first|refine And.intro ?_ ?_|intro _
   all_goals try exact clz
   refine hK _ _ (i+1) ⟨hi,fun j hj=> ?_⟩ (by omega) (Wk.temps ?_)
   ·by_cases e':j=i
    ·subst e';rw [←he,g]
    ·exact i2 j (by omega)
   ·(simp only [strs,List.replicate,go_sem,qj,qh,qg,qi];try (repeat' first|(with_reducible refine And.intro ?_ ?_)|(apply qd;omega)|(apply qa;rfl)|exact VLe.refl _))
  ·have q1:(e=0)=False:=eq_false g
   have hV:R=e:=by rw [hR,qP (f:=fun i=>wE (L.getD i [])) hi i2 (by rw [←he];exact g),he]
   rw [hV]
   simp (disch:=omega) only [List.replicate,strs,k1,go_sem]
   repeat' first
    |((first|refine cA (c145) ?_ ?_|refine cG (fun e=>c145) ?_ ?_);(next=>exact flk);simp (disch:=omega) only [strs,k1,q1,go_sem])
    |((first|apply qc|apply qb);exact rvk;simp only [go_sem];first|exact VLe.refl _|apply qd|apply qa|apply qe|skip)
    |with_reducible first|refine And.intro ?_ ?_|intro _
   all_goals try exact clz
 ·have k1:((i:Int)<L.length)=False:=eq_false (by omega)
  have hV:R=0:=by rw [hR,qA (f:=fun i=>wE (L.getD i [])) (fun j hj=>i2 j (by omega))]
  rw [hV]
  simp (disch:=omega) only [List.replicate,strs,k1,go_sem]
  repeat' first
   |((first|apply qc|apply qb);exact rvk;simp only [go_sem];first|exact VLe.refl _|apply qd|apply qa|apply qe|skip)
   |with_reducible first|refine And.intro ?_ ?_|intro _
  all_goals try exact clz
end RC
end
section
open Go Go.Proofs AF HY LN
namespace RC
set_option maxHeartbeats 4000000
theorem qpH (h:List AObj):qm Tryz.prog 174 [.str []] h (.bool true) h:=by
 refine acO qux ?_
 simp (disch:=omega) only [qtq,List.replicate,go_sem]
 repeat' first
  |(refine qo ( .bool false) ?_;simp (disch:=omega) only [go_sem])
  |((first|apply qc|apply qb);exact rvk;simp only [go_sem];first|exact VLe.refl _|apply qd|apply qa|apply qe|skip)
  |with_reducible first|refine And.intro ?_ ?_|intro _
 all_goals try exact clz
theorem qwz (a b c:Str) (n f g:Int) (d:Str) (h:List AObj) (hf:0≤f) (hf2:f≤31) (hg:0<g):qm Tryz.prog 171 [.agg [.str a,.str b,.str c,.int .i64 n,.int .i64 f,.str d],.int .i64 g] h (.bool (decide (f/g%2=1))) h:=by
 have k1:(g=0)=False:=eq_false (by omega)
 have k2:0≤f/g:=Int.ediv_nonneg hf (by omega)
 have k3:f/g≤f:=Int.ediv_le_self _ hf
 refine acO quv ?_
 simp (disch:=omega) only [qto,List.replicate,k1,go_sem]
 repeat' first
  |((first|apply qc|apply qb);exact rvk;simp only [go_sem];first|exact VLe.refl _|apply qd|apply qa|apply qe|skip)
  |with_reducible first|refine And.intro ?_ ?_|intro _
 all_goals try exact clz
theorem qzH (s:Str) (h:List AObj) (hs:s.length≤1000000000) (hp:kh SG h):qm Tryz.prog 172 [.str s] h (.bool (qdI s)) h:=by
 refine acO quw ?_
 simp (disch:=omega) only [qtp,List.replicate,go_sem]
 repeat' first
  |((first|apply qc|apply qb);exact rvk;simp only [go_sem];first|exact VLe.refl _|apply qd|apply qa|apply qe|skip)
  |with_reducible first|refine And.intro ?_ ?_|intro _
 all_goals try exact clz
 refine qn (T:=fun i:Nat=>qI 14 [(0,.str s),(3,.int .i64 ((i+1:Nat):Int))]) (H:=fun _=>h) (inv:=fun i=>i≤64∧ ∀j,j<i→s≠91::(Lib.itoa ((j+1:Nat):Int)++ [93])) (m:=fun i=>64-i) 0 ⟨Nat.zero_le _,fun j hj=>absurd hj (Nat.not_lt_zero j)⟩ (Wk.temps ?_) ?_
 ·(simp only [List.replicate,go_sem,qj,qh,qg,qi];try (repeat' first|(with_reducible refine And.intro ?_ ?_)|(apply qd;omega)|(apply qa;rfl)|exact VLe.refl _))
 rintro i ⟨i1,i2⟩ K hK
 have ec:((i+1:Nat):Int)=(i:Int)+1:=by omega
 by_cases hi:i<64
 ·have k1:((i:Int)+1≤64)=True:=eq_true (by omega)
  have c181:=t48 ((i:Int)+1) h (SG.pow hp) (by omega) (by omega)
  have hl:(Lib.itoa ((i:Int)+1)).length≤9:=by rw [←ec];exact qkb (by omega)
  obtain ⟨t,ht⟩: ∃t,t=Lib.itoa ((i:Int)+1):=⟨_,rfl⟩
  rw [←ht]at c181 hl
  by_cases g:s=91::(t++ [93])
  ·have q1:(s=91::(t++ [93]))=True:=eq_true g
   have hV:qdI s=true:=by
    unfold qdI
    rw [List.any_eq_true]
    exact ⟨i,by simpa using hi,decide_eq_true (by rw [ec,←ht];exact g)⟩
   rw [hV]
   simp (disch:=omega) only [List.replicate,ec,k1,go_sem]
   repeat' first
    |((first|refine cA (c181) ?_ ?_|refine cG (fun e=>c181) ?_ ?_);(next=>exact flk);simp (disch:=omega) only [k1,q1,go_sem])
    |((first|apply qc|apply qb);exact rvk;simp only [go_sem];first|exact VLe.refl _|apply qd|apply qa|apply qe|skip)
    |with_reducible first|refine And.intro ?_ ?_|intro _
   all_goals try exact clz
  ·have q1:(s=91::(t++ [93]))=False:=eq_false g
   simp (disch:=omega) only [List.replicate,ec,k1,go_sem]
   repeat' first
    |((first|refine cA (c181) ?_ ?_|refine cG (fun e=>c181) ?_ ?_);(next=>exact flk);simp (disch:=omega) only [k1,q1,go_sem])
    |((first|apply qc|apply qb);exact rvk;simp only [go_sem];first|exact VLe.refl _|apply qd|apply qa|apply qe|skip)
    |with_reducible first|refine And.intro ?_ ?_|intro _
   all_goals try exact clz
   refine hK _ _ (i+1) ⟨hi,fun j hj=> ?_⟩ (by omega) (Wk.temps ?_)
   ·by_cases e':j=i
    ·subst e';rw [ec,←ht];exact g
    ·exact i2 j (by omega)
   ·(simp only [List.replicate,go_sem,qj,qh,qg,qi];try (repeat' first|(with_reducible refine And.intro ?_ ?_)|(apply qd;omega)|(apply qa;rfl)|exact VLe.refl _))
 ·have k1:((i:Int)+1≤64)=False:=eq_false (by omega)
  have hV:qdI s=false:=by
   cases e:qdI s with
   |false=>rfl
   |true=>
    unfold qdI at e
    rw [List.any_eq_true]at e
    obtain ⟨j,hj,e⟩:=e
    exact absurd (of_decide_eq_true e) (i2 j (by have:j<64:=(by simpa using hj);omega))
  rw [hV]
  simp (disch:=omega) only [List.replicate,ec,k1,go_sem]
  repeat' first
   |((first|apply qc|apply qb);exact rvk;simp only [go_sem];first|exact VLe.refl _|apply qd|apply qa|apply qe|skip)
   |with_reducible first|refine And.intro ?_ ?_|intro _
  all_goals try exact clz
theorem qtG (s:Str) (h:List AObj) (hs:s.length≤1000000000) (hp:kh SG h):qm Tryz.prog 163 [.agg [.str s,.str s,.str [],.int .i64 0,.int .i64 2,.str []]] h (.int .i64 (if qdI s=true then 0 else 11)) h:=by
 have d1:decide ((2:Int)/2%2=1)=true:=rfl
 have d2:decide ((2:Int)/8%2=1)=false:=rfl
 have c1:=fun h=>qwz s s [] 0 2 2 [] h (by decide) (by decide) (by decide)
 have c2:=fun h=>qwz s s [] 0 2 8 [] h (by decide) (by decide) (by decide)
 rw [d1]at c1
 rw [d2]at c2
 have c3:=fun l=>qzH s (h++l) hs (hp.app l)
 have c4:=fun h=>qpH h
 cases g:qdI s with
 |true=>
  rw [g]at c3
  refine acO qco ?_
  simp (disch:=omega) only [qeu,List.replicate,go_sem]
  repeat' first
   |((first|refine cA (c1 _) ?_ ?_|refine cG (fun e=>c1 _) ?_ ?_|refine cA (c2 _) ?_ ?_|refine cG (fun e=>c2 _) ?_ ?_|refine cA (c3 _) ?_ ?_|refine cG (fun e=>c3 _) ?_ ?_|refine cA (c4 _) ?_ ?_|refine cG (fun e=>c4 _) ?_ ?_|refine cU (fun _=>c1 _) ?_ ?_|refine cU (fun _=>c2 _) ?_ ?_|refine cU (fun _=>c3 _) ?_ ?_|refine cU (fun _=>c4 _) ?_ ?_);(next=>exact flk);simp (disch:=omega) only [go_sem])
   |((first|apply qc|apply qb);exact rvk;simp only [go_sem];first|exact VLe.refl _|apply qd|apply qa|apply qe|skip)
   |with_reducible first|refine And.intro ?_ ?_|intro _
  all_goals try exact clz
 |false=>
  rw [g]at c3
  refine acO qco ?_
  simp (disch:=omega) only [qeu,List.replicate,go_sem]
  repeat' first
   |((first|refine cA (c1 _) ?_ ?_|refine cG (fun e=>c1 _) ?_ ?_|refine cA (c2 _) ?_ ?_|refine cG (fun e=>c2 _) ?_ ?_|refine cA (c3 _) ?_ ?_|refine cG (fun e=>c3 _) ?_ ?_|refine cA (c4 _) ?_ ?_|refine cG (fun e=>c4 _) ?_ ?_|refine cU (fun _=>c1 _) ?_ ?_|refine cU (fun _=>c2 _) ?_ ?_|refine cU (fun _=>c3 _) ?_ ?_|refine cU (fun _=>c4 _) ?_ ?_);(next=>exact flk);simp (disch:=omega) only [go_sem])
   |((first|apply qc|apply qb);exact rvk;simp only [go_sem];first|exact VLe.refl _|apply qd|apply qa|apply qe|skip)
   |with_reducible first|refine And.intro ?_ ?_|intro _
  all_goals try exact clz
theorem qtH (s:Str) (h:List AObj) (hs:s.length≤1):qm Tryz.prog 163 [.agg [.str s,.str s,.str [],.int .i64 0,.int .i64 8,.str []]] h (.int .i64 (if s.length=1∧(zA (ch s 0)=5∨zA (ch s 0)=4) then 0 else 11)) h:=by
 have d1:decide ((8:Int)/2%2=1)=false:=rfl
 have d2:decide ((8:Int)/8%2=1)=true:=rfl
 have c1:=fun h=>qwz s s [] 0 8 2 [] h (by decide) (by decide) (by decide)
 have c2:=fun h=>qwz s s [] 0 8 8 [] h (by decide) (by decide) (by decide)
 rw [d1]at c1
 rw [d2]at c2
 have c4:=fun h=>qpH h
 by_cases g:s.length=1
 ·have k1:((s.length:Int)=1)=True:=eq_true (by omega)
  have k2:((0:Int)<s.length)=True:=eq_true (by omega)
  have e:(s[0]?).getD 0=ch s 0:=by simp [ch,gdqA]
  have c5:=fun h=>j9 (ch s 0) h
  obtain ⟨k,hk⟩: ∃k,k=zA (ch s 0):=⟨_,rfl⟩
  rw [←hk]at c5 ⊢
  by_cases g1:k=5
  ·have q1:(k=5)=True:=eq_true g1
   rw [if_pos ⟨g,.inl g1⟩]
   refine acO qco ?_
   simp (disch:=omega) only [qeu,List.replicate,k1,go_sem]
   repeat' first
    |(refine qo ( .int .i64 0) ?_;simp (disch:=omega) only [k1,k2,e,q1,Int.toNat_zero,go_sem])
    |((first|refine cA (c1 _) ?_ ?_|refine cG (fun e=>c1 _) ?_ ?_|refine cA (c2 _) ?_ ?_|refine cG (fun e=>c2 _) ?_ ?_|refine cA (c5 _) ?_ ?_|refine cG (fun e=>c5 _) ?_ ?_|refine cA (c4 _) ?_ ?_|refine cG (fun e=>c4 _) ?_ ?_|refine cU (fun _=>c1 _) ?_ ?_|refine cU (fun _=>c2 _) ?_ ?_|refine cU (fun _=>c5 _) ?_ ?_|refine cU (fun _=>c4 _) ?_ ?_);(next=>exact flk);simp (disch:=omega) only [k1,k2,e,q1,Int.toNat_zero,go_sem])
    |((first|apply qc|apply qb);exact rvk;simp only [go_sem];first|exact VLe.refl _|apply qd|apply qa|apply qe|skip)
    |with_reducible first|refine And.intro ?_ ?_|intro _
   all_goals try exact clz
  ·have q1:(k=5)=False:=eq_false g1
   by_cases g2:k=4
   ·have q2:(k=4)=True:=eq_true g2
    rw [if_pos ⟨g,.inr g2⟩]
    refine acO qco ?_
    simp (disch:=omega) only [qeu,List.replicate,k1,go_sem]
    repeat' first
     |((first|refine cA (c1 _) ?_ ?_|refine cG (fun e=>c1 _) ?_ ?_|refine cA (c2 _) ?_ ?_|refine cG (fun e=>c2 _) ?_ ?_|refine cA (c5 _) ?_ ?_|refine cG (fun e=>c5 _) ?_ ?_|refine cA (c4 _) ?_ ?_|refine cG (fun e=>c4 _) ?_ ?_|refine cU (fun _=>c1 _) ?_ ?_|refine cU (fun _=>c2 _) ?_ ?_|refine cU (fun _=>c5 _) ?_ ?_|refine cU (fun _=>c4 _) ?_ ?_);(next=>exact flk);simp (disch:=omega) only [k1,k2,e,q1,q2,Int.toNat_zero,go_sem])
     |((first|apply qc|apply qb);exact rvk;simp only [go_sem];first|exact VLe.refl _|apply qd|apply qa|apply qe|skip)
     |with_reducible first|refine And.intro ?_ ?_|intro _
    all_goals try exact clz
   ·have q2:(k=4)=False:=eq_false g2
    rw [if_neg (by rintro ⟨_,h|h⟩<;>contradiction)]
    refine acO qco ?_
    simp (disch:=omega) only [qeu,List.replicate,k1,go_sem]
    repeat' first
     |((first|refine cA (c1 _) ?_ ?_|refine cG (fun e=>c1 _) ?_ ?_|refine cA (c2 _) ?_ ?_|refine cG (fun e=>c2 _) ?_ ?_|refine cA (c5 _) ?_ ?_|refine cG (fun e=>c5 _) ?_ ?_|refine cA (c4 _) ?_ ?_|refine cG (fun e=>c4 _) ?_ ?_|refine cU (fun _=>c1 _) ?_ ?_|refine cU (fun _=>c2 _) ?_ ?_|refine cU (fun _=>c5 _) ?_ ?_|refine cU (fun _=>c4 _) ?_ ?_);(next=>exact flk);simp (disch:=omega) only [k1,k2,e,q1,q2,Int.toNat_zero,go_sem])
     |((first|apply qc|apply qb);exact rvk;simp only [go_sem];first|exact VLe.refl _|apply qd|apply qa|apply qe|skip)
     |with_reducible first|refine And.intro ?_ ?_|intro _
    all_goals try exact clz
 ·have k1:((s.length:Int)=1)=False:=eq_false (by omega)
  rw [if_neg (fun hc=>g hc.1)]
  refine acO qco ?_
  simp (disch:=omega) only [qeu,List.replicate,k1,go_sem]
  repeat' first
   |(refine qo ( .int .i64 0) ?_;simp (disch:=omega) only [k1,go_sem])
   |((first|refine cA (c1 _) ?_ ?_|refine cG (fun e=>c1 _) ?_ ?_|refine cA (c2 _) ?_ ?_|refine cG (fun e=>c2 _) ?_ ?_|refine cA (c4 _) ?_ ?_|refine cG (fun e=>c4 _) ?_ ?_|refine cU (fun _=>c1 _) ?_ ?_|refine cU (fun _=>c2 _) ?_ ?_|refine cU (fun _=>c4 _) ?_ ?_);(next=>exact flk);simp (disch:=omega) only [k1,go_sem])
   |((first|apply qc|apply qb);exact rvk;simp only [go_sem];first|exact VLe.refl _|apply qd|apply qa|apply qe|skip)
   |with_reducible first|refine And.intro ?_ ?_|intro _
  all_goals try exact clz
theorem qyt (s:Str) (h:List AObj) (hs:s.length≤1000000000) (hp:kh SG h):qm Tryz.prog 151 [.str s] h (.bool (qbt s)) h:=by
 have c1:=fun h=>t93 s h hs
 unfold qbt
 cases g:kX s with
 |true=>
  rw [g]at c1
  refine acO qdF ?_
  simp (disch:=omega) only [qgr,List.replicate,go_sem]
  repeat' first
   |((first|refine cA (c1 _) ?_ ?_|refine cG (fun e=>c1 _) ?_ ?_|refine cU (fun _=>c1 _) ?_ ?_);(next=>exact flk);simp (disch:=omega) only [go_sem])
   |((first|apply qc|apply qb);exact rvk;simp only [go_sem];first|exact VLe.refl _|apply qd|apply qa|apply qe|skip)
   |with_reducible first|refine And.intro ?_ ?_|intro _
  all_goals try exact clz
 |false=>
 rw [g]at c1
 rw [Bool.false_or]
 by_cases g1:1<s.length
 ·have k1:((1:Int)<s.length)=True:=eq_true (by omega)
  rw [if_neg (by omega)]
  have c2:=qtG s h hs hp
  cases g2:qdI s with
  |true=>
   rw [g2]at c2
   refine acO qdF ?_
   simp (disch:=omega) only [qgr,List.replicate,k1,go_sem]
   repeat' first
    |((first|refine cA (c1 _) ?_ ?_|refine cG (fun e=>c1 _) ?_ ?_|refine cA (c2) ?_ ?_|refine cG (fun e=>c2) ?_ ?_|refine cU (fun _=>c1 _) ?_ ?_);(next=>exact flk);simp (disch:=omega) only [k1,go_sem])
    |((first|apply qc|apply qb);exact rvk;simp only [go_sem];first|exact VLe.refl _|apply qd|apply qa|apply qe|skip)
    |with_reducible first|refine And.intro ?_ ?_|intro _
   all_goals try exact clz
  |false=>
   rw [g2]at c2
   refine acO qdF ?_
   simp (disch:=omega) only [qgr,List.replicate,k1,go_sem]
   repeat' first
    |((first|refine cA (c1 _) ?_ ?_|refine cG (fun e=>c1 _) ?_ ?_|refine cA (c2) ?_ ?_|refine cG (fun e=>c2) ?_ ?_|refine cU (fun _=>c1 _) ?_ ?_);(next=>exact flk);simp (disch:=omega) only [k1,go_sem])
    |((first|apply qc|apply qb);exact rvk;simp only [go_sem];first|exact VLe.refl _|apply qd|apply qa|apply qe|skip)
    |with_reducible first|refine And.intro ?_ ?_|intro _
   all_goals try exact clz
 ·have k1:((1:Int)<s.length)=False:=eq_false (by omega)
  have c2:=qtH s h (by omega)
  by_cases g2:s.length=1∧(zA (ch s 0)=5∨zA (ch s 0)=4)
  ·rw [if_pos g2]at c2
   rw [if_pos g2.1,show (decide (zA (ch s 0)=5)||decide (zA (ch s 0)=4))=true by simpa using g2.2]
   refine acO qdF ?_
   simp (disch:=omega) only [qgr,List.replicate,k1,go_sem]
   repeat' first
    |((first|refine cA (c1 _) ?_ ?_|refine cG (fun e=>c1 _) ?_ ?_|refine cA (c2) ?_ ?_|refine cG (fun e=>c2) ?_ ?_|refine cU (fun _=>c1 _) ?_ ?_);(next=>exact flk);simp (disch:=omega) only [k1,go_sem])
    |((first|apply qc|apply qb);exact rvk;simp only [go_sem];first|exact VLe.refl _|apply qd|apply qa|apply qe|skip)
    |with_reducible first|refine And.intro ?_ ?_|intro _
   all_goals try exact clz
  ·rw [if_neg g2]at c2
   have hV:(if s.length=1 then decide (zA (ch s 0)=5)||decide (zA (ch s 0)=4) else qdI s)=false:=by
    by_cases g3:s.length=1
    ·rw [if_pos g3]
     simp only [Bool.or_eq_false_iff,decide_eq_false_iff_not]
     exact ⟨fun hc=>g2 ⟨g3,.inl hc⟩,fun hc=>g2 ⟨g3,.inr hc⟩⟩
    ·rw [if_neg g3]
     have:s= []:=List.eq_nil_of_length_eq_zero (by omega)
     subst this
     unfold qdI
     rw [List.any_eq_false]
     intro k _
     simp
   rw [hV]
   refine acO qdF ?_
   simp (disch:=omega) only [qgr,List.replicate,k1,go_sem]
   repeat' first
    |((first|refine cA (c1 _) ?_ ?_|refine cG (fun e=>c1 _) ?_ ?_|refine cA (c2) ?_ ?_|refine cG (fun e=>c2) ?_ ?_|refine cU (fun _=>c1 _) ?_ ?_);(next=>exact flk);simp (disch:=omega) only [k1,go_sem])
    |((first|apply qc|apply qb);exact rvk;simp only [go_sem];first|exact VLe.refl _|apply qd|apply qa|apply qe|skip)
    |with_reducible first|refine And.intro ?_ ?_|intro _
   all_goals try exact clz
theorem qzS (s:Str) (h:List AObj) (hs:s.length≤1000000000) (hp:kh SG h):qm Tryz.prog 125 [.agg [.str s,.str [],.int .i64 0]] h (.int .i64 (wE s)) h:=by
 have c1:=fun l=>qyt s (h++l) hs (hp.app l)
 unfold wE
 cases g:qbt s with
 |true=>
  rw [g]at c1
  refine acO qpr ?_
  simp (disch:=omega) only [qqg,List.replicate,go_sem]
  repeat' first
   |(refine qo ( .bool false) ?_;simp (disch:=omega) only [go_sem])
   |((first|refine cA (c1 _) ?_ ?_|refine cG (fun e=>c1 _) ?_ ?_|refine cU (fun _=>c1 _) ?_ ?_);(next=>exact flk);simp (disch:=omega) only [go_sem])
   |((first|apply qc|apply qb);exact rvk;simp only [go_sem];first|exact VLe.refl _|apply qd|apply qa|apply qe|skip)
   |with_reducible first|refine And.intro ?_ ?_|intro _
  all_goals try exact clz
 |false=>
  rw [g]at c1
  refine acO qpr ?_
  simp (disch:=omega) only [qqg,List.replicate,go_sem]
  repeat' first
   |(refine qo ( .bool false) ?_;simp (disch:=omega) only [go_sem])
   |((first|refine cA (c1 _) ?_ ?_|refine cG (fun e=>c1 _) ?_ ?_|refine cU (fun _=>c1 _) ?_ ?_);(next=>exact flk);simp (disch:=omega) only [go_sem])
   |((first|apply qc|apply qb);exact rvk;simp only [go_sem];first|exact VLe.refl _|apply qd|apply qa|apply qe|skip)
   |with_reducible first|refine And.intro ?_ ?_|intro _
  all_goals try exact clz
theorem qpY (s:Str) (h:List AObj) (hs:s.length≤1000000000) (hp:kh SG h):qm Tryz.prog 84 [.str s] h (.bool (qbt s)) h:=by
 have c1:=qzS s h hs hp
 unfold wE at c1
 cases g:qbt s with
 |true=>
  rw [g]at c1
  refine acO quT ?_
  simp (disch:=omega) only [qw1,List.replicate,go_sem]
  repeat' first
   |((first|refine cA (c1) ?_ ?_|refine cG (fun e=>c1) ?_ ?_);(next=>exact flk);simp (disch:=omega) only [go_sem])
   |((first|apply qc|apply qb);exact rvk;simp only [go_sem];first|exact VLe.refl _|apply qd|apply qa|apply qe|skip)
   |with_reducible first|refine And.intro ?_ ?_|intro _
  all_goals try exact clz
 |false=>
  rw [g]at c1
  refine acO quT ?_
  simp (disch:=omega) only [qw1,List.replicate,go_sem]
  repeat' first
   |((first|refine cA (c1) ?_ ?_|refine cG (fun e=>c1) ?_ ?_);(next=>exact flk);simp (disch:=omega) only [go_sem])
   |((first|apply qc|apply qb);exact rvk;simp only [go_sem];first|exact VLe.refl _|apply qd|apply qa|apply qe|skip)
   |with_reducible first|refine And.intro ?_ ?_|intro _
  all_goals try exact clz
end RC
end
section
open Go Go.Proofs AF HY LN
namespace RC
set_option maxHeartbeats 4000000
theorem gt1 (n:Int) (h:List AObj):qm Tryz.prog 129 [.int .i64 n] h (.bool (decide (1<n))) h:=by
 refine acO qui ?_
 simp (disch:=omega) only [qtd,List.replicate,go_sem]
 repeat' first
  |((first|apply qc|apply qb);exact rvk;simp only [go_sem];first|exact VLe.refl _|apply qd|apply qa|apply qe|skip)
  |with_reducible first|refine And.intro ?_ ?_|intro _
 all_goals try exact clz
theorem qw7 (cs:List Int) (h:List AObj) (hl:cs.length≤1000000):qm Tryz.prog 128 [ql cs,.fn (.func 129) [] []] h (.bool (jb (fun i=>decide (1<cs.getD i 0)) cs.length)) h:=
 qtI quh ⟨rfl,rfl⟩ ⟨rfl,rfl⟩ (qj0 qur cs.length (fun i=> [.int .i64 (cs.getD i 0)]) (fun i=> .int .i64 (cs.getD i 0)) _ [] [] _ h (fun i _=>⟨rfl,by simp [jA],rfl,rfl,rfl⟩) (fun i _=>gt1 _ _) (by omega))
open Go.Shelf Go.RowKit in
theorem qmI (cs:List Int) (w:World) (b:Nat) (hl:cs.length=32) (hb:b<w.heap.size) (hc: ∀i,i<32→w.cell? ⟨b,i,none⟩=some (.int .i64 (cs.getD i 0))):
  Calls Tryz.prog 128 #[.slice (some ⟨b,0,none⟩) 32 32,.func (.func 129) #[] #[]] w fun e w'=>e= .returned (.bool (jb (fun i=>decide (1<cs.getD i 0)) cs.length))∧Below w.heap.size w w':=by
 have H0:HR w [] []:=⟨rfl,by simp,by simp,by simp⟩
 have h0: ∀b,¬own [] b:=fun b ⟨k,o,h1,_⟩=>by simp at h1
 have hI:ql cs= .sl 32 (fun i=> [.int .i64 (cs.getD i 0)]):=by unfold ql;rw [hl]
 have h3:=qw7 cs [] (by omega)
 rw [hI]at h3
 have h3:=h3.2 w [] [.slice (some ⟨b,0,none⟩) 32 32,.func (.func 129) #[] #[]] H0 ⟨rfl,fun i c x hc' hx=>by
  match i with
  |0=>
   simp at hc' hx
   subst hc' hx
   refine .imm (.sl 1 b 0 32 (fun i j=> .int .i64 (cs.getD i 0)) (Nat.le_refl _) (by decide) (fun _=>h0 b) hb (fun i _=>rfl) (fun i j hi hj=> ?_) (fun i j _ _=>rfl) (fun i j c hi hj=> ?_))
   ·have:j=0:=by omega
    subst this
    simpa using hc i (by omega)
   ·match j with
    |0=>simp at hj;subst hj;exact .int
    |j+1=>simp at hj
  |1=>
   simp at hc' hx
   subst hc' hx
   exact .imm (.fn rfl rfl (by simp) (by simp))
  |i+2=>simp at hc'⟩
 refine (callsIn_wide.1 h3).mono ?_
 rintro e w' ⟨v,σ',rfl,g1,g2,g3⟩
 obtain rfl:=zC g2
 exact ⟨rfl,⟨g3.os,g3.tape,g3.output,g3.size,fun k hk=>g3.keep k hk (h0 k)⟩⟩
open Go.Shelf Go.RowKit in
theorem qoV (cs:List Int) (w:World) (hl:cs.length=32):
  Calls Tryz.prog 94 #[.agg (cs.map fun n=>Value.int .i64 n).toArray] w fun e w'=>e= .returned (.bool (jb (fun i=>decide (1<cs.getD i 0)) cs.length))∧Below w.heap.size w w':=by
 go_enter Tryz.func94,Tryz.ntmps94
 go_wp2_with (go_at_fn 128)
 have hh: ∀o:Obj,(w.alloc o).heap[w.heap.size]? =some o:=fun o=>by
  show (w.heap.push o)[w.heap.size]? =some o
  simp
 refine (qmI cs _ _ hl ?_ ?_).mono ?_
 ·show w.heap.size<(w.heap.push _).size
  simp
 ·intro i hi
  simp only [World.cell?,hh]
  simp [gdqA,hl,hi]
 ·rintro e w' ⟨rfl,hb⟩
  simp only
  go_wp2
  go_ret
  exact ⟨rfl,((Below.refl _ _).alloc (Nat.le_refl _) _).trans (hb.mono (by show w.heap.size≤(w.heap.push _).size;simp))⟩
theorem twP (cs:List Int) (h:List AObj) (hl:cs.length=32):qm Tryz.prog 94 [.agg (cs.map fun n=>AV.int .i64 n)] h (.bool (jb (fun i=>decide (1<cs.getD i 0)) cs.length)) h:=by
 refine ⟨qwB Tryz.func94 (by kernel_rfl) (by kernel_rfl),fun w σ xs H hv=> ?_⟩
 obtain ⟨x,rfl,hx⟩:=hv.one
 obtain ⟨vs,rfl,hvl,_,hvv⟩:=qaG hx
 have e:vs=(cs.map fun n=>Value.int .i64 n).toArray:=by
  apply Array.ext
  ·simpa using hvl
  ·intro i h1 h2
   have hi:i<cs.length:=by simpa using h2
   have:=hvv i (.int .i64 cs[i]) vs[i] (by simp [hi]) (by simp [h1])
   rw [q9 this]
   simp
 subst e
 refine (callsIn_wide.2 (qoV cs w hl)).mono ?_
 rintro e w' ⟨rfl,hb⟩
 obtain ⟨g1,g2⟩:=Ext.ofBelow H hb
 exact ⟨_,σ,rfl,g1,.imm .bool,g2⟩
end RC
end
section
open Go Go.Proofs AF HY LN
namespace RC
set_option maxHeartbeats 4000000
def qbL (C L:List Int):List Int:=L.foldl (fun C n=>C.set n.toNat (C.getD n.toNat 0+1)) C
theorem qbw (L:List Int): ∀C:List Int,(qbL C L).length=C.length:=by
 induction L with
 |nil=>intro C;rfl
 |cons n L ih=>intro C;show (qbL (C.set _ _) L).length=_;rw [ih];simp
theorem qdu {C L:List Int} {i:Nat} (hi:i<L.length):qbL C (L.take (i+1))=(qbL C (L.take i)).set (L.getD i 0).toNat ((qbL C (L.take i)).getD (L.getD i 0).toNat 0+1):=by
 unfold qbL
 rw [List.take_add_one,qU hi,List.foldl_append,gdqA,qU hi]
 rfl
theorem qj7 {C:List Int} {n:Nat} (x:Int) (h:n<C.length):List.take n (qs C)++ [AV.int .i64 x]++List.drop (n+1) (qs C)=qs (C.set n x):=by
 unfold qs
 rw [←List.map_take,←List.map_drop,List.set_eq_take_append_cons_drop,if_pos h]
 simp
theorem qj6 {C:List Int} {n:Nat} (h:n<C.length):(qs C)[n]? =some (.int .i64 (C.getD n 0)):=by
 unfold qs
 rw [List.getElem?_map,qU h,gdqA,qU h]
 rfl
theorem qkg {L:List Int} {n:Nat} {c:AV} (h:c∈qs L):zy n c=true:=by
 unfold qs at h
 obtain ⟨x,_,rfl⟩:=List.mem_map.1 h
 rfl
theorem qm4 {names:List Str} {gs:List Gr} {sg:List Str}:inB names.length (zz names gs sg)∧ ∀i,0<i→i<(zz names gs sg).length→(zz names gs sg).getD (i-1) 0<(zz names gs sg).getD i 0:=by
 unfold zz
 split
 ·rename_i h
  have h':=h
  unfold jo at h'
  split at h'
  ·cases h'
  rename_i h1
  have hok:=qbk (by simpa using h1)
  have hz:=jY.1 h'
  obtain ⟨m1,m2⟩:=qcC hok hz
  have hsort:(qS (qdl names gs sg sg.length).testBit 64).Pairwise (· < ·):=by
   unfold qS
   rw [List.pairwise_map]
   exact (List.pairwise_lt_range.filter _).imp (fun h=>Int.ofNat_lt.2 h)
  have hmem: ∀n∈qS (qdl names gs sg sg.length).testBit 64,0≤n∧n<names.length:=by
   intro n hn
   unfold qS at hn
   obtain ⟨k,hk,rfl⟩:=List.mem_map.1 hn
   have hk2:=(List.mem_filter.1 hk).2
   rw [m2 k]at hk2
   obtain ⟨j,hj,hm⟩:=of_decide_eq_true hk2
   have hf: ¬(nIx names (sg.getD j [])<0∧gIx gs (sg.getD j [])<0):=by
    intro hc
    have:=hz j hj
    unfold qag at this
    rw [if_pos hc]at this
    cases this
   exact zN (qeE hok hf) _ hm
  refine ⟨fun i hi=> ?_,fun i h0 hi=> ?_⟩
  ·rw [gdqA,qU hi]
   exact hmem _ (List.getElem_mem hi)
  ·rw [gdqA,gdqA,qU hi,qU (show i-1<_ by omega)]
   exact List.pairwise_iff_getElem.1 hsort (i-1) i (by omega) hi (by omega)
 ·exact ⟨fun i hi=>absurd hi (Nat.not_lt_zero i),fun i _ hi=>absurd hi (Nat.not_lt_zero i)⟩
theorem qfH {names:List Str} {gs:List Gr} {sg:List Str}:inB 32 (zz names gs sg):=by
 by_cases h:jo names gs sg=0
 ·have h':=h
  unfold jo at h'
  split at h'
  ·cases h'
  rename_i h1
  have hok:=qbk (by simpa using h1)
  exact qcR qm4.1 (by have:=hok.n32;omega)
 ·have:zz names gs sg= []:=by unfold zz;rw [if_neg h]
  rw [this]
  exact fun i hi=>absurd hi (Nat.not_lt_zero i)
theorem qcP {names:List Str} {gs:List Gr} {sg:List Str}:(zz names gs sg).length≤64:=by
 unfold zz
 split
 ·exact qX _ _
 ·simp
theorem qcI {C L:List Int} {B:Int} (hc: ∀i,0≤C.getD i 0∧C.getD i 0≤B): ∀(i:Nat),i≤L.length→ ∀j,0≤(qbL C (L.take i)).getD j 0∧(qbL C (L.take i)).getD j 0≤B+i:=by
 intro i
 induction i with
 |zero=>intro _ j;simpa [qbL] using hc j
 |succ i ih=>
  intro hi j
  rw [qdu (by omega)]
  have h1:=ih (by omega) j
  have h2:=ih (by omega) (L.getD i 0).toNat
  rw [gdqA,List.getElem?_set]
  split
  ·rename_i e1
   split
   ·simp only [Option.getD_some];omega
   ·simp;omega
  ·rw [←gdqA];omega
theorem qxa (names:List Str) (gs:List Gr) (sg:List Str) (C:List Int) (k v:Nat) (ty:TypeId) (h:List AObj) (hz:Szs names gs) (hs:sg.length≤1000000000) (hk:qy k h=some (.mem v ty (qs C))) (hC:C.length=32) (B:Int) (hB0:B≤1000000000000000000) (hc: ∀i,0≤C.getD i 0∧C.getD i 0≤B):
  qm Tryz.prog 93 [strs names,qt gs,strs sg,.op k v 0] h (.int .i64 (jo names gs sg)) (qD k h (.mem v ty (qs (qbL C (zz names gs sg))))):=by
 have c62:=fun h=>qy1 names gs sg h hz hs
 have hB:= @qfH names gs sg
 have hL:= @qcP names gs sg
 obtain ⟨L,hLx⟩: ∃L,L=zz names gs sg:=⟨_,rfl⟩
 rw [←hLx]at c62 hB hL ⊢
 obtain ⟨e,he⟩: ∃e,e=jo names gs sg:=⟨_,rfl⟩
 rw [←he]at c62 ⊢
 have hkl:=zI hk
 have bnd:=qcI (L:=L) hc
 refine acO qxL ?_
 simp (disch:=omega) only [qyS,List.replicate,go_sem]
 repeat' first
  |((first|refine cA (c62 _) ?_ ?_|refine cG (fun e=>c62 _) ?_ ?_|refine cU (fun _=>c62 _) ?_ ?_);(next=>exact flk);simp (disch:=omega) only [ql,go_sem])
  |((first|apply qc|apply qb);exact rvk;simp only [go_sem];first|exact VLe.refl _|apply qd|apply qa|apply qe|skip)
  |with_reducible first|refine And.intro ?_ ?_|intro _
 all_goals try exact clz
 refine qn (T:=fun i:Nat=>qI 36 [(3,.op k v 0),(10,.int .i64 e),(20,ql L),(21,.int .i64 L.length),(22,.int .i64 i)]) (H:=fun i=>qD k h (.mem v ty (qs (qbL C (L.take i))))) (inv:=fun i=>i≤L.length) (m:=fun i=>L.length-i) 0 (Nat.zero_le _) ?_ ?_
 ·have e0:qD k h (.mem v ty (qs (qbL C (L.take 0))))=h:=qea hk
  rw [e0]
  refine Wk.temps ?_
  (simp only [ql,List.replicate,go_sem,qj,qh,qg,qi];try (repeat' first|(with_reducible refine And.intro ?_ ?_)|(apply qd;omega)|(apply qa;rfl)|exact VLe.refl _))
 rintro i i1 K hK
 have hl:=qbw (L.take i) C
 rw [hC]at hl
 have bn:=bnd i i1
 have hst:= @qdu C L i
 obtain ⟨D,hD⟩: ∃D,D=qbL C (L.take i):=⟨_,rfl⟩
 have eD:=hD.symm
 rw [eD]at hl bn hst
 have f1:cellsOf (qD k h (.mem v ty (qs D))) k v=some (qs D):=kK (zR hkl)
 have f2:=zR (o:= .mem v ty (qs D)) hkl
 have f3: ∀o',qD k (qD k h (.mem v ty (qs D))) o'=qD k h o':=fun _=>qeb
 by_cases hi:i<L.length
 ·have k1:((i:Int)<L.length)=True:=eq_true (by omega)
  have hv:=hB i hi
  have hst:=hst hi
  obtain ⟨n,hn⟩: ∃n,n=L.getD i 0:=⟨_,rfl⟩
  have en:=hn.symm
  rw [en]at hv hst
  obtain ⟨u,rfl⟩: ∃u:Nat,n=(u:Int):=⟨n.toNat,by omega⟩
  rw [Int.toNat_natCast]at hst
  have hu:u<D.length:=by omega
  have k2:(0≤(u:Int))=True:=eq_true (by omega)
  have k3:((u:Int)<32)=True:=eq_true (by omega)
  have k4:(u<D.length)=True:=eq_true hu
  have k5:(u+1≤D.length)=True:=eq_true hu
  have g1:=qj6 hu
  have g2:=qj7 (D.getD u 0+1) hu
  have g3:=qF D
  have b1:=bn u
  have b2:(D.getD u 0+1≤9223372036854775807)=True:=eq_true (by omega)
  have b3:(-9223372036854775808≤D.getD u 0+1)=True:=eq_true (by omega)
  simp (disch:=omega) only [List.replicate,ql,k1,k2,k3,k4,k5,en,eD,f1,f2,f3,g1,g2,g3,Nat.mul_one,Nat.zero_add,Option.getD_some,Option.isSome_some,go_sem]
  repeat' first
   |((first|apply qc|apply qb);exact rvk;simp only [go_sem];first|exact VLe.refl _|apply qd|apply qa|apply qe|skip)
   |with_reducible first|refine And.intro ?_ ?_|intro _
  all_goals try exact clz
  rw [←hst]
  refine hK _ _ (i+1) hi (by omega) (Wk.temps ?_)
  (simp only [ql,List.replicate,go_sem,qj,qh,qg,qi];try (repeat' first|(with_reducible refine And.intro ?_ ?_)|(apply qd;omega)|(apply qa;rfl)|exact VLe.refl _))
 ·have k1:((i:Int)<L.length)=False:=eq_false (by omega)
  have e':i=L.length:=by omega
  subst e'
  rw [List.take_length]at hD
  rw [List.take_length,←hD]
  simp (disch:=omega) only [List.replicate,ql,k1,go_sem]
  repeat' first
   |with_reducible first|refine And.intro ?_ ?_|intro _
  refine qfM ⟨trivial,trivial⟩ qR (fun o ho=> ?_) ⟨rfl,rfl⟩ (VLe.refl _)
  rcases qay ho with h1|rfl
  ·exact .inl h1
  ·exact .inr (fun c hc=>qkg hc)
end RC
end
section
open Go Go.Proofs AF HY LN
namespace RC
set_option maxHeartbeats 4000000
structure Va where
 words:List Str
 sigla:List Str
 deriving Inhabited
structure En where
 layer:Int
 frm:Int
 to:Int
 pos:Bool
 sup:List Str
 vars:List Va
 deriving Inhabited
def vaC (v:Va):List AV:= [strs v.words,strs v.sigla]
def qB (vs:List Va):AV:= .sl vs.length fun i=>vaC (vs.getD i default)
def enC (e:En):List AV:= [.int .i64 e.layer,.int .i64 e.frm,.int .i64 e.to,.bool e.pos,strs e.sup,qB e.vars]
def qz (l:List En):AV:= .sl l.length fun i=>enC (l.getD i default)
theorem qjK (L:List Va):(qB L).flag=true:=rfl
theorem qhC (L:List Va):(qB L).strip=qB L:=rfl
theorem qnt {fz:Nat→Bool} {h:List AObj} {n:Nat} (L:List Va):frz fz h (n+1) (qB L)=qB L:=rfl
theorem qoj {fz:Nat→Bool} {h:List AObj} {n:Nat} (L:List Va):rei fz h (n+1) (qB L)=qB L:=rfl
theorem qjG (L:List En):(qz L).flag=true:=rfl
theorem qhy (L:List En):(qz L).strip=qz L:=rfl
theorem qnq {fz:Nat→Bool} {h:List AObj} {n:Nat} (L:List En):frz fz h (n+1) (qz L)=qz L:=rfl
theorem qog {fz:Nat→Bool} {h:List AObj} {n:Nat} (L:List En):rei fz h (n+1) (qz L)=qz L:=rfl
attribute [go_sem] qjK qhC qnt qoj qjG qhy qnq qog
theorem qxi (ws:List Str) (m:Nat) (k:Nat→Str) (h:List AObj) (h1:ws.length≤1000000000) (h2:m≤1000000000):
  qm Tryz.prog 22 [strs ws,.sl m (fun j=> [.str (k j)])] h (.bool (decide (ws.length=m∧ ∀i,i<ws.length→ws.getD i []=k i))) h:=by
 unfold strs
 have:=qxh quG ws.length m (fun j=> .s (ws.getD j [])) (fun j=> .s (k j)) h (fun _ _ _=>rfl) (by omega) (by omega)
 simpa only [At.v,At.s.injEq] using this
theorem qvF (ws:List Str) (m:Nat) (k:Nat→Str) (h:List AObj) (h1:ws.length≤1000000000) (h2:m≤1000000000):
  qm Tryz.prog 117 [strs ws,.sl m (fun j=> [.str (k j)])] h (.bool (decide (ws.length=m∧ ∀i,i<ws.length→ws.getD i []=k i))) h:=by
 have c22:=fun h=>qxi ws m k h h1 h2
 refine acO qub ?_
 simp (disch:=omega) only [qs8,List.replicate,go_sem]
 repeat' first
  |((first|refine cA (c22 _) ?_ ?_|refine cG (fun e=>c22 _) ?_ ?_|refine cU (fun _=>c22 _) ?_ ?_);(next=>exact flk);simp (disch:=omega) only [go_sem])
  |((first|apply qc|apply qb);exact rvk;simp only [go_sem];first|exact VLe.refl _|apply qd|apply qa|apply qe|skip)
  |with_reducible first|refine And.intro ?_ ?_|intro _
 all_goals try exact clz
theorem k8 {α:Type} [Inhabited α] {a b:List α} (d:α):a=b↔a.length=b.length∧ ∀i,i<a.length→a.getD i d=b.getD i d:=by
 constructor
 ·rintro rfl;exact ⟨rfl,fun _ _=>rfl⟩
 ·rintro ⟨h1,h2⟩
  apply List.ext_getElem h1
  intro i h3 h4
  have:=h2 i h3
  rw [gdqA,gdqA,qU h3,qU h4]at this
  exact this
def jB (t:List Str) (f g:Nat):List Str:=(t.drop f).take (g-f)
theorem qbG {t:List Str} {f g:Nat} (h1:f≤g) (h2:g≤t.length):(jB t f g).length=g-f:=by unfold jB;simp;omega
theorem qgc {t:List Str} {f g i:Nat} (h1:f≤g) (h2:g≤t.length) (hi:i<g-f):(jB t f g).getD i []=t.getD (f+i) []:=by
 unfold jB
 rw [gdqA,List.getElem?_take,if_pos hi,List.getElem?_drop,←gdqA]
theorem qf7 {ws t:List Str} {f g:Nat} (h1:f≤g) (h2:g≤t.length):decide (ws.length=g-f∧ ∀i,i<ws.length→ws.getD i []=t.getD (f+i) [])=decide (ws=jB t f g):=by
 refine decide_eq_decide.2 ?_
 rw [k8 (b:=jB t f g) ([]:Str),qbG h1 h2]
 constructor
 ·rintro ⟨p,q⟩;exact ⟨p,fun i hi=>by rw [q i hi,qgc h1 h2 (by omega)]⟩
 ·rintro ⟨p,q⟩;exact ⟨p,fun i hi=>by rw [q i hi,qgc h1 h2 (by omega)]⟩
theorem qzs (x:Va) (y:List Str) (c:AV) (h:List AObj) (h1:y.length≤1000000000) (h2:x.words.length≤1000000000):qm Tryz.prog 119 [.agg (vaC x),.ip [strs y,c]] h (.bool (decide (y=x.words))) h:=by
 have c117:=fun h=>qvF y x.words.length (fun j=>x.words.getD j []) h h1 h2
 have e:decide (y.length=x.words.length∧ ∀i,i<y.length→y.getD i []=x.words.getD i [])=decide (y=x.words):=decide_eq_decide.2 (k8 ([]:Str)).symm
 rw [e]at c117
 have e2:AV.sl x.words.length (fun j=> [AV.str (x.words.getD j [])])=strs x.words:=rfl
 rw [e2]at c117
 refine acO qud ?_
 simp (disch:=omega) only [qs9,List.replicate,vaC,go_sem]
 repeat' first
  |((first|refine cA (c117 _) ?_ ?_|refine cG (fun e=>c117 _) ?_ ?_|refine cU (fun _=>c117 _) ?_ ?_);(next=>exact flk);simp (disch:=omega) only [vaC,go_sem])
  |((first|apply qc|apply qb);exact rvk;simp only [go_sem];first|exact VLe.refl _|apply qd|apply qa|apply qe|skip)
  |with_reducible first|refine And.intro ?_ ?_|intro _
 all_goals try exact clz
theorem qzo (n:Nat) (vs:List Va) (y:List Str) (k v:Nat) (c:AV) (h:List AObj) (hk:qy k h=some (.mem v 51 [strs y,c])) (hn:n≤vs.length) (hl:vs.length≤1000000000) (h1:y.length≤1000000000) (h2: ∀i,(vs.getD i default).words.length≤1000000000):
  qm Tryz.prog 118 [.sl n (fun j=>vaC (vs.getD j default)),.fn (.func 119) [] [.op k v 0]] h (.bool (jb (fun j=>decide (y=(vs.getD j default).words)) n)) h:=by
 have hc:=kK hk
 refine qtI quc ⟨rfl,rfl⟩ ⟨rfl,rfl⟩ (qj0 qum n (fun j=>vaC (vs.getD j default)) (fun j=> .agg (vaC (vs.getD j default))) _ [] [.op k v 0] _ h (fun i _=>⟨rfl,by simp [jA,vaC],rfl,rfl,rfl⟩) (fun i _=> ?_) (by omega))
 refine qm.borrow ?_ rfl
 have e:([AV.agg (vaC (vs.getD i default))]++ [AV.op k v 0]).map (rei (fun _=>true) h 8)= [.agg (vaC (vs.getD i default)),.ip [strs y,rei (fun _=>true) h 7 c]]:=by
  simp only [List.cons_append,List.nil_append,List.map_cons,List.map_nil,rei_op,if_true,hc,ipOf_some,List.drop_zero,rei_agg]
  rfl
 rw [List.nil_append,e]
 exact qzs _ y _ _ h1 (h2 i)
def qbs (t:List Str) (e:En) (i:Nat):Int:=
 if jz (e.vars.getD i default).words≠0 then 11 else if (e.vars.getD i default).words=jB t e.frm.toNat e.to.toNat then 9 else
  if jb (fun j=>decide ((e.vars.getD i default).words=(e.vars.getD j default).words)) i=true then 7 else if (e.vars.getD i default).sigla.length=0 then 5 else 0
def cnt (names:List Str) (gs:List Gr) (e:En):Nat→List Int
 |0=>qbL (List.replicate 32 0) (zz names gs e.sup)
 |i+1=>qbL (cnt names gs e i) (zz names gs (e.vars.getD i default).sigla)
def qhG (C:List Int):Bool:=jb (fun i=>decide (1<C.getD i 0)) C.length
def qhZ (t:List Str) (e:En):Prop:=e.layer<0∨16≤e.layer∨e.frm<0∨e.to<e.frm∨(t.length:Int)<e.to
instance (t:List Str) (e:En):Decidable (qhZ t e):=by unfold qhZ;infer_instance
def kj (names:List Str) (gs:List Gr) (t:List Str) (e:En):Int:=
 if sgE names gs≠0 then 1 else if 4096<t.length then 4 else if jz t≠0 then 11 else if qhZ t e then 2 else
  if 0<e.sup.length∧e.pos=false then 1 else if e.vars.length=0 then 5 else
   if kW (qbs t e) 0 e.vars.length≠0 then kW (qbs t e) 0 e.vars.length else
    if jo names gs e.sup≠0 then jo names gs e.sup else
     if kW (fun i=>jo names gs (e.vars.getD i default).sigla) 0 e.vars.length≠0 then kW (fun i=>jo names gs (e.vars.getD i default).sigla) 0 e.vars.length else
      if qhG (cnt names gs e e.vars.length)=true then 17 else 0
structure TSz (t:List Str):Prop where
 n:t.length≤1000000000
 s: ∀j,(t.getD j []).length≤1000000000
structure ESz (e:En):Prop where
 sup:e.sup.length≤1000000000
 vs:e.vars.length≤1000000000
 w: ∀i,TSz (e.vars.getD i default).words
 sg: ∀i,(e.vars.getD i default).sigla.length≤1000000000
theorem qcK (names:List Str) (gs:List Gr) (e:En): ∀i,(cnt names gs e i).length=32:=by
 intro i
 induction i with
 |zero=>unfold cnt;rw [qbw];simp
 |succ i ih=>unfold cnt;rw [qbw,ih]
theorem qjm (names:List Str) (gs:List Gr) (e:En): ∀i j:Nat,0≤(cnt names gs e i).getD j 0∧(cnt names gs e i).getD j 0≤64*((i:Int)+1):=by
 intro i
 induction i with
 |zero=>
  intro j
  unfold cnt
  have:=qcI (C:=List.replicate 32 0) (L:=zz names gs e.sup) (B:=0) (fun i=>by
   rw [gdqA,List.getElem?_replicate]
   split<;>simp) _ (Nat.le_refl _) j
  rw [List.take_length]at this
  have h2:= @qcP names gs e.sup
  omega
 |succ i ih=>
  intro j
  unfold cnt
  have:=qcI (C:=cnt names gs e i) (L:=zz names gs (e.vars.getD i default).sigla) (B:=64*((i:Int)+1)) ih _ (Nat.le_refl _) j
  rw [List.take_length]at this
  have h2:= @qcP names gs (e.vars.getD i default).sigla
  omega
end RC
end
