import Derived.Test.YthlgfjbghnildaaGreatDoorK7
import Derived.Shelf.Slices.In.SortAlone
import Derived.Shelf.Slices.In.CompactI
import Derived.Test.YthlgfjbghnildaaGreatDoorProg
import Derived.Sort.OwnSortedInts
import Derived.Shelf.Strconv.Itoa3
import Derived.Shelf.Strconv.ErrVarAll
import Derived.Test.YthlgfjbghnildaaGreatDoorK2
import Derived.Below
import Derived.Lib.AppendIntMem
import Derived.Stop.LaidErr
import Derived.Lib.ItoaLen
import Derived.Test.YthlgfjbghnildaaGreatDoorK3
set_option linter.all false
set_option linter.unusedSimpArgs false
set_option linter.unusedVariables false
set_option linter.unusedSectionVars false
set_option maxRecDepth 100000
section
open Go Go.Proofs AF HY LN
namespace RC
structure Szs (names:List Str) (gs:List Gr):Prop where
 n:names.length≤1000000000
 g:gs.length≤1000000000
 ns: ∀i,(names.getD i []).length≤1000000000
 gn: ∀i,(gs.getD i default).name.length≤1000000000
 gm: ∀i,(gs.getD i default).mem.length≤1000000000
set_option maxHeartbeats 4000000 in
theorem sgP (names:List Str) (gs:List Gr) (h:List AObj) (hz:Szs names gs):qm Tryz.prog 59 [strs names,qu gs] h (.int .i64 (sgE names gs)) h:=by
 obtain ⟨z1,z2,z3,z4,z5⟩:=hz
 obtain ⟨R,hR⟩: ∃R,R=sgE names gs:=⟨_,rfl⟩
 rw [←hR]
 unfold sgE at hR
 by_cases g0:32<names.length
 ·have k0:((32:Int)<names.length)=True:=eq_true (by omega)
  rw [if_pos g0]at hR
  rw [hR]
  refine acO qvr ?_
  simp (disch:=omega) only [qxD,List.replicate,strs,qu,k0,go_sem]
  repeat' first
   |((first|apply qc|apply qb);exact rvk;simp only [go_sem];first|exact VLe.refl _|apply qd|apply qa|apply qe|skip)
   |with_reducible first|refine And.intro ?_ ?_|intro _
  all_goals try exact clz
 have k0:((32:Int)<names.length)=False:=eq_false (by omega)
 rw [if_neg g0]at hR
 refine acO qvr ?_
 simp (disch:=omega) only [qxD,List.replicate,strs,qu,k0,go_sem]
 repeat' first
  |((first|apply qc|apply qb);exact rvk;simp only [go_sem];first|exact VLe.refl _|apply qd|apply qa|apply qe|skip)
  |with_reducible first|refine And.intro ?_ ?_|intro _
 all_goals try exact clz
 refine qn (T:=fun i:Nat=>qI 70 [(0,strs names),(1,qu gs),(13,strs names),(14,.int .i64 names.length),(15,.int .i64 i)]) (H:=fun _=>h++ [.emp 0]) (inv:=fun i=>i≤names.length∧ ∀j,j<i→kp names j=0) (m:=fun i=>names.length-i) 0 ⟨Nat.zero_le _,fun j hj=>by omega⟩ (Wk.temps ?_) ?_
 ·(simp only [strs,qu,List.replicate,go_sem,qj,qh,qg,qi];try (repeat' first|(with_reducible refine And.intro ?_ ?_)|(apply qd;omega)|(apply qa;rfl)|exact VLe.refl _))
 rintro i ⟨i1,i2⟩ K hK
 by_cases hi:i<names.length
 ·have k1:((i:Int)<names.length)=True:=eq_true (by omega)
  have k2:((i:Int)≤names.length)=True:=eq_true (by omega)
  have hE:=qP (f:=kp names) hi i2
  have hs:kp names i=if qoT (names.getD i [])=false then 14 else if zS (fun j=>decide (names.getD i []=names.getD j [])) i=true then 7 else 0:=rfl
  have c87:=fun h=>qyU (names.getD i []) h (z3 i)
  have c88:=fun h=>qqS i (fun j=>names.getD j []) (names.getD i []) h (by omega)
  obtain ⟨s,hsx⟩: ∃s,s=names.getD i []:=⟨_,rfl⟩
  have es:=hsx.symm
  rw [es]at hs c87
  simp only [es]at hs c88
  cases g1:qoT s with
  |false=>
   rw [g1]at c87
   rw [if_pos g1]at hs
   have hV:R=14:=by rw [hR,hE (by rw [hs];decide),hs];rfl
   rw [hV]
   simp (disch:=omega) only [List.replicate,strs,qu,k1,k2,es,go_sem]
   repeat' first
    |((first|refine cA (c87 _) ?_ ?_|refine cG (fun e=>c87 _) ?_ ?_|refine cU (fun _=>c87 _) ?_ ?_);(next=>exact flk);simp (disch:=omega) only [strs,qu,k1,k2,es,go_sem])
    |((first|apply qc|apply qb);exact rvk;simp only [go_sem];first|exact VLe.refl _|apply qd|apply qa|apply qe|skip)
    |with_reducible first|refine And.intro ?_ ?_|intro _
   all_goals try exact clz
  |true=>
  rw [g1]at c87
  rw [if_neg (by rw [g1];simp)]at hs
  cases g2:zS (fun j=>decide (s=names.getD j [])) i with
  |true=>
   rw [g2]at c88
   rw [if_pos g2]at hs
   have hV:R=7:=by rw [hR,hE (by rw [hs];decide),hs];rfl
   rw [hV]
   simp (disch:=omega) only [List.replicate,strs,qu,k1,k2,es,Nat.sub_zero,go_sem]
   repeat' first
    |((first|refine cA (c87 _) ?_ ?_|refine cG (fun e=>c87 _) ?_ ?_|refine cA (c88 _) ?_ ?_|refine cG (fun e=>c88 _) ?_ ?_|refine cU (fun _=>c87 _) ?_ ?_|refine cU (fun _=>c88 _) ?_ ?_);(next=>exact flk);simp (disch:=omega) only [strs,qu,k1,k2,es,Nat.sub_zero,go_sem])
    |((first|apply qc|apply qb);exact rvk;simp only [go_sem];first|exact VLe.refl _|apply qd|apply qa|apply qe|skip)
    |with_reducible first|refine And.intro ?_ ?_|intro _
   all_goals try exact clz
  |false=>
   rw [g2]at c88
   rw [if_neg (by rw [g2];simp)]at hs
   simp (disch:=omega) only [List.replicate,strs,qu,k1,k2,es,Nat.sub_zero,go_sem]
   repeat' first
    |((first|refine cA (c87 _) ?_ ?_|refine cG (fun e=>c87 _) ?_ ?_|refine cA (c88 _) ?_ ?_|refine cG (fun e=>c88 _) ?_ ?_|refine cU (fun _=>c87 _) ?_ ?_|refine cU (fun _=>c88 _) ?_ ?_);(next=>exact flk);simp (disch:=omega) only [strs,qu,k1,k2,es,Nat.sub_zero,go_sem])
    |((first|apply qc|apply qb);exact rvk;simp only [go_sem];first|exact VLe.refl _|apply qd|apply qa|apply qe|skip)
    |with_reducible first|refine And.intro ?_ ?_|intro _
   all_goals try exact clz
   refine hK _ _ (i+1) ⟨hi,fun j hj=> ?_⟩ (by omega) (Wk.temps ?_)
   ·by_cases e:j=i
    ·subst e;exact hs
    ·exact i2 j (by omega)
   ·(simp only [strs,qu,List.replicate,go_sem,qj,qh,qg,qi];try (repeat' first|(with_reducible refine And.intro ?_ ?_)|(apply qd;omega)|(apply qa;rfl)|exact VLe.refl _))
 have k1:((i:Int)<names.length)=False:=eq_false (by omega)
 have hn0:=qC (f:=kp names) (fun j (hj:j<names.length)=>i2 j (by omega))
 rw [if_neg (fun hc=>hc hn0)]at hR
 by_cases g1:16<gs.length
 ·have k2:((16:Int)<gs.length)=True:=eq_true (by omega)
  rw [if_pos g1]at hR
  rw [hR]
  simp (disch:=omega) only [List.replicate,strs,qu,k1,k2,go_sem]
  repeat' first
   |((first|apply qc|apply qb);exact rvk;simp only [go_sem];first|exact VLe.refl _|apply qd|apply qa|apply qe|skip)
   |with_reducible first|refine And.intro ?_ ?_|intro _
  all_goals try exact clz
 have k2:((16:Int)<gs.length)=False:=eq_false (by omega)
 rw [if_neg g1]at hR
 simp (disch:=omega) only [List.replicate,strs,qu,k1,k2,go_sem]
 repeat' first
  |((first|apply qc|apply qb);exact rvk;simp only [go_sem];first|exact VLe.refl _|apply qd|apply qa|apply qe|skip)
  |with_reducible first|refine And.intro ?_ ?_|intro _
 all_goals try exact clz
 refine qn (T:=fun i:Nat×Nat=>qI 70 [(0,strs names),(1,qu gs),(32,qu gs),(33,.int .i64 gs.length),(34,.int .i64 i.1)]) (H:=fun i=>h++ [.emp i.2]) (inv:=fun i=>i.1≤gs.length∧ ∀j,j<i.1→qb7 names gs j=0) (m:=fun i=>gs.length-i.1) (0,0) ⟨Nat.zero_le _,fun j hj=>absurd hj (Nat.not_lt_zero j)⟩ (Wk.temps ?_) ?_
 ·(simp only [strs,qu,List.replicate,go_sem,qj,qh,qg,qi];try (repeat' first|(with_reducible refine And.intro ?_ ?_)|(apply qd;omega)|(apply qa;rfl)|exact VLe.refl _))
 rintro ⟨i,v⟩ ⟨i1,i2⟩ K hK
 simp only at i1 i2 hK
 by_cases hi:i<gs.length
 ·have k3:((i:Int)<gs.length)=True:=eq_true (by omega)
  have k4:((i:Int)≤gs.length)=True:=eq_true (by omega)
  have hE:=qP (f:=qb7 names gs) hi i2
  have hs:qb7 names gs i=if jV (gs.getD i default).name=false then 14 else if zS (fun j=>decide ((gs.getD i default).name=names.getD j [])) names.length=true then 7 else
   if zS (fun j=>decide ((gs.getD i default).name=(gs.getD j default).name)) i=true then 7 else if (gs.getD i default).mem.length=0 then 5 else qae names.length (gs.getD i default).mem:=rfl
  have z4i:=z4 i
  have z5i:=z5 i
  obtain ⟨g,hg⟩: ∃g,g=gs.getD i default:=⟨_,rfl⟩
  have eg:=hg.symm
  simp only [eg]at hs z4i z5i
  have c89:=fun h=>t44 g.name h z4i
  have c88:=fun h=>qqS names.length (fun j=>names.getD j []) g.name h z1
  have c90:=fun h hk=>qAe i gs g.name (List.length h) (v+1) (ql g.mem) (h++ [.mem (v+1) 85 (grC g)]) hk (by omega) z2
  have c90:=c90 h (by rw [getO_app0];rfl)
  have c92:=fun h=>qzW g.mem names.length h z5i
  cases g2:jV g.name with
  |false=>
   rw [g2]at c89
   rw [if_pos g2]at hs
   have hV:R=14:=by rw [hR,hE (by rw [hs];decide),hs]
   rw [hV]
   simp (disch:=omega) only [List.replicate,strs,qu,grC,ql,k3,k4,eg,go_sem]
   repeat' first
    |((first|refine cA (c89 _) ?_ ?_|refine cG (fun e=>c89 _) ?_ ?_|refine cU (fun _=>c89 _) ?_ ?_);(next=>exact flk);simp (disch:=omega) only [strs,qu,grC,ql,k3,k4,eg,go_sem])
    |((first|apply qc|apply qb);exact rvk;simp only [go_sem];first|exact VLe.refl _|apply qd|apply qa|apply qe|skip)
    |with_reducible first|refine And.intro ?_ ?_|intro _
   all_goals try exact clz
  |true=>
  rw [g2]at c89
  rw [if_neg (by rw [g2];simp)]at hs
  cases g3:zS (fun j=>decide (g.name=names.getD j [])) names.length with
  |true=>
   rw [g3]at c88
   rw [if_pos g3]at hs
   have hV:R=7:=by rw [hR,hE (by rw [hs];decide),hs]
   rw [hV]
   simp (disch:=omega) only [List.replicate,strs,qu,grC,ql,k3,k4,eg,go_sem]
   repeat' first
    |(refine qo ( .bool false) ?_;simp (disch:=omega) only [strs,qu,grC,ql,k3,k4,eg,go_sem])
    |((first|refine cA (c89 _) ?_ ?_|refine cG (fun e=>c89 _) ?_ ?_|refine cA (c88 _) ?_ ?_|refine cG (fun e=>c88 _) ?_ ?_|refine cU (fun _=>c89 _) ?_ ?_|refine cU (fun _=>c88 _) ?_ ?_);(next=>exact flk);simp (disch:=omega) only [strs,qu,grC,ql,k3,k4,eg,go_sem])
    |((first|apply qc|apply qb);exact rvk;simp only [go_sem];first|exact VLe.refl _|apply qd|apply qa|apply qe|skip)
    |with_reducible first|refine And.intro ?_ ?_|intro _
   all_goals try exact clz
  |false=>
  rw [g3]at c88
  rw [if_neg (by rw [g3];simp)]at hs
  cases g4:zS (fun j=>decide (g.name=(gs.getD j default).name)) i with
  |true=>
   rw [g4]at c90
   rw [if_pos g4]at hs
   have hV:R=7:=by rw [hR,hE (by rw [hs];decide),hs]
   rw [hV]
   simp only [grC,ql]at c90
   simp (disch:=omega) only [List.replicate,strs,qu,grC,ql,k3,k4,eg,Nat.sub_zero,go_sem]
   repeat' first
    |((first|refine cA (c89 _) ?_ ?_|refine cG (fun e=>c89 _) ?_ ?_|refine cA (c88 _) ?_ ?_|refine cG (fun e=>c88 _) ?_ ?_|refine cA (c90) ?_ ?_|refine cG (fun e=>c90) ?_ ?_|refine cU (fun _=>c89 _) ?_ ?_|refine cU (fun _=>c88 _) ?_ ?_);(next=>exact flk);simp (disch:=omega) only [strs,qu,grC,ql,k3,k4,eg,Nat.sub_zero,go_sem])
    |((first|apply qc|apply qb);exact rvk;simp only [go_sem];first|exact VLe.refl _|apply qd|apply qa|apply qe|skip)
    |with_reducible first|refine And.intro ?_ ?_|intro _
   all_goals try exact clz
  |false=>
  rw [g4]at c90
  rw [if_neg (by rw [g4];simp)]at hs
  simp only [grC,ql]at c90
  by_cases g5:g.mem.length=0
  ·have k5:((g.mem.length:Int)=0)=True:=eq_true (by omega)
   rw [if_pos g5]at hs
   have hV:R=5:=by rw [hR,hE (by rw [hs];decide),hs]
   rw [hV]
   simp (disch:=omega) only [List.replicate,strs,qu,grC,ql,k3,k4,eg,Nat.sub_zero,go_sem]
   repeat' first
    |((first|refine cA (c89 _) ?_ ?_|refine cG (fun e=>c89 _) ?_ ?_|refine cA (c88 _) ?_ ?_|refine cG (fun e=>c88 _) ?_ ?_|refine cA (c90) ?_ ?_|refine cG (fun e=>c90) ?_ ?_|refine cU (fun _=>c89 _) ?_ ?_|refine cU (fun _=>c88 _) ?_ ?_);(next=>exact flk);simp (disch:=omega) only [strs,qu,grC,ql,k3,k4,eg,Nat.sub_zero,k5,go_sem])
    |((first|apply qc|apply qb);exact rvk;simp only [go_sem];first|exact VLe.refl _|apply qd|apply qa|apply qe|skip)
    |with_reducible first|refine And.intro ?_ ?_|intro _
   all_goals try exact clz
  have k5:((g.mem.length:Int)=0)=False:=eq_false (by omega)
  rw [if_neg g5]at hs
  unfold ql at c92
  obtain ⟨e,he⟩: ∃e,e=qae names.length g.mem:=⟨_,rfl⟩
  rw [←he]at c92 hs
  by_cases g6:e=0
  ·have k6:(e=0)=True:=eq_true g6
   simp (disch:=omega) only [List.replicate,strs,qu,grC,ql,k3,k4,eg,Nat.sub_zero,go_sem]
   repeat' first
    |((first|refine cA (c89 _) ?_ ?_|refine cG (fun e=>c89 _) ?_ ?_|refine cA (c88 _) ?_ ?_|refine cG (fun e=>c88 _) ?_ ?_|refine cA (c90) ?_ ?_|refine cG (fun e=>c90) ?_ ?_|refine cA (c92 _) ?_ ?_|refine cG (fun e=>c92 _) ?_ ?_|refine cU (fun _=>c89 _) ?_ ?_|refine cU (fun _=>c88 _) ?_ ?_|refine cU (fun _=>c92 _) ?_ ?_);(next=>exact flk);simp (disch:=omega) only [strs,qu,grC,ql,k3,k4,eg,Nat.sub_zero,k5,k6,go_sem])
    |((first|apply qc|apply qb);exact rvk;simp only [go_sem];first|exact VLe.refl _|apply qd|apply qa|apply qe|skip)
    |with_reducible first|refine And.intro ?_ ?_|intro _
   all_goals try exact clz
   refine hK _ _ (i+1,v+1+1) ⟨hi,fun j hj=> ?_⟩ (by simp only;omega) (Wk.trans Wk.kill0 (Wk.temps ?_))
   ·by_cases e':j=i
    ·subst e';rw [hs,g6]
    ·exact i2 j (by simp only at hj;omega)
   ·(simp only [strs,qu,List.replicate,go_sem,qj,qh,qg,qi];try (repeat' first|(with_reducible refine And.intro ?_ ?_)|(apply qd;omega)|(apply qa;rfl)|exact VLe.refl _))
  ·have k6:(e=0)=False:=eq_false g6
   have hV:R=e:=by rw [hR,hE (by rw [hs];exact g6),hs]
   rw [hV]
   simp (disch:=omega) only [List.replicate,strs,qu,grC,ql,k3,k4,eg,Nat.sub_zero,go_sem]
   repeat' first
    |((first|refine cA (c89 _) ?_ ?_|refine cG (fun e=>c89 _) ?_ ?_|refine cA (c88 _) ?_ ?_|refine cG (fun e=>c88 _) ?_ ?_|refine cA (c90) ?_ ?_|refine cG (fun e=>c90) ?_ ?_|refine cA (c92 _) ?_ ?_|refine cG (fun e=>c92 _) ?_ ?_|refine cU (fun _=>c89 _) ?_ ?_|refine cU (fun _=>c88 _) ?_ ?_|refine cU (fun _=>c92 _) ?_ ?_);(next=>exact flk);simp (disch:=omega) only [strs,qu,grC,ql,k3,k4,eg,Nat.sub_zero,k5,k6,go_sem])
    |((first|apply qc|apply qb);exact rvk;simp only [go_sem];first|exact VLe.refl _|apply qd|apply qa|apply qe|skip)
    |with_reducible first|refine And.intro ?_ ?_|intro _
   all_goals try exact clz
 ·have k3:((i:Int)<gs.length)=False:=eq_false (by omega)
  rw [qC (fun j (hj:j<gs.length)=>i2 j (by omega))]at hR
  rw [hR]
  simp (disch:=omega) only [List.replicate,strs,qu,k3,go_sem]
  repeat' first
   |((first|apply qc|apply qb);exact rvk;simp only [go_sem];first|exact VLe.refl _|apply qd|apply qa|apply qe|skip)
   |with_reducible first|refine And.intro ?_ ?_|intro _
  all_goals try exact clz
end RC
end
section
open Go Go.Proofs AF HY LN
namespace RC
theorem _root_.AF.Wk.kill2 {t:List AV} {h l:List AObj} {a b:AObj} {v:Nat} {ty:TypeId} {cs:List AV}:Wk t (h++a::b:: .mem v ty cs::l) t (h++a::b:: .emp (v+1)::l):=by
 have:=Wk.kill0 (t:=t) (h:=h++ [a,b]) (l:=l) (v:=v) (ty:=ty) (cs:=cs)
 simpa using this
theorem qaS {n:Int} (h0:0≤n) (h1:n<18446744073709551616):IntKind.u64.wrap n=n:=by
 have e1:(2:Int)^IntKind.bits IntKind.u64=18446744073709551616:=by decide
 have e3:IntKind.signed IntKind.u64=false:=rfl
 unfold IntKind.wrap
 rw [e1,e3]
 simp only [Bool.false_and,Bool.false_eq_true,if_false]
 omega
theorem jY (a:Nat):BitVec.ofInt 64 (a:Int)=BitVec.ofNat 64 a:=by simp
theorem qgl {a b:Nat} (ha:a<2^64) (hb:b<2^64):orK .u64 (a:Int) (b:Int)=((a|||b:Nat):Int):=by
 have hab:a|||b<2^64:=Nat.or_lt_two_pow ha hb
 unfold orK
 rw [show IntKind.bits IntKind.u64=64 from rfl,jY,jY,BitVec.toNat_or,BitVec.toNat_ofNat,BitVec.toNat_ofNat,Nat.mod_eq_of_lt ha,Nat.mod_eq_of_lt hb]
 exact qaS (by omega) (by omega)
theorem qqs {a b:Nat} (ha:a<2^64) (hb:b<2^64):qxa .u64 (a:Int) (b:Int)=((a&&&b:Nat):Int):=by
 have hab:a&&&b<2^64:=Nat.lt_of_le_of_lt Nat.and_le_left ha
 unfold qxa
 rw [show IntKind.bits IntKind.u64=64 from rfl,jY,jY,BitVec.toNat_and,BitVec.toNat_ofNat,BitVec.toNat_ofNat,Nat.mod_eq_of_lt ha,Nat.mod_eq_of_lt hb]
 exact qaS (by omega) (by omega)
theorem qfn {n:Nat} (hn:n<64):qyT .u64 1 (n:Int)=((2^n:Nat):Int):=by
 unfold qyT
 rw [show IntKind.bits IntKind.u64=64 from rfl,Int.toNat_natCast,Nat.min_eq_left (by omega)]
 have h2:(2:Nat)^n<2^64:=Nat.pow_lt_pow_right (by omega) hn
 rw [Int.one_mul,show ((2:Int)^n)=((2^n:Nat):Int) by simp]
 exact qaS (Int.natCast_nonneg _) (Int.ofNat_lt.2 (show 2^n<18446744073709551616 from h2))
theorem qsD {a n:Nat} (hn:n<64):qxi .u64 (a:Int) (n:Int)=((a>>>n:Nat):Int):=by
 unfold qxi
 rw [show IntKind.bits IntKind.u64=64 from rfl,Int.toNat_natCast,Nat.min_eq_left (by omega),Nat.shiftRight_eq_div_pow,show ((2:Int)^n)=((2^n:Nat):Int) by simp,Int.fdiv_eq_ediv_of_nonneg _ (Int.natCast_nonneg _)]
 rfl
theorem qjh {a n:Nat} (ha:a<2^64) (hn:n<64):qxa .u64 (qxi .u64 (a:Int) (n:Int)) 1=if a.testBit n=true then 1 else 0:=by
 rw [qsD hn,show (1:Int)=((1:Nat):Int)from rfl,qqs (Nat.lt_of_le_of_lt (by rw [Nat.shiftRight_eq_div_pow];exact Nat.div_le_self _ _) ha) (by decide)]
 have:(a>>>n)&&&1=(a.testBit n).toNat:=by rw [Nat.testBit];simp [Nat.and_comm 1];rcases Nat.mod_two_eq_zero_or_one (a>>>n)with h|h<;>simp [h]
 rw [this]
 cases a.testBit n<;>rfl
def jf (l:List Int):Nat:=l.foldl (fun a n=>a|||2^n.toNat) 0
def inB (b:Int) (l:List Int):Prop:= ∀i,i<l.length→0≤l.getD i 0∧l.getD i 0<b
theorem qp4 (l:List Int): ∀a:Nat,a<2^64→(∀n∈l,0≤n∧n<64)→l.foldl (fun a n=>a|||2^n.toNat) a<2^64∧ ∀i,(l.foldl (fun a n=>a|||2^n.toNat) a).testBit i=(a.testBit i||decide ((i:Int)∈l)):=by
 induction l with
 |nil=>intro a ha _;exact ⟨ha,fun i=>by simp⟩
 |cons n l ih=>
  intro a ha hl
  have hn:=hl n (by simp)
  obtain ⟨h1,h2⟩:=ih (a|||2^n.toNat) (Nat.or_lt_two_pow ha (Nat.pow_lt_pow_right (by omega) (by omega))) (fun m hm=>hl m (by simp [hm]))
  refine ⟨h1,fun i=> ?_⟩
  rw [List.foldl_cons,h2 i,Nat.testBit_or,Nat.testBit_two_pow]
  by_cases e:(i:Int)=n
  ·have e':n.toNat=i:=by omega
   simp [e,e']
  ·have e': ¬n.toNat=i:=by omega
   simp [e,e']
theorem zI {l:List Int} {b:Int} (h:inB b l): ∀n∈l,0≤n∧n<b:=by
 intro n hn
 obtain ⟨i,hi,e⟩:=List.getElem_of_mem hn
 have:=h i hi
 rw [gdqA,qR hi]at this
 rw [←e];exact this
theorem qbo {l:List Int} (h:inB 64 l):jf l<2^64:=(qp4 l 0 (by decide) (zI h)).1
theorem jk {l:List Int} (h:inB 64 l) (i:Nat):(jf l).testBit i=decide ((i:Int)∈l):=by
 have:=(qp4 l 0 (by decide) (zI h)).2 i
 rw [Nat.zero_testBit,Bool.false_or]at this
 exact this
theorem qnY {l:List Int} {b:Int} {i:Nat} (h:inB b l) (hi:i≤l.length):inB b (l.take i):=by
 intro j hj
 rw [List.length_take]at hj
 have:=h j (by omega)
 rw [gdqA,List.getElem?_take,if_pos (by omega),←gdqA]
 exact this
theorem qob {l:List Int} {i:Nat} (hi:i<l.length):jf (l.take (i+1))=jf (l.take i)|||2^(l.getD i 0).toNat:=by
 unfold jf
 rw [List.take_add_one,qR hi,List.foldl_append,gdqA,qR hi]
 rfl
theorem qxf (l:List Int) (h:List AObj) (hl:l.length≤1000000000) (hb:inB 64 l):qm Tryz.prog 96 [ql l] h (.int .u64 (jf l:Int)) h:=by
 refine acO qyx ?_
 simp (disch:=omega) only [qzK,List.replicate,ql,go_sem]
 repeat' first
  |((first|apply qc|apply qb);exact rvk;simp only [go_sem];first|exact VLe.refl _|apply qd|apply qa|apply qe|skip)
  |with_reducible first|refine And.intro ?_ ?_|intro _
 all_goals try exact clz
 refine qn (T:=fun i:Nat=>qI 18 [(3,.int .u64 (jf (l.take i):Int)),(6,ql l),(7,.int .i64 l.length),(8,.int .i64 i)]) (H:=fun _=>h) (inv:=fun i=>i≤l.length) (m:=fun i=>l.length-i) 0 (Nat.zero_le _) (Wk.temps ?_) ?_
 ·(simp only [ql,List.replicate,go_sem,qj,qh,qg,qi];try (repeat' first|(with_reducible refine And.intro ?_ ?_)|(apply qd;omega)|(apply qa;rfl)|exact VLe.refl _))
 rintro i i1 K hK
 by_cases hi:i<l.length
 ·have k1:((i:Int)<l.length)=True:=eq_true (by omega)
  have hv:=hb i hi
  have hst:=qob hi
  obtain ⟨v,hv'⟩: ∃v,v=l.getD i 0:=⟨_,rfl⟩
  have ev:=hv'.symm
  rw [ev]at hv hst
  obtain ⟨u,rfl⟩: ∃u:Nat,v=(u:Int):=⟨v.toNat,by omega⟩
  rw [Int.toNat_natCast]at hst
  have k2:(0≤(u:Int))=True:=eq_true (by omega)
  have e1:=qfn (n:=u) (by omega)
  have hm:=qbo (qnY hb i1)
  have h2:(2:Nat)^u<2^64:=Nat.pow_lt_pow_right (by omega) (by omega)
  have e2:=qgl hm h2
  simp (disch:=omega) only [List.replicate,ql,k1,k2,ev,e1,e2,go_sem]
  repeat' first
   |((first|apply qc|apply qb);exact rvk;simp only [go_sem];first|exact VLe.refl _|apply qd|apply qa|apply qe|skip)
   |with_reducible first|refine And.intro ?_ ?_|intro _
  all_goals try exact clz
  refine hK _ _ (i+1) hi (by omega) (Wk.temps ?_)
  rw [hst]
  (simp only [ql,List.replicate,go_sem,qj,qh,qg,qi];try (repeat' first|(with_reducible refine And.intro ?_ ?_)|(apply qd;omega)|(apply qa;rfl)|exact VLe.refl _))
 ·have k1:((i:Int)<l.length)=False:=eq_false (by omega)
  have e:i=l.length:=by omega
  subst e
  rw [List.take_length]
  simp (disch:=omega) only [List.replicate,ql,k1,go_sem]
  repeat' first
   |((first|apply qc|apply qb);exact rvk;simp only [go_sem];first|exact VLe.refl _|apply qd|apply qa|apply qe|skip)
   |with_reducible first|refine And.intro ?_ ?_|intro _
  all_goals try exact clz
def qY (p:Nat→Bool) (k:Nat):List Int:=((List.range k).filter p).map Int.ofNat
theorem jz (p:Nat→Bool) (k:Nat):qY p (k+1)=qY p k++if p k=true then [(k:Int)] else []:=by
 unfold qY
 rw [List.range_succ,List.filter_append,List.map_append]
 congr 1
 rw [List.filter_cons]
 split<;>rfl
theorem qS (p:Nat→Bool) (k:Nat):(qY p k).length≤k:=by
 unfold qY
 rw [List.length_map]
 exact Nat.le_trans (List.length_filter_le _ _) (by simp)
def qp (L:List Int):List AV:=L.map fun n=> .int .i64 n
theorem qw (L:List Int):(qp L).length=L.length:=by simp [qp]
theorem qQ (L M:List Int):qp (L++M)=qp L++qp M:=by simp [qp]
theorem qb9 {L:List Int}:qp L= []↔L= []:=by simp [qp]
theorem jd {L:List Int} {n:Nat} (g:AV→AV) (hg: ∀n,g (.int .i64 n)= .int .i64 n) (hn:n=L.length):VLe (.sl n fun i=>(((qp L).drop i).take 1).map g) (ql L):=by
 subst hn
 refine VLe.sl_eq rfl (fun i hi=> ?_)
 unfold qp
 rw [←List.map_drop,List.drop_eq_getElem_cons hi,List.map_cons,List.take_succ_cons,List.take_zero,List.map_cons,List.map_nil,hg,gdqA,qR hi]
 rfl
set_option maxHeartbeats 2000000 in
theorem qyJ (m:Nat) (h:List AObj) (hm:m<2^64):qm Tryz.prog 100 [.int .u64 (m:Int)] h (ql (qY m.testBit 64)) h:=by
 refine acO quC ?_
 simp (disch:=omega) only [qtA,List.replicate,go_sem]
 repeat' first
  |((first|apply qc|apply qb);exact rvk;simp only [go_sem];first|exact VLe.refl _|apply qd|apply qa|apply qe|skip)
  |with_reducible first|refine And.intro ?_ ?_|intro _
 all_goals try exact clz
 refine qn (T:=fun i:Nat×Nat×Nat=>qI 19 [(0,.int .u64 (m:Int)),(3,.osl (h.length+1) i.2.1 1 0 (qY m.testBit i.1).length),(5,.int .i64 i.1)]) (H:=fun i=>h++ [.emp 1,zk i.2.1 3 (qp (qY m.testBit i.1)),.emp i.2.2,.emp 0])
  (inv:=fun i=>i.1≤64) (m:=fun i=>64-i.1) (0,1,0) (Nat.zero_le _) (Wk.temps ?_) ?_
 ·(simp only [qY,List.range_zero,List.filter_nil,List.length_nil,List.replicate,go_sem,qj,qh,qg,qi];try (repeat' first|(with_reducible refine And.intro ?_ ?_)|(apply qd;omega)|(apply qa;rfl)|exact VLe.refl _))
 rintro ⟨i,v,w⟩ i1 K hK
 simp only at i1 hK
 have hst:=jz m.testBit i
 have hln:=qS m.testBit i
 obtain ⟨L,hL⟩: ∃L,L=qY m.testBit i:=⟨_,rfl⟩
 rw [←hL]at hst hln
 have eL:=hL.symm
 have eC:=qw L
 by_cases hi:i<64
 ·have k1:((i:Int)<64)=True:=eq_true (by omega)
  have k2:(0≤(i:Int))=True:=eq_true (by omega)
  have e1:=qjh (a:=m) (n:=i) hm hi
  cases g:m.testBit i with
  |true=>
   rw [g,if_pos rfl]at e1
   rw [g,if_pos rfl]at hst
   have eT:List.take L.length (qp L)=qp L:=List.take_of_length_le (by omega)
   simp (disch:=omega) only [List.replicate,k1,k2,e1,eL,Nat.mul_one,go_sem]
   repeat' first
    |((first|apply qc|apply qb);exact rvk;simp only [go_sem];first|exact VLe.refl _|apply qd|apply qa|apply qe|skip)
    |with_reducible first|refine And.intro ?_ ?_|intro _
   all_goals try exact clz
   have eA:qp L++ [AV.int .i64 (i:Int)]=qp (L++ [(i:Int)]):=by rw [qQ];rfl
   rw [eT,eA]
   refine hK _ _ (i+1,v+1,w+1+1) hi (by simp only;omega) (Wk.trans Wk.kill2 ?_)
   simp only [hst]
   refine Wk.temps ?_
   (simp only [List.length_append,List.replicate,go_sem,qj,qh,qg,qi];try (repeat' first|(with_reducible refine And.intro ?_ ?_)|(apply qd;omega)|(apply qa;rfl)|exact VLe.refl _))
  |false=>
   rw [g,if_neg (by simp)]at e1
   rw [g,if_neg (by simp),List.append_nil]at hst
   simp (disch:=omega) only [List.replicate,k1,k2,e1,eL,go_sem]
   repeat' first
    |((first|apply qc|apply qb);exact rvk;simp only [go_sem];first|exact VLe.refl _|apply qd|apply qa|apply qe|skip)
    |with_reducible first|refine And.intro ?_ ?_|intro _
   all_goals try exact clz
   refine hK _ _ (i+1,v,w) hi (by simp only;omega) ?_
   simp only [hst]
   refine Wk.temps ?_
   (simp only [List.replicate,go_sem,qj,qh,qg,qi];try (repeat' first|(with_reducible refine And.intro ?_ ?_)|(apply qd;omega)|(apply qa;rfl)|exact VLe.refl _))
 ·have k1:((i:Int)<64)=False:=eq_false (by omega)
  obtain rfl:i=64:=by omega
  rw [←hL]
  by_cases g:L= []
  ·subst g
   have e0:zk v 3 (qp [])= .emp v:=rfl
   rw [e0]
   simp (disch:=omega) only [List.replicate,k1,eL,go_sem]
   repeat' first
    |((first|apply qc|apply qb);exact rvk;simp only [go_sem];first|exact VLe.refl _|apply qd|apply qa|apply qe|skip)
    |with_reducible first|refine And.intro ?_ ?_|intro _
   all_goals try exact clz
   exact jn
  ·have e0:zk v 3 (qp L)= .mem v 3 (qp L):=jA (fun e=>g (qb9.1 e))
   rw [e0]
   simp (disch:=omega) only [List.replicate,k1,eL,go_sem]
   repeat' first
    |((first|apply qc|apply qb);exact rvk;simp only [go_sem];first|exact VLe.refl _|apply qd|apply qa|apply qe|skip)
    |with_reducible first|refine And.intro ?_ ?_|intro _
   all_goals try exact clz
   rw [if_pos (by omega)]
   refine jd _ ?_ rfl
   intro n
   rfl
end RC
end
section
open Go Go.Proofs AF HY LN
namespace RC
theorem qha (L:List Int):(ql L).flag=true:=rfl
theorem qfz (L:List Int):(ql L).strip=ql L:=rfl
theorem qkh {fz:Nat→Bool} {h:List AObj} {n:Nat} (L:List Int):frz fz h (n+1) (ql L)=ql L:=rfl
theorem qlw {fz:Nat→Bool} {h:List AObj} {n:Nat} (L:List Int):rei fz h (n+1) (ql L)=ql L:=rfl
theorem qj8 (L:List Str):(strs L).flag=true:=rfl
theorem qh0 (L:List Str):(strs L).strip=strs L:=rfl
theorem qnR {fz:Nat→Bool} {h:List AObj} {n:Nat} (L:List Str):frz fz h (n+1) (strs L)=strs L:=rfl
theorem qoH {fz:Nat→Bool} {h:List AObj} {n:Nat} (L:List Str):rei fz h (n+1) (strs L)=strs L:=rfl
theorem qj6 (L:List Gr):(qu L).flag=true:=rfl
theorem qhY (L:List Gr):(qu L).strip=qu L:=rfl
theorem qnQ {fz:Nat→Bool} {h:List AObj} {n:Nat} (L:List Gr):frz fz h (n+1) (qu L)=qu L:=rfl
theorem qoG {fz:Nat→Bool} {h:List AObj} {n:Nat} (L:List Gr):rei fz h (n+1) (qu L)=qu L:=rfl
attribute [go_sem] qha qfz qkh qlw qj8 qh0 qnR qoH qj6 qhY qnQ qoG
theorem qAy (x:Gr) (y:Str) (h:List AObj):qm Tryz.prog 104 [.agg (grC x),.ip [.str y]] h (.bool (decide (y=x.name))) h:=by
 have k:decide (x.name=y)=decide (y=x.name):=decide_eq_decide.2 ⟨Eq.symm,Eq.symm⟩
 refine acO quF ?_
 simp (disch:=omega) only [qtC,List.replicate,grC,go_sem]
 repeat' first
  |((first|apply qc|apply qb);exact rvk;simp only [go_sem];first|exact VLe.refl _|apply qd|apply qa|apply qe|skip)
  |with_reducible first|refine And.intro ?_ ?_|intro _
 all_goals try exact clz
theorem qAK (n:Nat) (gs:List Gr) (y:Str) (k v:Nat) (h:List AObj) (hk:qA k h=some (.mem v 9 [.str y])) (hn:n≤gs.length) (hl:gs.length≤1000000000):
  qm Tryz.prog 103 [.sl n (fun j=>grC (gs.getD j default)),.fn (.func 104) [] [.op k v 0]] h (.int .i64 (qbB (fun j=>decide (y=(gs.getD j default).name)) n 0)) h:=by
 have hc:=zJ hk
 refine qe9 qpM n (fun j=>grC (gs.getD j default)) (fun j=> .agg (grC (gs.getD j default))) _ [] [.op k v 0] _ h (fun i _=>⟨rfl,by simp [jv,grC],rfl,rfl,rfl⟩) (fun i _=> ?_) (by omega)
 refine qm.borrow ?_ rfl
 have e:([AV.agg (grC (gs.getD i default))]++ [AV.op k v 0]).map (rei (fun _=>true) h 8)= [.agg (grC (gs.getD i default)),.ip [.str y]]:=by
  simp only [List.cons_append,List.nil_append,List.map_cons,List.map_nil,rei_op,if_true,hc,ipOf_some,List.drop_zero,rei_agg]
  rfl
 rw [List.nil_append,e]
 exact qAy _ y _
def nIx (names:List Str) (s:Str):Int:=qbB (fun j=>decide (s=names.getD j [])) names.length 0
def gIx (gs:List Gr) (s:Str):Int:=qbB (fun j=>decide (s=(gs.getD j default).name)) gs.length 0
def qao (names:List Str) (gs:List Gr) (sg:List Str) (i:Nat):Int:=
 if nIx names (sg.getD i [])<0∧gIx gs (sg.getD i [])<0 then 6 else if zS (fun j=>decide (sg.getD i []=sg.getD j [])) i=true then 7 else 0
def els (names:List Str) (gs:List Gr) (s:Str):List Int:=if 0≤nIx names s then [nIx names s] else (gs.getD (gIx gs s).toNat default).mem
def qdG (names:List Str) (gs:List Gr) (sg:List Str):Nat→Nat
 |0=>0
 |i+1=>qdG names gs sg i|||jf (els names gs (sg.getD i []))
def ji (names:List Str) (gs:List Gr) (sg:List Str):Int:=if sgE names gs≠0 then 1 else qab (qao names gs sg) 0 sg.length
def zg (names:List Str) (gs:List Gr) (sg:List Str):List Int:=if ji names gs sg=0 then qY (qdG names gs sg sg.length).testBit 64 else []
theorem kK {b:Int} {l:List Int} (h:qae b l=0):inB b l∧ ∀i,0<i→i<l.length→l.getD (i-1) 0<l.getD i 0:=by
 unfold qae at h
 rw [kg]at h
 refine ⟨fun i hi=> ?_,fun i h0 hi=> ?_⟩
 ·have:=h i hi
  unfold qbE at this
  split at this
  ·cases this
  ·rename_i hc;omega
 ·have:=h i hi
  unfold qbE at this
  split at this
  ·cases this
  ·split at this
   ·cases this
   ·rename_i hc;omega
structure qip (names:List Str) (gs:List Gr):Prop where
 n32:names.length≤32
 g16:gs.length≤16
 na: ∀i,i<names.length→kp names i=0
 gr: ∀i,i<gs.length→qb7 names gs i=0
theorem qbx {names:List Str} {gs:List Gr} (h:sgE names gs=0):qip names gs:=by
 unfold sgE at h
 split at h
 ·cases h
 split at h
 ·rename_i h1;exact absurd h h1
 split at h
 ·cases h
 rename_i h1 h2 h3
 exact ⟨by omega,by omega,kg.1 (by simpa using h2),kg.1 h⟩
theorem qe8 {names:List Str} {gs:List Gr} (h:qip names gs) {i:Nat} (hi:i<gs.length):qae names.length (gs.getD i default).mem=0:=by
 have:=h.gr i hi
 unfold qb7 at this
 repeat' split at this
 all_goals first|(cases this;done)|exact this
theorem kI (names:List Str) (s:Str):(∃k:Nat,k<names.length∧names.getD k []=s∧nIx names s=k)∨((∀j,j<names.length→s≠names.getD j [])∧nIx names s= -1):=by
 rcases jU (fun j=>decide (s=names.getD j [])) names.length with ⟨i,h1,h2,_,h4⟩|⟨h1,h2⟩
 ·exact .inl ⟨i,h1,(of_decide_eq_true h2).symm,h4⟩
 ·exact .inr ⟨fun j hj=>of_decide_eq_false (h1 j hj),h2⟩
theorem qaC (gs:List Gr) (s:Str):(∃k:Nat,k<gs.length∧(gs.getD k default).name=s∧gIx gs s=k)∨((∀j,j<gs.length→s≠(gs.getD j default).name)∧gIx gs s= -1):=by
 rcases jU (fun j=>decide (s=(gs.getD j default).name)) gs.length with ⟨i,h1,h2,_,h4⟩|⟨h1,h2⟩
 ·exact .inl ⟨i,h1,(of_decide_eq_true h2).symm,h4⟩
 ·exact .inr ⟨fun j hj=>of_decide_eq_false (h1 j hj),h2⟩
theorem qe2 {names:List Str} {gs:List Gr} {s:Str} (h:qip names gs) (hf: ¬(nIx names s<0∧gIx gs s<0)):inB names.length (els names gs s):=by
 unfold els
 rcases kI names s with ⟨k,h1,_,h3⟩|⟨_,h3⟩
 ·rw [h3,if_pos (by omega)]
  intro i hi
  have:i=0:=by simpa using hi
  subst this
  simp only [List.getD_cons_zero]
  omega
 ·rw [h3,if_neg (by omega)]
  rcases qaC gs s with ⟨k,g1,_,g3⟩|⟨_,g3⟩
  ·rw [g3,Int.toNat_natCast]
   exact (kK (qe8 h g1)).1
  ·exact absurd ⟨by omega,by omega⟩ hf
theorem qdc {b c:Int} {l:List Int} (h:inB b l) (hbc:b≤c):inB c l:=fun i hi=>⟨(h i hi).1,by have:=(h i hi).2;omega⟩
theorem qcX {names:List Str} {gs:List Gr} {sg:List Str} (h:qip names gs): ∀ {i:Nat},(∀j,j<i→qao names gs sg j=0)→qdG names gs sg i<2^64∧ ∀k,(qdG names gs sg i).testBit k=decide (∃j,j<i∧(k:Int)∈els names gs (sg.getD j [])):=by
 intro i
 induction i with
 |zero=>intro _;exact ⟨Nat.two_pow_pos 64,fun k=>by simp [qdG]⟩
 |succ i ih=>
  intro hz
  obtain ⟨h1,h2⟩:=ih (fun j hj=>hz j (by omega))
  have h3: ¬(nIx names (sg.getD i [])<0∧gIx gs (sg.getD i [])<0):=by
   intro hc
   have:=hz i (by omega)
   unfold qao at this
   rw [if_pos hc]at this
   cases this
  have h4:inB 64 (els names gs (sg.getD i [])):=qdc (qe2 h h3) (by have:=h.n32;omega)
  refine ⟨Nat.or_lt_two_pow h1 (qbo h4),fun k=> ?_⟩
  unfold qdG
  rw [Nat.testBit_or,h2 k,jk h4 k,←Bool.decide_or]
  refine decide_eq_decide.2 ⟨?_,?_⟩
  ·rintro (⟨j,hj,hm⟩|hm)
   ·exact ⟨j,by omega,hm⟩
   ·exact ⟨i,by omega,hm⟩
  ·rintro ⟨j,hj,hm⟩
   by_cases e:j=i
   ·subst e;exact .inr hm
   ·exact .inl ⟨j,by omega,hm⟩
theorem _root_.AF.Wk.kill1 {t:List AV} {h l:List AObj} {a:AObj} {v:Nat} {ty:TypeId} {cs:List AV}:Wk t (h++a:: .mem v ty cs::l) t (h++a:: .emp (v+1)::l):=by
 have:=Wk.kill0 (t:=t) (h:=h++ [a]) (l:=l) (v:=v) (ty:=ty) (cs:=cs)
 simpa using this
theorem zd {e:Int}:VLe (.tup [.nl,.int .i64 e]) (.tup [ql [],.int .i64 e]):=qT ⟨jn,VLe.refl _,trivial⟩
set_option maxHeartbeats 4000000 in
theorem qx0 (names:List Str) (gs:List Gr) (sg:List Str) (h:List AObj) (hz:Szs names gs) (hs:sg.length≤1000000000):
  qm Tryz.prog 62 [strs names,qu gs,strs sg] h (.tup [ql (zg names gs sg),.int .i64 (ji names gs sg)]) h:=by
 have c59:=fun h=>sgP names gs h hz
 obtain ⟨z1,z2,z3,z4,z5⟩:=hz
 obtain ⟨R,hR⟩: ∃R,R=ji names gs sg:=⟨_,rfl⟩
 obtain ⟨Q,hQ⟩: ∃Q,Q=zg names gs sg:=⟨_,rfl⟩
 rw [←hR,←hQ]
 unfold zg at hQ
 rw [←hR]at hQ
 unfold ji at hR
 obtain ⟨e,he⟩: ∃e,e=sgE names gs:=⟨_,rfl⟩
 rw [←he]at c59 hR
 by_cases g0: ¬e=0
 ·have k0:(e=0)=False:=eq_false g0
  rw [if_pos g0]at hR
  rw [if_neg (by omega)]at hQ
  rw [hR,hQ]
  refine acO qvu ?_
  simp (disch:=omega) only [qxG,List.replicate,strs,qu,k0,go_sem]
  unfold strs qu at c59
  repeat' first
   |((first|refine cA (c59 _) ?_ ?_|refine cG (fun e=>c59 _) ?_ ?_|refine cU (fun _=>c59 _) ?_ ?_);(next=>exact flk);simp (disch:=omega) only [strs,qu,k0,go_sem])
   |((first|apply qc|apply qb);exact rvk;simp only [go_sem];first|exact VLe.refl _|apply qd|apply qa|apply qe|skip)
   |with_reducible first|refine And.intro ?_ ?_|intro _
  all_goals try exact clz
  exact zd
 have g0:e=0:=Classical.not_not.1 g0
 have k0:(e=0)=True:=eq_true g0
 rw [if_neg (fun hc=>hc g0)]at hR
 have hok:=qbx (he.symm.trans g0)
 have h32:=hok.n32
 unfold strs qu at c59
 refine acO qvu ?_
 simp (disch:=omega) only [qxG,List.replicate,strs,qu,go_sem]
 repeat' first
  |((first|refine cA (c59 _) ?_ ?_|refine cG (fun e=>c59 _) ?_ ?_|refine cU (fun _=>c59 _) ?_ ?_);(next=>exact flk);simp (disch:=omega) only [strs,qu,k0,go_sem])
  |((first|apply qc|apply qb);exact rvk;simp only [go_sem];first|exact VLe.refl _|apply qd|apply qa|apply qe|skip)
  |with_reducible first|refine And.intro ?_ ?_|intro _
 all_goals try exact clz
 refine qn (T:=fun i:Nat×Nat=>qI 61 [(0,strs names),(1,qu gs),(2,strs sg),(8,.int .u64 (qdG names gs sg i.1:Int)),(17,strs sg),(18,.int .i64 sg.length),(19,.int .i64 i.1)]) (H:=fun i=>h++ [.emp 1,.emp i.2])
  (inv:=fun i=>i.1≤sg.length∧ ∀j,j<i.1→qao names gs sg j=0) (m:=fun i=>sg.length-i.1) (0,0) ⟨Nat.zero_le _,fun j hj=>absurd hj (Nat.not_lt_zero j)⟩ (Wk.temps ?_) ?_
 ·(simp only [strs,qu,qdG,List.replicate,go_sem,qj,qh,qg,qi];try (repeat' first|(with_reducible refine And.intro ?_ ?_)|(apply qd;omega)|(apply qa;rfl)|exact VLe.refl _))
 rintro ⟨i,v⟩ ⟨i1,i2⟩ K hK
 simp only at i1 i2 hK
 obtain ⟨m1,m2⟩:=qcX hok i2
 have hst:qdG names gs sg (i+1)=qdG names gs sg i|||jf (els names gs (sg.getD i [])):=rfl
 obtain ⟨a,ha⟩: ∃a,a=qdG names gs sg i:=⟨_,rfl⟩
 have ea:=ha.symm
 rw [ea]at m1 hst
 by_cases hi:i<sg.length
 ·have k1:((i:Int)<sg.length)=True:=eq_true (by omega)
  have k2:((i:Int)≤sg.length)=True:=eq_true (by omega)
  have hE:=qP (f:=qao names gs sg) hi i2
  have hs:qao names gs sg i=if nIx names (sg.getD i [])<0∧gIx gs (sg.getD i [])<0 then 6 else if zS (fun j=>decide (sg.getD i []=sg.getD j [])) i=true then 7 else 0:=rfl
  obtain ⟨s,hsx⟩: ∃s,s=sg.getD i []:=⟨_,rfl⟩
  have es:=hsx.symm
  simp only [es]at hs hst
  have c102:=fun h=>qvU names.length (fun j=>names.getD j []) s h z1
  have c103:=qAK gs.length gs s (h.length+1) (v+1) (h++ [.emp 1,.mem (v+1) 9 [.str s]]) (by rw [getO_app];rfl) (Nat.le_refl _) z2
  have c88:=fun h=>qqS i (fun j=>sg.getD j []) s h (by omega)
  have hn:=kI names s
  have hg:=qaC gs s
  obtain ⟨n,hnx⟩: ∃n,n=nIx names s:=⟨_,rfl⟩
  obtain ⟨g,hgx⟩: ∃g,g=gIx gs s:=⟨_,rfl⟩
  have hnx':qbB (fun j=>decide (s=names.getD j [])) names.length 0=n:=hnx.symm
  have hgx':qbB (fun j=>decide (s=(gs.getD j default).name)) gs.length 0=g:=hgx.symm
  rw [hnx']at c102
  rw [hgx']at c103
  rw [←hnx]at hn hs
  rw [←hgx]at hg hs
  by_cases g1:n<0∧g<0
  ·have q1:(n<0)=True:=eq_true g1.1
   have q2:(g<0)=True:=eq_true g1.2
   rw [if_pos g1]at hs
   have hV:R=6:=by rw [hR,hE (by rw [hs];decide),hs]
   rw [hV,if_neg (by decide)]at hQ
   rw [hV,hQ]
   simp (disch:=omega) only [List.replicate,strs,qu,k1,k2,es,ea,go_sem]
   repeat' first
    |((first|refine cA (c102 _) ?_ ?_|refine cG (fun e=>c102 _) ?_ ?_|refine cA (c103) ?_ ?_|refine cG (fun e=>c103) ?_ ?_|refine cU (fun _=>c102 _) ?_ ?_);(next=>exact flk);simp (disch:=omega) only [strs,qu,k1,k2,es,q1,q2,go_sem])
    |((first|apply qc|apply qb);exact rvk;simp only [go_sem];first|exact VLe.refl _|apply qd|apply qa|apply qe|skip)
    |with_reducible first|refine And.intro ?_ ?_|intro _
   all_goals try exact clz
   exact zd
  rw [if_neg g1]at hs
  cases g2:zS (fun j=>decide (s=sg.getD j [])) i with
  |true=>
   rw [g2]at c88
   rw [if_pos g2]at hs
   have hV:R=7:=by rw [hR,hE (by rw [hs];decide),hs]
   rw [hV,if_neg (by decide)]at hQ
   rw [hV,hQ]
   by_cases g3:n<0
   ·have q1:(n<0)=True:=eq_true g3
    have q2:(g<0)=False:=eq_false (fun hc=>g1 ⟨g3,hc⟩)
    simp (disch:=omega) only [List.replicate,strs,qu,k1,k2,es,ea,Nat.sub_zero,go_sem]
    repeat' first
     |((first|refine cA (c102 _) ?_ ?_|refine cG (fun e=>c102 _) ?_ ?_|refine cA (c103) ?_ ?_|refine cG (fun e=>c103) ?_ ?_|refine cA (c88 _) ?_ ?_|refine cG (fun e=>c88 _) ?_ ?_|refine cU (fun _=>c102 _) ?_ ?_|refine cU (fun _=>c88 _) ?_ ?_);(next=>exact flk);simp (disch:=omega) only [strs,qu,k1,k2,es,q1,q2,Nat.sub_zero,go_sem])
     |((first|apply qc|apply qb);exact rvk;simp only [go_sem];first|exact VLe.refl _|apply qd|apply qa|apply qe|skip)
     |with_reducible first|refine And.intro ?_ ?_|intro _
    all_goals try exact clz
    exact zd
   ·have q1:(n<0)=False:=eq_false g3
    simp (disch:=omega) only [List.replicate,strs,qu,k1,k2,es,ea,Nat.sub_zero,go_sem]
    repeat' first
     |((first|refine cA (c102 _) ?_ ?_|refine cG (fun e=>c102 _) ?_ ?_|refine cA (c103) ?_ ?_|refine cG (fun e=>c103) ?_ ?_|refine cA (c88 _) ?_ ?_|refine cG (fun e=>c88 _) ?_ ?_|refine cU (fun _=>c102 _) ?_ ?_|refine cU (fun _=>c88 _) ?_ ?_);(next=>exact flk);simp (disch:=omega) only [strs,qu,k1,k2,es,q1,Nat.sub_zero,go_sem])
     |((first|apply qc|apply qb);exact rvk;simp only [go_sem];first|exact VLe.refl _|apply qd|apply qa|apply qe|skip)
     |with_reducible first|refine And.intro ?_ ?_|intro _
    all_goals try exact clz
    exact zd
  |false=>
  rw [g2]at c88
  rw [if_neg (by rw [g2];simp)]at hs
  by_cases g3:n<0
  ·have q1:(n<0)=True:=eq_true g3
   have q2:(g<0)=False:=eq_false (fun hc=>g1 ⟨g3,hc⟩)
   have q3:(0≤n)=False:=eq_false (by omega)
   have eE:els names gs s=(gs.getD g.toNat default).mem:=by unfold els;rw [←hnx,←hgx,if_neg (by omega)]
   rcases hg with ⟨k,p1,p2,rfl⟩|⟨_,p2⟩
   ·rw [Int.toNat_natCast]at eE
    have hB:=(kK (qe8 hok p1)).1
    have hB64:inB 64 (gs.getD k default).mem:=qdc hB (by omega)
    have z5k:=z5 k
    obtain ⟨w,hw⟩: ∃w,w=gs.getD k default:=⟨_,rfl⟩
    have ew:=hw.symm
    rw [ew]at hB64 z5k eE
    rw [eE]at hst
    have c96:=fun h=>qxf w.mem h z5k hB64
    have q4:((k:Int)<gs.length)=True:=eq_true (by omega)
    have q5:(0≤(k:Int))=True:=eq_true (by omega)
    have e2:=qgl m1 (qbo hB64)
    unfold ql at c96
    simp (disch:=omega) only [List.replicate,strs,qu,grC,ql,k1,k2,es,ea,Nat.sub_zero,go_sem]
    repeat' first
     |((first|refine cA (c102 _) ?_ ?_|refine cG (fun e=>c102 _) ?_ ?_|refine cA (c103) ?_ ?_|refine cG (fun e=>c103) ?_ ?_|refine cA (c88 _) ?_ ?_|refine cG (fun e=>c88 _) ?_ ?_|refine cA (c96 _) ?_ ?_|refine cG (fun e=>c96 _) ?_ ?_|refine cU (fun _=>c102 _) ?_ ?_|refine cU (fun _=>c88 _) ?_ ?_|refine cU (fun _=>c96 _) ?_ ?_);(next=>exact flk);simp (disch:=omega) only [strs,qu,grC,ql,k1,k2,es,ew,q1,q2,q3,q4,q5,e2,Nat.sub_zero,go_sem])
     |((first|apply qc|apply qb);exact rvk;simp only [go_sem];first|exact VLe.refl _|apply qd|apply qa|apply qe|skip)
     |with_reducible first|refine And.intro ?_ ?_|intro _
    all_goals try exact clz
    refine hK _ _ (i+1,v+1+1) ⟨hi,fun j hj=> ?_⟩ (by simp only;omega) (Wk.trans Wk.kill1 ?_)
    ·by_cases e':j=i
     ·subst e';exact hs
     ·exact i2 j (by simp only at hj;omega)
    ·simp only [hst]
     refine Wk.temps ?_
     (simp only [strs,qu,List.replicate,go_sem,qj,qh,qg,qi];try (repeat' first|(with_reducible refine And.intro ?_ ?_)|(apply qd;omega)|(apply qa;rfl)|exact VLe.refl _))
   ·exact absurd ⟨g3,by omega⟩ g1
  ·have q1:(n<0)=False:=eq_false g3
   have q3:(0≤n)=True:=eq_true (by omega)
   rcases hn with ⟨k,p1,p2,rfl⟩|⟨_,p2⟩
   ·have eE:els names gs s= [(k:Int)]:=by unfold els;rw [←hnx,if_pos (by omega)]
    have eM:jf [(k:Int)]=2^k:=by show 0|||2^(k:Int).toNat=2^k;simp
    rw [eE,eM]at hst
    have e1:=qfn (n:=k) (by omega)
    have e2:=qgl m1 (show 2^k<2^64 from Nat.pow_lt_pow_right (by omega) (by omega))
    simp (disch:=omega) only [List.replicate,strs,qu,k1,k2,es,ea,Nat.sub_zero,go_sem]
    repeat' first
     |((first|refine cA (c102 _) ?_ ?_|refine cG (fun e=>c102 _) ?_ ?_|refine cA (c103) ?_ ?_|refine cG (fun e=>c103) ?_ ?_|refine cA (c88 _) ?_ ?_|refine cG (fun e=>c88 _) ?_ ?_|refine cU (fun _=>c102 _) ?_ ?_|refine cU (fun _=>c88 _) ?_ ?_);(next=>exact flk);simp (disch:=omega) only [strs,qu,k1,k2,es,q1,q3,e1,e2,Nat.sub_zero,go_sem])
     |((first|apply qc|apply qb);exact rvk;simp only [go_sem];first|exact VLe.refl _|apply qd|apply qa|apply qe|skip)
     |with_reducible first|refine And.intro ?_ ?_|intro _
    all_goals try exact clz
    refine hK _ _ (i+1,v+1+1) ⟨hi,fun j hj=> ?_⟩ (by simp only;omega) (Wk.trans Wk.kill1 ?_)
    ·by_cases e':j=i
     ·subst e';exact hs
     ·exact i2 j (by simp only at hj;omega)
    ·simp only [hst]
     refine Wk.temps ?_
     (simp only [strs,qu,List.replicate,go_sem,qj,qh,qg,qi];try (repeat' first|(with_reducible refine And.intro ?_ ?_)|(apply qd;omega)|(apply qa;rfl)|exact VLe.refl _))
   ·exact absurd g3 (by omega)
 ·have k1:((i:Int)<sg.length)=False:=eq_false (by omega)
  have e':i=sg.length:=by omega
  subst e'
  have hV:R=0:=by rw [hR,qC (fun j hj=>i2 j hj)]
  rw [hV,if_pos rfl,ea]at hQ
  have c100:=fun h=>qyJ a h m1
  rw [hV,hQ]
  simp (disch:=omega) only [List.replicate,strs,qu,k1,ea,go_sem]
  repeat' first
   |((first|refine cA (c100 _) ?_ ?_|refine cG (fun e=>c100 _) ?_ ?_|refine cU (fun _=>c100 _) ?_ ?_);(next=>exact flk);simp (disch:=omega) only [strs,qu,k1,go_sem])
   |((first|apply qc|apply qb);exact rvk;simp only [go_sem];first|exact VLe.refl _|apply qd|apply qa|apply qe|skip)
   |with_reducible first|refine And.intro ?_ ?_|intro _
  all_goals try exact clz
end RC
end
section
namespace Go.Proofs
open Go.Shelf
def Tryz.laysS189_ren:Go.Shelf.Ren:=⟨fun|189=>63|125=>106|257=>105|128=>139|129=>140|294=>131|295=>132|296=>133|297=>134|298=>135|299=>136|216=>52|300=>137|301=>138|328=>155|329=>156|330=>157|331=>158|332=>159|215=>86|343=>166|n=>n,fun|28=>37|3=>3|46=>135|0=>0|51=>165|53=>122|4=>4|183=>158|182=>157|131=>162|5=>5|9=>9|218=>174|222=>178|228=>188|229=>189|n=>n,fun|n=>n⟩
theorem Tryz.laysS189:Go.Proofs.Lays.n189 Tryz.prog Tryz.laysS189_ren:= {
 mixed:=by kernel_rfl
 f125:=Tryz.func106.trans (congrArg some (by kernel_rfl))
 f128:=Tryz.func139.trans (congrArg some (by kernel_rfl))
 f129:=Tryz.func140.trans (congrArg some (by kernel_rfl))
 f189:=Tryz.func63.trans (congrArg some (by kernel_rfl))
 f215:=Tryz.func86.trans (congrArg some (by kernel_rfl))
 f216:=Tryz.func52.trans (congrArg some (by kernel_rfl))
 f257:=Tryz.func105.trans (congrArg some (by kernel_rfl))
 f294:=Tryz.func131.trans (congrArg some (by kernel_rfl))
 f295:=Tryz.func132.trans (congrArg some (by kernel_rfl))
 f296:=Tryz.func133.trans (congrArg some (by kernel_rfl))
 f297:=Tryz.func134.trans (congrArg some (by kernel_rfl))
 f298:=Tryz.func135.trans (congrArg some (by kernel_rfl))
 f299:=Tryz.func136.trans (congrArg some (by kernel_rfl))
 f300:=Tryz.func137.trans (congrArg some (by kernel_rfl))
 f301:=Tryz.func138.trans (congrArg some (by kernel_rfl))
 f328:=Tryz.func155.trans (congrArg some (by kernel_rfl))
 f329:=Tryz.func156.trans (congrArg some (by kernel_rfl))
 f330:=Tryz.func157.trans (congrArg some (by kernel_rfl))
 f331:=Tryz.func158.trans (congrArg some (by kernel_rfl))
 f332:=Tryz.func159.trans (congrArg some (by kernel_rfl))
 f343:=Tryz.func166.trans (congrArg some (by kernel_rfl))
 t0:=Tryz.underlying0
 a0:=Tryz.isAgg0
 z0:=Tryz.sizeOf0
 v0:=Tryz.zeroValue0
 t3:=Tryz.underlying3
 a3:=Tryz.isAgg3
 z3:=Tryz.sizeOf3
 v3:=Tryz.zeroValue3
 t4:=Tryz.underlying4
 a4:=Tryz.isAgg4
 z4:=Tryz.sizeOf4
 v4:=Tryz.zeroValue4
 t5:=Tryz.underlying5
 a5:=Tryz.isAgg5
 z5:=Tryz.sizeOf5
 v5:=Tryz.zeroValue5
 t9:=Tryz.underlying9
 a9:=Tryz.isAgg9
 z9:=Tryz.sizeOf9
 v9:=Tryz.zeroValue9
 t28:=Tryz.underlying37
 a28:=Tryz.isAgg37
 z28:=Tryz.sizeOf37
 v28:=Tryz.zeroValue37
 t46:=Tryz.underlying135
 a46:=Tryz.isAgg135
 z46:=Tryz.sizeOf135
 v46:=Tryz.zeroValue135
 t51:=Tryz.underlying165
 a51:=Tryz.isAgg165
 z51:=Tryz.sizeOf165
 v51:=Tryz.zeroValue165
 t53:=Tryz.underlying122
 a53:=Tryz.isAgg122
 z53:=Tryz.sizeOf122
 v53:=Tryz.zeroValue122
 t131:=Tryz.underlying162
 a131:=Tryz.isAgg162
 z131:=Tryz.sizeOf162
 v131:=Tryz.zeroValue162
 t182:=Tryz.underlying157
 a182:=Tryz.isAgg157
 z182:=Tryz.sizeOf157
 v182:=Tryz.zeroValue157
 t183:=Tryz.underlying158
 a183:=Tryz.isAgg158
 z183:=Tryz.sizeOf158
 v183:=Tryz.zeroValue158
 t218:=Tryz.underlying174
 a218:=Tryz.isAgg174
 z218:=Tryz.sizeOf174
 v218:=Tryz.zeroValue174
 t222:=Tryz.underlying178
 a222:=Tryz.isAgg178
 z222:=Tryz.sizeOf178
 v222:=Tryz.zeroValue178
 t228:=Tryz.underlying188
 a228:=Tryz.isAgg188
 z228:=Tryz.sizeOf188
 v228:=Tryz.zeroValue188
 t229:=Tryz.underlying189
 a229:=Tryz.isAgg189
 z229:=Tryz.sizeOf189
 v229:=Tryz.zeroValue189 }
def Tryz.laysC20_ren:Go.Shelf.Ren:=⟨fun|20=>64|n=>n,fun|22=>37|3=>3|4=>4|0=>0|n=>n,fun|n=>n⟩
theorem Tryz.laysC20:Go.Proofs.Lays2.n20 Tryz.prog Tryz.laysC20_ren:= {
 mixed:=by kernel_rfl
 f20:=Tryz.func64.trans (congrArg some (by kernel_rfl))
 t0:=Tryz.underlying0
 a0:=Tryz.isAgg0
 z0:=Tryz.sizeOf0
 v0:=Tryz.zeroValue0
 t3:=Tryz.underlying3
 a3:=Tryz.isAgg3
 z3:=Tryz.sizeOf3
 v3:=Tryz.zeroValue3
 t4:=Tryz.underlying4
 a4:=Tryz.isAgg4
 z4:=Tryz.sizeOf4
 v4:=Tryz.zeroValue4
 t22:=Tryz.underlying37
 a22:=Tryz.isAgg37
 z22:=Tryz.sizeOf37
 v22:=Tryz.zeroValue37
 i3:=by kernel_rfl }
end Go.Proofs
end
section
open Go Go.Proofs Go.Sort AF HY LN
namespace RC
set_option maxHeartbeats 16000000
theorem qqd {w:World} {σ:List OB} {h:List AObj} {k v ty:Nat} {L:List Int} {x:Value} (H:HR w σ h) (hk:qA k h=some (.mem v ty (qp L))) (hty:ty<qad) (hx:VR w σ (.osl k v 1 0 L.length) x):
  ∃(b cap:Nat),x= .slice (some ⟨b,0,none⟩) L.length cap∧L.length≤cap∧b<w.heap.size∧Holds (Value.int .i64) w b 0 L.toArray∧
   ∀(M:List Int) (q:Nat) (os:Array Obj),M.length=L.length→HR (grow (putRow (Value.int .i64) (Sort.ahead w q) b 0 M.toArray) os) σ (qE k h (.mem v ty (qp M)))∧Ext w σ (grow (putRow (Value.int .i64) (Sort.ahead w q) b 0 M.toArray) os) σ∧
    ∀m,m≤L.length→VR (grow (putRow (Value.int .i64) (Sort.ahead w q) b 0 M.toArray) os) σ (.osl k v 1 0 m) (.slice (some ⟨b,0,none⟩) m cap):=by
 obtain ⟨o,b,arr,o1,o2,o3,o4,o5,o6,o7,o8,o9⟩:=ja H (zJ hk)
 have ety:o.ty=ty:=by
  have:=o3
  unfold qA at hk
  rw [hk]at this
  cases this;rfl
 obtain ⟨o',p1,p2,p3⟩:=qqk hx
 rw [o1]at p1
 cases p1
 rcases p3 o2 with ⟨p4,_⟩|⟨b',cap,p4,p5,p6,p7,p8⟩
 ·rw [o4]at p4;cases p4
 rw [o4]at p4
 cases p4
 have hB:=o5.plain (by rw [ety];exact hty)
 have hlen:L.length≤arr.size:=by rw [←qw];exact o7
 have htk:arr.toList.take L.length=L.map (Value.int .i64):=by
  refine List.ext_getElem? fun i=> ?_
  by_cases hi:i<L.length
  ·rw [List.getElem?_take_of_lt hi,Array.getElem?_toList,List.getElem?_map,qR hi]
   have h2:arr[i]? =some arr[i]:=Array.getElem?_eq_getElem (by omega)
   have h1:(qp L)[i]? =some (.int .i64 L[i]):=by simp [qp,qR hi]
   have:=za (o9 i _ _ h1 h2)
   rw [h2,this]
   rfl
  ·rw [List.getElem?_take_eq_none (by omega),List.getElem?_eq_none (by simp;omega)]
 refine ⟨b,cap,p5,p6,o5.lt,holds_of_blockI hB htk,fun M q os hM=> ?_⟩
 have hh:=heap_sortedI (n:=q) (os:=os) M.toArray hB
 have hext:=HR.update (w':=grow (putRow (Value.int .i64) (Sort.ahead w q) b 0 M.toArray) os) (a':= .mem v ty (qp M)) (o':=o) H o1 (by rw [o4];exact grownBy_sortedI _) (Nat.le_refl _) (fun _=>rfl)
  (fun b' hb'=>⟨.inl hb',by rw [o4]at hb';cases hb';exact (Array.getElem?_eq_some_iff.1 hh).1⟩) (fun b' r hb' hr=>by rw [o4]at hb';cases hb';exact absurd hr (o5.noloop r)) (fun e=>by
   have hset:σ.set k o=σ:=by
    refine List.ext_getElem? fun i=> ?_
    rw [List.getElem?_set]
    split
    ·rename_i e;subst e;rw [o1];simp [(List.getElem?_eq_some_iff.1 o1).1]
    ·rfl
   rw [hset]
   refine ⟨o2,ety,b,_,o4,by rw [ety];rw [ety]at hh;exact Blk.mk hh,by simpa [putCells] using o6,by rw [qw,hM];simpa [putCells] using hlen,fun i x hi hx=> ?_,fun i c x hc hx=> ?_⟩
   ·rw [qw]at hi
    have h1:((putCells (Value.int .i64) 0 M.toArray arr).toList.take M.length)[i]? =some x:=by rw [List.getElem?_take_of_lt hi,Array.getElem?_toList];exact hx
    rw [take_putCellsI arr M (by omega),List.getElem?_map,qR hi]at h1
    cases h1
    rfl
   ·have hi:i<M.length:=by rw [←qw];exact (List.getElem?_eq_some_iff.1 hc).1
    have h1:((putCells (Value.int .i64) 0 M.toArray arr).toList.take M.length)[i]? =some x:=by rw [List.getElem?_take_of_lt hi,Array.getElem?_toList];exact hx
    rw [take_putCellsI arr M (by omega),List.getElem?_map,qR hi]at h1
    cases h1
    simp [qp,qR hi]at hc
    subst hc
    exact .imm .int)
 have hset:σ.set k o=σ:=by
  refine List.ext_getElem? fun i=> ?_
  rw [List.getElem?_set]
  split
  ·rename_i e;subst e;rw [o1];simp [(List.getElem?_eq_some_iff.1 o1).1]
  ·rfl
 rw [hset]at hext
 exact ⟨hext.1,hext.2,fun m hm=> .osl o o1 ⟨_,_,_,rfl⟩ (Nat.le_of_eq o2.symm) fun _=> .inr ⟨b,cap,o4,rfl,by omega,p7,p8⟩⟩
def qlV (L:List Int):List Int:=L.mergeSort fun x y=>decide (x≤y)
theorem qdt (L:List Int):(qlV L).length=L.length:=by simp [qlV]
theorem qAZ (L:List Int) (k v n:Nat) (h:List AObj) (hn:n=L.length) (hk:qA k h=some (.mem v 3 (qp L))) (hl:L.length≤1000000000):
  qm Tryz.prog 63 [.osl k v 1 0 n] h (.tup []) (qE k h (.mem v 3 (qp (qlV L)))):=by
 subst hn
 refine ⟨qtn Tryz.func63 (by kernel_rfl) (by kernel_rfl),fun w σ xs H hv=> ?_⟩
 obtain ⟨x,rfl,hx⟩:=hv.one
 obtain ⟨b,cap,rfl,hcap,hb,hH,hU⟩:=qqd H hk (by decide) hx
 refine (callsIn_wide.2 (calls_of_every_depth fun D=>AnyS.slices_Sort_int_alone Tryz.laysS189 D b 0 cap L w hH hb (by omega))).mono ?_
 rintro e w' ⟨rfl,q,os,rfl⟩
 obtain ⟨g1,g2,_⟩:=hU (qlV L) q os (qdt L)
 exact ⟨_,σ,rfl,g1,.imm (.tup rfl (fun i c y hc hy=>by simp at hc)),g2⟩
def qmI (L:List Int):List Int:=Lib.compact L
theorem qqO (L:List Int):(qmI L).length≤L.length:=by
 unfold qmI Lib.compact Lib.compactUpTo
 rw [List.length_map]
 exact Nat.le_trans (List.length_filter_le _ _) (by simp)
theorem qAr (L:List Int) (k v n:Nat) (h:List AObj) (hn:n=L.length) (hk:qA k h=some (.mem v 3 (qp L))) (hl:L.length≤1000000000):
  qm Tryz.prog 64 [.osl k v 1 0 n] h (.osl k v 1 0 (qmI L).length) (qE k h (.mem v 3 (qp (qmI L++List.replicate (L.length-(qmI L).length) 0)))):=by
 subst hn
 refine ⟨qtn Tryz.func64 (by kernel_rfl) (by kernel_rfl),fun w σ xs H hv=> ?_⟩
 obtain ⟨x,rfl,hx⟩:=hv.one
 obtain ⟨b,cap,rfl,hcap,hb,hH,hU⟩:=qqd H hk (by decide) hx
 refine (callsIn_wide.2 (calls_of_every_depth fun D=>AnyS.slices_Compact_int_in Tryz.laysC20 D b 0 cap L w hH (by omega) hcap)).mono ?_
 rintro e w' ⟨rfl,q,rfl⟩
 have hc:=qqO L
 obtain ⟨g1,g2,g3⟩:=hU (qmI L++List.replicate (L.length-(qmI L).length) 0) q #[] (by rw [List.length_append,List.length_replicate];omega)
 rw [grow_empty]at g1 g2 g3
 exact ⟨_,σ,rfl,g1,g3 _ hc,g2⟩
end RC
end
section
namespace Go.Proofs
open Go.Shelf
def Tryz.laysM171_ren:Go.Shelf.Ren:=⟨fun|171=>181|243=>188|246=>196|283=>200|284=>201|285=>202|286=>203|129=>140|317=>206|318=>207|319=>208|320=>209|337=>210|338=>211|n=>n,fun|3=>3|9=>9|2=>2|4=>4|171=>221|0=>0|53=>122|37=>195|5=>5|173=>223|212=>231|51=>165|20=>20|213=>232|46=>135|232=>233|233=>234|n=>n,fun|17=>3|18=>4|19=>5|n=>n⟩
theorem Tryz.laysM171:Go.Proofs.LaysM.n171 Tryz.prog Tryz.laysM171_ren:= {
 mixed:=by kernel_rfl
 f129:=Tryz.func140.trans (congrArg some (by kernel_rfl))
 f171:=Tryz.func181.trans (congrArg some (by kernel_rfl))
 f243:=Tryz.func188.trans (congrArg some (by kernel_rfl))
 f246:=Tryz.func196.trans (congrArg some (by kernel_rfl))
 f283:=Tryz.func200.trans (congrArg some (by kernel_rfl))
 f284:=Tryz.func201.trans (congrArg some (by kernel_rfl))
 f285:=Tryz.func202.trans (congrArg some (by kernel_rfl))
 f286:=Tryz.func203.trans (congrArg some (by kernel_rfl))
 f317:=Tryz.func206.trans (congrArg some (by kernel_rfl))
 f318:=Tryz.func207.trans (congrArg some (by kernel_rfl))
 f319:=Tryz.func208.trans (congrArg some (by kernel_rfl))
 f320:=Tryz.func209.trans (congrArg some (by kernel_rfl))
 f337:=Tryz.func210.trans (congrArg some (by kernel_rfl))
 f338:=Tryz.func211.trans (congrArg some (by kernel_rfl))
 t0:=Tryz.underlying0
 a0:=Tryz.isAgg0
 z0:=Tryz.sizeOf0
 v0:=Tryz.zeroValue0
 t2:=Tryz.underlying2
 a2:=Tryz.isAgg2
 z2:=Tryz.sizeOf2
 v2:=Tryz.zeroValue2
 t3:=Tryz.underlying3
 a3:=Tryz.isAgg3
 z3:=Tryz.sizeOf3
 v3:=Tryz.zeroValue3
 t4:=Tryz.underlying4
 a4:=Tryz.isAgg4
 z4:=Tryz.sizeOf4
 v4:=Tryz.zeroValue4
 t5:=Tryz.underlying5
 a5:=Tryz.isAgg5
 z5:=Tryz.sizeOf5
 v5:=Tryz.zeroValue5
 t9:=Tryz.underlying9
 a9:=Tryz.isAgg9
 z9:=Tryz.sizeOf9
 v9:=Tryz.zeroValue9
 t20:=Tryz.underlying20
 a20:=Tryz.isAgg20
 z20:=Tryz.sizeOf20
 v20:=Tryz.zeroValue20
 t37:=Tryz.underlying195
 a37:=Tryz.isAgg195
 z37:=Tryz.sizeOf195
 v37:=Tryz.zeroValue195
 t46:=Tryz.underlying135
 a46:=Tryz.isAgg135
 z46:=Tryz.sizeOf135
 v46:=Tryz.zeroValue135
 t51:=Tryz.underlying165
 a51:=Tryz.isAgg165
 z51:=Tryz.sizeOf165
 v51:=Tryz.zeroValue165
 t53:=Tryz.underlying122
 a53:=Tryz.isAgg122
 z53:=Tryz.sizeOf122
 v53:=Tryz.zeroValue122
 t171:=Tryz.underlying221
 a171:=Tryz.isAgg221
 z171:=Tryz.sizeOf221
 v171:=Tryz.zeroValue221
 t173:=Tryz.underlying223
 a173:=Tryz.isAgg223
 z173:=Tryz.sizeOf223
 v173:=Tryz.zeroValue223
 t212:=Tryz.underlying231
 a212:=Tryz.isAgg231
 z212:=Tryz.sizeOf231
 v212:=Tryz.zeroValue231
 t213:=Tryz.underlying232
 a213:=Tryz.isAgg232
 z213:=Tryz.sizeOf232
 t232:=Tryz.underlying233
 a232:=Tryz.isAgg233
 z232:=Tryz.sizeOf233
 v232:=Tryz.zeroValue233
 t233:=Tryz.underlying234
 a233:=Tryz.isAgg234
 z233:=Tryz.sizeOf234
 v233:=Tryz.zeroValue234
 g17:=by kernel_rfl
 g18:=by kernel_rfl
 g19:=by kernel_rfl
 i0:=by kernel_rfl
 i2:=by kernel_rfl
 i3:=by kernel_rfl
 i4:=by kernel_rfl
 i5:=by kernel_rfl
 i9:=by kernel_rfl
 i20:=by kernel_rfl
 i37:=by kernel_rfl
 i46:=by kernel_rfl
 i51:=by kernel_rfl
 i53:=by kernel_rfl
 i171:=by kernel_rfl
 i173:=by kernel_rfl
 i212:=by kernel_rfl
 i232:=by kernel_rfl
 i233:=by kernel_rfl
 m17:=by kernel_rfl
 m18:=by kernel_rfl
 m19:=by kernel_rfl }
def Tryz.laysC172_ren:Go.Shelf.Ren:=⟨fun|172=>180|244=>186|245=>187|247=>191|279=>192|280=>193|281=>194|282=>195|287=>197|316=>198|171=>181|205=>199|321=>204|322=>205|243=>188|246=>196|283=>200|284=>201|285=>202|286=>203|129=>140|317=>206|318=>207|319=>208|320=>209|337=>210|338=>211|n=>n,fun|9=>9|3=>3|75=>197|76=>198|4=>4|5=>5|167=>208|37=>195|0=>0|85=>209|2=>2|168=>211|53=>122|175=>215|46=>135|210=>219|127=>226|145=>229|143=>227|21=>21|171=>221|173=>223|212=>231|51=>165|20=>20|213=>232|232=>233|233=>234|80=>235|n=>n,fun|15=>1|16=>2|17=>3|18=>4|19=>5|n=>n⟩
theorem Tryz.laysC172:Go.Proofs.LaysC.n172 Tryz.prog Tryz.laysC172_ren:= {
 mixed:=by kernel_rfl
 f129:=Tryz.func140.trans (congrArg some (by kernel_rfl))
 f171:=Tryz.func181.trans (congrArg some (by kernel_rfl))
 f172:=Tryz.func180.trans (congrArg some (by kernel_rfl))
 f205:=Tryz.func199.trans (congrArg some (by kernel_rfl))
 f243:=Tryz.func188.trans (congrArg some (by kernel_rfl))
 f244:=Tryz.func186.trans (congrArg some (by kernel_rfl))
 f245:=Tryz.func187.trans (congrArg some (by kernel_rfl))
 f246:=Tryz.func196.trans (congrArg some (by kernel_rfl))
 f247:=Tryz.func191.trans (congrArg some (by kernel_rfl))
 f279:=Tryz.func192.trans (congrArg some (by kernel_rfl))
 f280:=Tryz.func193.trans (congrArg some (by kernel_rfl))
 f281:=Tryz.func194.trans (congrArg some (by kernel_rfl))
 f282:=Tryz.func195.trans (congrArg some (by kernel_rfl))
 f283:=Tryz.func200.trans (congrArg some (by kernel_rfl))
 f284:=Tryz.func201.trans (congrArg some (by kernel_rfl))
 f285:=Tryz.func202.trans (congrArg some (by kernel_rfl))
 f286:=Tryz.func203.trans (congrArg some (by kernel_rfl))
 f287:=Tryz.func197.trans (congrArg some (by kernel_rfl))
 f316:=Tryz.func198.trans (congrArg some (by kernel_rfl))
 f317:=Tryz.func206.trans (congrArg some (by kernel_rfl))
 f318:=Tryz.func207.trans (congrArg some (by kernel_rfl))
 f319:=Tryz.func208.trans (congrArg some (by kernel_rfl))
 f320:=Tryz.func209.trans (congrArg some (by kernel_rfl))
 f321:=Tryz.func204.trans (congrArg some (by kernel_rfl))
 f322:=Tryz.func205.trans (congrArg some (by kernel_rfl))
 f337:=Tryz.func210.trans (congrArg some (by kernel_rfl))
 f338:=Tryz.func211.trans (congrArg some (by kernel_rfl))
 t0:=Tryz.underlying0
 a0:=Tryz.isAgg0
 z0:=Tryz.sizeOf0
 v0:=Tryz.zeroValue0
 t2:=Tryz.underlying2
 a2:=Tryz.isAgg2
 z2:=Tryz.sizeOf2
 v2:=Tryz.zeroValue2
 t3:=Tryz.underlying3
 a3:=Tryz.isAgg3
 z3:=Tryz.sizeOf3
 v3:=Tryz.zeroValue3
 t4:=Tryz.underlying4
 a4:=Tryz.isAgg4
 z4:=Tryz.sizeOf4
 v4:=Tryz.zeroValue4
 t5:=Tryz.underlying5
 a5:=Tryz.isAgg5
 z5:=Tryz.sizeOf5
 v5:=Tryz.zeroValue5
 t9:=Tryz.underlying9
 a9:=Tryz.isAgg9
 z9:=Tryz.sizeOf9
 v9:=Tryz.zeroValue9
 t20:=Tryz.underlying20
 a20:=Tryz.isAgg20
 z20:=Tryz.sizeOf20
 v20:=Tryz.zeroValue20
 t21:=Tryz.underlying21
 a21:=Tryz.isAgg21
 z21:=Tryz.sizeOf21
 v21:=Tryz.zeroValue21
 t37:=Tryz.underlying195
 a37:=Tryz.isAgg195
 z37:=Tryz.sizeOf195
 v37:=Tryz.zeroValue195
 t46:=Tryz.underlying135
 a46:=Tryz.isAgg135
 z46:=Tryz.sizeOf135
 v46:=Tryz.zeroValue135
 t51:=Tryz.underlying165
 a51:=Tryz.isAgg165
 z51:=Tryz.sizeOf165
 v51:=Tryz.zeroValue165
 t53:=Tryz.underlying122
 a53:=Tryz.isAgg122
 z53:=Tryz.sizeOf122
 v53:=Tryz.zeroValue122
 t75:=Tryz.underlying197
 a75:=Tryz.isAgg197
 z75:=Tryz.sizeOf197
 v75:=Tryz.zeroValue197
 t76:=Tryz.underlying198
 a76:=Tryz.isAgg198
 z76:=Tryz.sizeOf198
 v76:=Tryz.zeroValue198
 t85:=Tryz.underlying209
 a85:=Tryz.isAgg209
 z85:=Tryz.sizeOf209
 v85:=Tryz.zeroValue209
 t127:=Tryz.underlying226
 a127:=Tryz.isAgg226
 z127:=Tryz.sizeOf226
 v127:=Tryz.zeroValue226
 t143:=Tryz.underlying227
 a143:=Tryz.isAgg227
 z143:=Tryz.sizeOf227
 v143:=Tryz.zeroValue227
 t145:=Tryz.underlying229
 a145:=Tryz.isAgg229
 z145:=Tryz.sizeOf229
 v145:=Tryz.zeroValue229
 t167:=Tryz.underlying208
 a167:=Tryz.isAgg208
 z167:=Tryz.sizeOf208
 v167:=Tryz.zeroValue208
 t168:=Tryz.underlying211
 a168:=Tryz.isAgg211
 z168:=Tryz.sizeOf211
 v168:=Tryz.zeroValue211
 t171:=Tryz.underlying221
 a171:=Tryz.isAgg221
 z171:=Tryz.sizeOf221
 v171:=Tryz.zeroValue221
 t173:=Tryz.underlying223
 a173:=Tryz.isAgg223
 z173:=Tryz.sizeOf223
 v173:=Tryz.zeroValue223
 t175:=Tryz.underlying215
 a175:=Tryz.isAgg215
 z175:=Tryz.sizeOf215
 v175:=Tryz.zeroValue215
 t210:=Tryz.underlying219
 a210:=Tryz.isAgg219
 z210:=Tryz.sizeOf219
 v210:=Tryz.zeroValue219
 t212:=Tryz.underlying231
 a212:=Tryz.isAgg231
 z212:=Tryz.sizeOf231
 v212:=Tryz.zeroValue231
 t213:=Tryz.underlying232
 a213:=Tryz.isAgg232
 z213:=Tryz.sizeOf232
 t232:=Tryz.underlying233
 a232:=Tryz.isAgg233
 z232:=Tryz.sizeOf233
 v232:=Tryz.zeroValue233
 t233:=Tryz.underlying234
 a233:=Tryz.isAgg234
 z233:=Tryz.sizeOf234
 v233:=Tryz.zeroValue234
 g15:=by kernel_rfl
 g16:=by kernel_rfl
 g17:=by kernel_rfl
 g18:=by kernel_rfl
 g19:=by kernel_rfl
 t80:=Tryz.underlying235
 a80:=Tryz.isAgg235
 z80:=Tryz.sizeOf235
 v80:=Tryz.zeroValue235
 i0:=by kernel_rfl
 i2:=by kernel_rfl
 i3:=by kernel_rfl
 i4:=by kernel_rfl
 i5:=by kernel_rfl
 i9:=by kernel_rfl
 i20:=by kernel_rfl
 i21:=by kernel_rfl
 i37:=by kernel_rfl
 i46:=by kernel_rfl
 i51:=by kernel_rfl
 i53:=by kernel_rfl
 i75:=by kernel_rfl
 i76:=by kernel_rfl
 i80:=by kernel_rfl
 i85:=by kernel_rfl
 i127:=by kernel_rfl
 i143:=by kernel_rfl
 i145:=by kernel_rfl
 i167:=by kernel_rfl
 i168:=by kernel_rfl
 i171:=by kernel_rfl
 i173:=by kernel_rfl
 i175:=by kernel_rfl
 i210:=by kernel_rfl
 i212:=by kernel_rfl
 i232:=by kernel_rfl
 i233:=by kernel_rfl
 m15:=by kernel_rfl
 m16:=by kernel_rfl
 m17:=by kernel_rfl
 m18:=by kernel_rfl
 m19:=by kernel_rfl
 c0:=by kernel_rfl
 c2:=by kernel_rfl
 c3:=by kernel_rfl
 c4:=by kernel_rfl
 c5:=by kernel_rfl
 c9:=by kernel_rfl
 c20:=by kernel_rfl
 c21:=by kernel_rfl
 c37:=by kernel_rfl
 c46:=by kernel_rfl
 c51:=by kernel_rfl
 c53:=by kernel_rfl
 c75:=by kernel_rfl
 c76:=by kernel_rfl
 c80:=by kernel_rfl
 c85:=by kernel_rfl
 c127:=by kernel_rfl
 c143:=by kernel_rfl
 c145:=by kernel_rfl
 c167:=by kernel_rfl
 c168:=by kernel_rfl
 c171:=by kernel_rfl
 c173:=by kernel_rfl
 c175:=by kernel_rfl
 c210:=by kernel_rfl
 c212:=by kernel_rfl
 c213:=by kernel_rfl
 c232:=by kernel_rfl
 c233:=by kernel_rfl }
end Go.Proofs
end
section
namespace AF
open Go Go.RowKit
theorem Ext.ofBelow {w w':World} {σ:List OB} {h:List AObj} (H:HR w σ h) (hb:Below w.heap.size w w'):HR w' σ h∧Ext w σ w' σ:=by
 have e:Ext w σ w' σ:=⟨hb.os,hb.tape,hb.output,hb.size,fun b hl _=>hb.block b hl,fun _ h=> .inl h,fun _ o h=>⟨o,h,Nat.le_refl _,fun _=>rfl⟩,
  fun b r h=>⟨r,(hb.block b (Array.getElem?_eq_some_iff.1 h).1).trans h⟩⟩
 exact ⟨⟨H.len,H.inj,fun k o b h1 h2=>Nat.lt_of_lt_of_le (H.lt k o b h1 h2) hb.size,fun k a o h1 h2=>(H.obj k a o h1 h2).ext e (fun b h3=>hb.block b (H.lt k o b h2 h3))⟩,e⟩
end AF
end
section
namespace AF
open Go Go.ChangeShapes Go.WideShapes Go.ChangeAt Go.RowKit
def qln:OB:=⟨none,0,0,0⟩
theorem qfg (b:Nat): ¬own [qln] b:=by
 rintro ⟨k,o,h,h2⟩
 cases k with
 |zero=>simp at h;subst h;cases h2
 |succ k=>simp at h
theorem qvO {w:World} {bs:List Nat} {G:World→Prop} (hb: ∀b,b∈bs→ ∃arr T fz,w.heap[b]? =some (.cells arr T fz)) (hG: ∀w':World,(∀b,b∈bs→w'.heap[b]? =w.heap[b]?)→G w'):
  HR w [qln] [.pin bs G]:=by
 refine ⟨rfl,?_,?_,?_⟩
 ·intro i j oi oj b hi hj bi
  cases i with
  |zero=>simp at hi;subst hi;cases bi
  |succ i=>simp at hi
 ·intro k o b hk hb'
  cases k with
  |zero=>simp at hk;subst hk;cases hb'
  |succ k=>simp at hk
 ·intro k a o ha ho
  cases k with
  |zero=>
   simp at ha ho
   subst ha;subst ho
   exact ⟨rfl,rfl,fun b h=>⟨qfg b,hb b h⟩,hG⟩
  |succ k=>simp at ha
theorem qri (w:World):Ext w [] w [qln]:=
 ⟨rfl,rfl,rfl,Nat.le_refl _,fun _ _ _=>rfl,fun b h=>absurd h (qfg b),fun k o h=>by simp at h,fun _ r h=>⟨r,h⟩⟩
theorem qix {w w':World} {σ':List OB} (h:Ext w [qln] w' σ'):Below w.heap.size w w':=⟨h.os,h.tape,h.output,h.size,fun k hk=>h.keep k hk (qfg k)⟩
theorem VRs.ext {w w':World} {σ σ':List OB} (h:Ext w σ w' σ') {avs:List AV} {xs:List Value} (hv:VRs w σ avs xs):VRs w' σ' avs xs:=⟨hv.1,fun i c x hc hx=>(hv.2 i c x hc hx).ext h⟩
theorem qwa {w:World} {σ:List OB} {h:List AObj} {k:Nat} {bs:List Nat} {G:World→Prop} (H:HR w σ h) (hk:h[k]? =some (.pin bs G)):G w:=by
 have hl:k<σ.length:=by rw [H.len];exact (List.getElem?_eq_some_iff.1 hk).1
 obtain ⟨_,_,_,h4⟩:=H.obj k _ σ[k] hk (qR hl)
 exact h4 w (fun _ _=>rfl)
theorem qd9 {H:Type} {enc:TypeId×Value→H} {P:Program} {W:World} {f:Func} {fid:FuncId} {s:ChangeSpec} {args:Array Value} {ds gs:List (DataW H)} {before:List MemPlace} {tb:TypeId} {bs:List Nat} {G:World→Prop}
  (hl:laidOutB P=true) (hv:s.vars= []) (hfn: ∀ds',ds'.length=f.params.size→s.fn H ds'= { results:= [.lit (.bool true)],args:=ds' })
  (hrt:f.resultTypes= #[tb]) (htb:P.underlying tb=some .bool) (hro: ∀t∈f.params.toList,P.readableRec t=true∧t<P.types.size)
  (hW:DataW.Whole enc P f.params.toList s.vars false W args.toList ds gs before)
  (hb: ∀b,b∈bs→ ∃arr T fz,W.heap[b]? =some (.cells arr T fz)) (hG: ∀w':World,(∀b,b∈bs→w'.heap[b]? =W.heap[b]?)→G w')
  (hc: ∀p,DataW.TrodAll enc P W 0 (fun _=>true) true f.params.toList args.toList ds p→ds.length=f.params.size∧ ∃avs:List AV,VRs W [] avs args.toList∧qm P fid avs [.pin bs G] (.bool true) [.pin bs G]):
  Calls P fid args W fun e W'=> ∃v,e= .returned v∧s.post enc P f false true false false W args v W':=by
 have hW':=hW
 obtain ⟨p,q,hA,hV,rfl,hz,_⟩:=hW
 rw [hv]at hV
 obtain ⟨rfl,rfl⟩:=trodVars_none hV
 obtain ⟨hlen,avs,h1,h2⟩:=hc p hA
 rw [List.append_nil]at hW'
 have h3:=h2.2 W [qln] args.toList (qvO hb hG) (h1.ext (qri W))
 rw [Array.toArray_toList]at h3
 refine (callsIn_wide.1 h3).mono ?_
 rintro e W' ⟨v,σ',rfl,g1,g2,g3⟩
 obtain rfl:=zH g2
 exact ⟨_,rfl,qn5 hl hv (hfn ds hlen) hrt htb hro hW' hA (qix g3)⟩
theorem qdw {P:Program} {w w':World} {name:String} {g:Nat} (hg:P.globalNamed name=some g) (h:w'.heap[g]? =w.heap[g]?):w'.var? P name=w.var? P name:=by
 unfold World.var?
 rw [hg]
 simp only [Option.bind_some]
 rw [h]
theorem qcp {P:Program} {w:World} {name:String} {g:Nat} {cs:Array Value} (hg:P.globalNamed name=some g) (h:w.var? P name=some cs): ∃arr T fz,w.heap[g]? =some (.cells arr T fz):=by
 unfold World.var? at h
 rw [hg]at h
 simp only [Option.bind_some]at h
 split at h
 ·rename_i cs T fz hc
  exact ⟨_,_,_,hc⟩
 ·cases h
end AF
end
section
open Go Go.Proofs AF HY
namespace LN
def qpE (w : World) : Prop := Lib.TabIs Tryz.prog w "internal/strconv.uint64pow10" .u64 Lib.pow10Tab
def qtr (w : World) : Prop := (∃ tp p, w.var? Tryz.prog "strconv.ErrSyntax" = some #[.iface tp p]) ∧ ∃ tp p, w.var? Tryz.prog "strconv.ErrRange" = some #[.iface tp p]
def ku (Q:World→Prop) (h:List AObj):Prop:= ∃(k:Nat) (bs:List Nat) (G:World→Prop),h[k]? =some (.pin bs G)∧ ∀w,G w→Q w
theorem ku.app {Q:World→Prop} {h:List AObj} (hp:ku Q h) (l:List AObj):ku Q (h++l):=by
 obtain ⟨k,bs,G,h1,h2⟩:=hp
 exact ⟨k,bs,G,by rw [List.getElem?_append_left (List.getElem?_eq_some_iff.1 h1).1];exact h1,h2⟩
theorem ku.mono {Q Q':World→Prop} {h:List AObj} (hp:ku Q h) (hq: ∀w,Q w→Q' w):ku Q' h:=by
 obtain ⟨k,bs,G,h1,h2⟩:=hp
 exact ⟨k,bs,G,h1,fun w hw=>hq w (h2 w hw)⟩
theorem ku.of {Q:World→Prop} {h:List AObj} {w:World} {σ:List OB} (hp:ku Q h) (H:HR w σ h):Q w:=by
 obtain ⟨k,bs,G,h1,h2⟩:=hp
 exact h2 w (qwa H h1)
theorem t48 (n:Int) (h:List AObj) (hp:ku qpE h) (h0: -9223372036854775808≤n) (h1:n≤9223372036854775807):qm Tryz.prog 181 [.int .i64 n] h (.str (Lib.itoa n)) h:=by
 refine ⟨qtn Tryz.func181 (by kernel_rfl) (by kernel_rfl),fun w σ xs H hv=> ?_⟩
 obtain ⟨x,rfl,hx⟩:=hv.one
 rw [za hx]
 refine (callsIn_wide.2 (Any.strconv_Itoa Tryz.laysM171 n h0 h1 w (hp.of H))).mono ?_
 rintro e w' ⟨rfl,k,os,rfl⟩
 obtain ⟨g1,g2⟩:=Ext.ofBelow H (Lib.below_grow w.heap.size w (Nat.le_refl _) k os)
 exact ⟨_,σ,rfl,g1,.imm .str,g2⟩
def qqv (s:List UInt8):Int:=
 match Lib.atoiAll s with
 | .ok _=>0
 | .range=>Lib.atoiSat s
 |_=>0
def qqu (s:List UInt8):AV:=
 match Lib.atoiAll s with
 | .ok v=> .tup [.int .i64 v,.nilif]
 |_=> .tup [.int .i64 (qqv s),.ifc]
theorem t50 (s:List UInt8) (h:List AObj) (hp:ku qtr h) (hl:s.length≤281474976710656):qm Tryz.prog 180 [.str s] h (qqu s) h:=by
 refine ⟨qtn Tryz.func180 (by kernel_rfl) (by kernel_rfl),fun w σ xs H hv=> ?_⟩
 obtain ⟨x,rfl,hx⟩:=hv.one
 rw [zT hx]
 have hsz:(⟨s.toArray⟩:ByteArray).size≤281474976710656:=by simpa [ByteArray.size] using hl
 obtain ⟨⟨t1,p1,e1⟩,t2,p2,e2⟩:=hp.of H
 unfold qqu qqv
 have hd:(⟨s.toArray⟩:ByteArray).data.toList=s:=rfl
 cases hs:Lib.atoiAll s
 ·rename_i v
  refine (callsIn_wide.2 (Any.strconv_Atoi_ok Tryz.laysC172 ⟨s.toArray⟩ (by omega) v (by rw [hd];exact hs) w)).mono ?_
  rintro e w' ⟨rfl,hw⟩
  have hb:Go.RowKit.Below w.heap.size w w':=by
   rcases hw with rfl|⟨t,rfl⟩
   ·exact Go.RowKit.Below.refl _ _
   ·exact Lib.bytesWorld_below _ _ _
  obtain ⟨g1,g2⟩:=Ext.ofBelow H hb
  refine ⟨_,σ,rfl,g1,.imm (.tup rfl (fun i c y hc hy=> ?_)),g2⟩
  match i with
  |0=>simp at hc hy;subst hc hy;exact .int
  |1=>simp at hc hy;subst hc hy;exact .nilif
  |i+2=>simp at hc
 ·refine (callsIn_wide.2 (Any.strconv_Atoi_syntax_var Tryz.laysC172 ⟨s.toArray⟩ hsz (by rw [hd];exact hs) t1 p1 w e1)).mono ?_
  rintro e w' ⟨N,rfl,_,_,hb⟩
  obtain ⟨g1,g2⟩:=Ext.ofBelow H hb
  refine ⟨_,σ,rfl,g1,.imm (.tup rfl (fun i c y hc hy=> ?_)),g2⟩
  match i with
  |0=>simp at hc hy;subst hc hy;exact .int
  |1=>simp at hc hy;subst hc hy;exact .ifc
  |i+2=>simp at hc
 ·refine (callsIn_wide.2 (Any.strconv_Atoi_range_var Tryz.laysC172 ⟨s.toArray⟩ hsz (by rw [hd];exact hs) t2 p2 w e2)).mono ?_
  rintro e w' ⟨N,rfl,_,_,hb⟩
  obtain ⟨g1,g2⟩:=Ext.ofBelow H hb
  refine ⟨_,σ,rfl,g1,.imm (.tup rfl (fun i c y hc hy=> ?_)),g2⟩
  match i with
  |0=>simp at hc hy;subst hc hy;exact .int
  |1=>simp at hc hy;subst hc hy;exact .ifc
  |i+2=>simp at hc
end LN
end
section
open Go Go.Proofs AF HY
namespace LN
theorem qk9: ∀(l r:List UInt8) (acc:Nat),Lib.parseUint10 acc (l++r)=match Lib.parseUint10 acc l with
  | .ok v=>Lib.parseUint10 v r
  |e=>e:=by
 intro l
 induction l with
 |nil=>intro r acc;rfl
 |cons c l ih=>
  intro r acc
  rw [List.cons_append,Lib.parseUint10,Lib.parseUint10]
  by_cases h1:48≤c.toNat∧c.toNat≤57
  ·rw [if_pos h1,if_pos h1]
   by_cases h2:1844674407370955162≤acc
   ·rw [if_pos h2,if_pos h2]
   ·rw [if_neg h2,if_neg h2]
    by_cases h3:18446744073709551616≤acc*10+(c.toNat-48)
    ·rw [if_pos h3,if_pos h3]
    ·rw [if_neg h3,if_neg h3]
     exact ih r _
  ·rw [if_neg h1,if_neg h1]
theorem qc6 {d:Nat} (h:d<10):(UInt8.ofNat (48+d)).toNat=48+d:=by
 rw [UInt8.toNat_ofNat']
 omega
theorem qla: ∀u,u<1000000000→Lib.parseUint10 0 (Lib.decDigits u)= .ok u:=by
 intro u
 induction u using Nat.strongRecOn with
 |_ u ih=>
  intro hu
  by_cases h:u<10
  ·rw [Lib.decDigits,dif_pos h,Lib.parseUint10,qc6 h,if_pos (by omega),if_neg (by omega),if_neg (by omega),Lib.parseUint10]
   congr 1
   omega
  ·rw [Lib.decDigits,dif_neg h,qk9,ih (u/10) (by omega) (by omega)]
   simp only
   rw [Lib.parseUint10,qc6 (by omega),if_pos (by omega),if_neg (by omega),if_neg (by omega),Lib.parseUint10]
   congr 1
   omega
theorem qg3: ∀u,∀c∈Lib.decDigits u,48≤c.toNat∧c.toNat≤57:=by
 intro u
 induction u using Nat.strongRecOn with
 |_ u ih=>
  intro c hc
  by_cases h:u<10
  ·rw [Lib.decDigits,dif_pos h,List.mem_singleton]at hc
   subst hc
   rw [qc6 h]
   omega
  ·rw [Lib.decDigits,dif_neg h]at hc
   rcases List.mem_append.1 hc with hc|hc
   ·exact ih (u/10) (by omega) c hc
   ·rw [List.mem_singleton]at hc
    subst hc
    rw [qc6 (by omega)]
    omega
theorem qum (u:Nat):Lib.decDigits u≠ []:=by
 intro h
 have:=Lib.decDigits_length u
 have:=Lib.nDigits_pos u
 rw [h]at*
 simp at*
 omega
theorem qiv {n:Int} (h0:0≤n) (h1:n<1000000000):Lib.atoiAll (Lib.itoa n)= .ok n:=by
 obtain ⟨u,rfl⟩: ∃u:Nat,n=u:=⟨n.toNat,by omega⟩
 rw [Lib.itoa_nonneg]
 have hd:=qg3 u
 have hp:=qla u (by omega)
 have hne:=qum u
 cases hl:Lib.decDigits u with
 |nil=>exact absurd hl hne
 |cons c r=>
  rw [hl]at hd hp
  have hc:=hd c (List.mem_cons_self ..)
  unfold Lib.atoiAll
  simp only
  rw [if_neg (show¬(c.toNat=43∨c.toNat=45) by omega)]
  unfold Lib.parseMag
  rw [if_neg (by simp),hp]
  simp only
  rw [if_neg (by omega),if_neg (by omega),if_neg (by omega)]
end LN
end
section
open Go Go.Proofs AF HY LN
namespace RC
theorem qmU {s:Str} {v:Int} (h:Lib.atoiAll s= .ok v): -9223372036854775808≤v∧v≤9223372036854775807:=by
 unfold Lib.atoiAll at h
 split at h
 ·cases h
 ·simp only at h
  split at h
  ·cases h
  ·cases h
  ·split at h
   ·cases h
   ·split at h
    ·cases h
    ·rename_i h1 h2
     cases h
     split
     ·rename_i h3;have:=mt (And.intro h3) h2;omega
     ·rename_i h3;have:=mt (And.intro h3) h1;omega
theorem qkz {k:Nat} (h:k≤64):(Lib.itoa (k:Int)).length≤9:=by
 rw [Lib.itoa_nonneg]
 by_cases g:k<10
 ·rw [Lib.decDigits,dif_pos g];simp
 ·rw [Lib.decDigits,dif_neg g,Lib.decDigits,dif_pos (show k/10<10 by omega)];simp
def qq1 (s:Str):Bool:=match Lib.atoiAll s with
 | .ok v=>decide (1≤v)&&(decide (s.length≤9)&&decide (Lib.itoa v=s))
 |_=>false
def qtk (s:Str):Int:=match Lib.atoiAll s with
 | .ok v=>v
 |_=>qqv s
def SG (w:World):Prop:=qpE w∧qtr w
theorem SG.pow {h:List AObj} (hp:ku SG h):ku qpE h:=hp.mono fun _ h=>h.1
theorem SG.err {h:List AObj} (hp:ku SG h):ku qtr h:=hp.mono fun _ h=>h.2
theorem qAs (s:Str) (h:List AObj) (hs:s.length≤1000000000) (hp:ku SG h):qm Tryz.prog 169 [.str s] h (.tup [.int .i64 (qtk s),.bool (qq1 s)]) h:=by
 have c180:=t50 s h (SG.err hp) (by omega)
 unfold qtk qq1
 unfold qqu at c180
 cases ha:Lib.atoiAll s
 ·rename_i v
  rw [ha]at c180
  simp only at c180
  obtain ⟨r1,r2⟩:=qmU ha
  have c181:=t48 v h (SG.pow hp) r1 r2
  obtain ⟨t,ht⟩: ∃t,t=Lib.itoa v:=⟨_,rfl⟩
  rw [←ht]at c181
  simp only [←ht]
  by_cases g1:1≤v
  ·have k1:(1≤v)=True:=eq_true g1
   rw [decide_eq_true g1]
   by_cases g2:s.length≤9
   ·have k2:((s.length:Int)≤9)=True:=eq_true (by omega)
    rw [decide_eq_true g2]
    refine acO qd0 ?_
    simp (disch:=omega) only [qgQ,List.replicate,go_sem]
    repeat' first
     |((first|refine cA (c180) ?_ ?_|refine cG (fun e=>c180) ?_ ?_|refine cA (c181) ?_ ?_|refine cG (fun e=>c181) ?_ ?_);(next=>exact flk);simp (disch:=omega) only [k1,k2,go_sem])
     |((first|apply qc|apply qb);exact rvk;simp only [go_sem];first|exact VLe.refl _|apply qd|apply qa|apply qe|skip)
     |with_reducible first|refine And.intro ?_ ?_|intro _
    all_goals try exact clz
   ·have k2:((s.length:Int)≤9)=False:=eq_false (by omega)
    rw [decide_eq_false g2]
    refine acO qd0 ?_
    simp (disch:=omega) only [qgQ,List.replicate,go_sem]
    repeat' first
     |(refine qo ( .str []) ?_;simp (disch:=omega) only [k1,k2,go_sem])
     |((first|refine cA (c180) ?_ ?_|refine cG (fun e=>c180) ?_ ?_);(next=>exact flk);simp (disch:=omega) only [k1,k2,go_sem])
     |((first|apply qc|apply qb);exact rvk;simp only [go_sem];first|exact VLe.refl _|apply qd|apply qa|apply qe|skip)
     |with_reducible first|refine And.intro ?_ ?_|intro _
    all_goals try exact clz
  ·have k1:(1≤v)=False:=eq_false g1
   rw [decide_eq_false g1]
   refine acO qd0 ?_
   simp (disch:=omega) only [qgQ,List.replicate,go_sem]
   repeat' first
    |(refine qo ( .str []) ?_;simp (disch:=omega) only [k1,go_sem])
    |((first|refine cA (c180) ?_ ?_|refine cG (fun e=>c180) ?_ ?_);(next=>exact flk);simp (disch:=omega) only [k1,go_sem])
    |((first|apply qc|apply qb);exact rvk;simp only [go_sem];first|exact VLe.refl _|apply qd|apply qa|apply qe|skip)
    |with_reducible first|refine And.intro ?_ ?_|intro _
   all_goals try exact clz
 ·rw [ha]at c180
  simp only at c180
  refine acO qd0 ?_
  simp (disch:=omega) only [qgQ,List.replicate,go_sem]
  repeat' first
   |(refine qo ( .str []) ?_;simp (disch:=omega) only [go_sem])
   |((first|refine cA (c180) ?_ ?_|refine cG (fun e=>c180) ?_ ?_);(next=>exact flk);simp (disch:=omega) only [go_sem])
   |((first|apply qc|apply qb);exact rvk;simp only [go_sem];first|exact VLe.refl _|apply qd|apply qa|apply qe|skip)
   |with_reducible first|refine And.intro ?_ ?_|intro _
  all_goals try exact clz
 ·rw [ha]at c180
  simp only at c180
  refine acO qd0 ?_
  simp (disch:=omega) only [qgQ,List.replicate,go_sem]
  repeat' first
   |(refine qo ( .str []) ?_;simp (disch:=omega) only [go_sem])
   |((first|refine cA (c180) ?_ ?_|refine cG (fun e=>c180) ?_ ?_);(next=>exact flk);simp (disch:=omega) only [go_sem])
   |((first|apply qc|apply qb);exact rvk;simp only [go_sem];first|exact VLe.refl _|apply qd|apply qa|apply qe|skip)
   |with_reducible first|refine And.intro ?_ ?_|intro _
  all_goals try exact clz
def pre (s:Str):Bool:=decide (1≤s.length)&&decide (s.take 1= [91])
theorem qpY (s:Str) (h:List AObj) (hs:s.length≤1000000000):qm Tryz.prog 185 [.str s,.str [91]] h (.bool (pre s)) h:=by
 unfold pre
 by_cases g:1≤s.length
 ·have k1:((1:Int)≤s.length)=True:=eq_true (by omega)
  rw [decide_eq_true g]
  refine acO qpV ?_
  simp (disch:=omega) only [qqI,List.replicate,qbD,k1,go_sem]
  repeat' first
   |((first|apply qc|apply qb);exact rvk;simp only [go_sem];first|exact VLe.refl _|apply qd|apply qa|apply qe|skip)
   |with_reducible first|refine And.intro ?_ ?_|intro _
  all_goals try exact clz
 ·have k1:((1:Int)≤s.length)=False:=eq_false (by omega)
  rw [decide_eq_false g]
  refine acO qpV ?_
  simp (disch:=omega) only [qqI,List.replicate,qbD,k1,go_sem]
  repeat' first
   |((first|apply qc|apply qb);exact rvk;simp only [go_sem];first|exact VLe.refl _|apply qd|apply qa|apply qe|skip)
   |with_reducible first|refine And.intro ?_ ?_|intro _
  all_goals try exact clz
theorem qqV (s:Str) (h:List AObj) (hs:s.length≤1000000000):qm Tryz.prog 179 [.str s,.str [91]] h (.tup [.str (if pre s=true then s.drop 1 else s),.bool (pre s)]) h:=by
 have c1:=fun h=>qpY s h hs
 cases g:pre s with
 |true=>
  rw [g]at c1
  have g1:1≤s.length:=by unfold pre at g;simp at g;omega
  have k4:((1:Int)≤s.length)=True:=eq_true (by omega)
  have k5:List.take (s.length-1) (List.drop 1 s)=s.drop 1:=List.take_of_length_le (by simp)
  refine acO qpU ?_
  simp (disch:=omega) only [qqH,List.replicate,qbD,k4,go_sem]
  repeat' first
   |((first|refine cA (c1 _) ?_ ?_|refine cG (fun e=>c1 _) ?_ ?_|refine cU (fun _=>c1 _) ?_ ?_);(next=>exact flk);simp (disch:=omega) only [qbD,k4,go_sem])
   |((first|apply qc|apply qb);exact rvk;simp only [go_sem];first|exact VLe.refl _|apply qd|apply qa|apply qe|skip)
   |with_reducible first|refine And.intro ?_ ?_|intro _
  all_goals try exact clz
  simp only [Int.toNat_one,k5,if_true]
  exact VLe.refl _
 |false=>
  rw [g]at c1
  refine acO qpU ?_
  simp (disch:=omega) only [qqH,List.replicate,go_sem]
  repeat' first
   |((first|refine cA (c1 _) ?_ ?_|refine cG (fun e=>c1 _) ?_ ?_|refine cU (fun _=>c1 _) ?_ ?_);(next=>exact flk);simp (disch:=omega) only [go_sem])
   |((first|apply qc|apply qb);exact rvk;simp only [go_sem];first|exact VLe.refl _|apply qd|apply qa|apply qe|skip)
   |with_reducible first|refine And.intro ?_ ?_|intro _
  all_goals try exact clz
theorem quj (s:Str) (h:List AObj) (hs:s.length≤1000000000):qm Tryz.prog 168 [.str s,.str [91]] h (.tup [.str (if pre s=true then s.drop 1 else s),.bool (pre s)]) h:=by
 have c1:=fun h=>qqV s h hs
 refine acO qu4 ?_
 simp (disch:=omega) only [qtW,List.replicate,go_sem]
 repeat' first
  |((first|refine cA (c1 _) ?_ ?_|refine cG (fun e=>c1 _) ?_ ?_|refine cU (fun _=>c1 _) ?_ ?_);(next=>exact flk);simp (disch:=omega) only [go_sem])
  |((first|apply qc|apply qb);exact rvk;simp only [go_sem];first|exact VLe.refl _|apply qd|apply qa|apply qe|skip)
  |with_reducible first|refine And.intro ?_ ?_|intro _
 all_goals try exact clz
def qap (s:Str):Bool:=decide (1≤s.length)&&decide (s.drop (s.length-1)= [93])
theorem qrD (s:Str) (h:List AObj) (hs:s.length≤1000000000):qm Tryz.prog 164 [.str s,.str [93]] h (.bool (qap s)) h:=by
 unfold qap
 by_cases g:1≤s.length
 ·have k1:((1:Int)≤s.length)=True:=eq_true (by omega)
  have k2:((s.length:Int)-1).toNat=s.length-1:=by omega
  have k3:(0≤(s.length:Int)-1)=True:=eq_true (by omega)
  have k4:((s.length:Int)-1≤s.length)=True:=eq_true (by omega)
  have k5:List.take (s.length-(s.length-1)) (List.drop (s.length-1) s)=s.drop (s.length-1):=List.take_of_length_le (by simp)
  rw [decide_eq_true g]
  refine acO qf7 ?_
  simp (disch:=omega) only [qjn,List.replicate,qbD,k1,k2,k3,k4,k5,go_sem]
  repeat' first
   |((first|apply qc|apply qb);exact rvk;simp only [go_sem];first|exact VLe.refl _|apply qd|apply qa|apply qe|skip)
   |with_reducible first|refine And.intro ?_ ?_|intro _
  all_goals try exact clz
 ·have k1:((1:Int)≤s.length)=False:=eq_false (by omega)
  rw [decide_eq_false g]
  refine acO qf7 ?_
  simp (disch:=omega) only [qjn,List.replicate,qbD,k1,go_sem]
  repeat' first
   |((first|apply qc|apply qb);exact rvk;simp only [go_sem];first|exact VLe.refl _|apply qd|apply qa|apply qe|skip)
   |with_reducible first|refine And.intro ?_ ?_|intro _
  all_goals try exact clz
theorem qng (s:Str) (h:List AObj) (hs:s.length≤1000000000):qm Tryz.prog 152 [.str s,.str [93]] h (.tup [.str (if qap s=true then s.take (s.length-1) else s),.bool (qap s)]) h:=by
 have c1:=fun h=>qrD s h hs
 cases g:qap s with
 |true=>
  rw [g]at c1
  have g1:1≤s.length:=by unfold qap at g;simp at g;omega
  have k2:((s.length:Int)-1).toNat=s.length-1:=by omega
  have k3:(0≤(s.length:Int)-1)=True:=eq_true (by omega)
  have k4:((s.length:Int)-1≤s.length)=True:=eq_true (by omega)
  refine acO qf6 ?_
  simp (disch:=omega) only [qjm,List.replicate,qbD,k2,k3,k4,go_sem]
  repeat' first
   |((first|refine cA (c1 _) ?_ ?_|refine cG (fun e=>c1 _) ?_ ?_|refine cU (fun _=>c1 _) ?_ ?_);(next=>exact flk);simp (disch:=omega) only [qbD,k2,k3,k4,Nat.sub_zero,go_sem])
   |((first|apply qc|apply qb);exact rvk;simp only [go_sem];first|exact VLe.refl _|apply qd|apply qa|apply qe|skip)
   |with_reducible first|refine And.intro ?_ ?_|intro _
  all_goals try exact clz
 |false=>
  rw [g]at c1
  refine acO qf6 ?_
  simp (disch:=omega) only [qjm,List.replicate,go_sem]
  repeat' first
   |((first|refine cA (c1 _) ?_ ?_|refine cG (fun e=>c1 _) ?_ ?_|refine cU (fun _=>c1 _) ?_ ?_);(next=>exact flk);simp (disch:=omega) only [go_sem])
   |((first|apply qc|apply qb);exact rvk;simp only [go_sem];first|exact VLe.refl _|apply qd|apply qa|apply qe|skip)
   |with_reducible first|refine And.intro ?_ ?_|intro _
  all_goals try exact clz
theorem qqX (s:Str) (h:List AObj) (hs:s.length≤1000000000):qm Tryz.prog 126 [.str s,.str [93]] h (.tup [.str (if qap s=true then s.take (s.length-1) else s),.bool (qap s)]) h:=by
 have c1:=fun h=>qng s h hs
 refine acO qpP ?_
 simp (disch:=omega) only [qqC,List.replicate,go_sem]
 repeat' first
  |((first|refine cA (c1 _) ?_ ?_|refine cG (fun e=>c1 _) ?_ ?_|refine cU (fun _=>c1 _) ?_ ?_);(next=>exact flk);simp (disch:=omega) only [go_sem])
  |((first|apply qc|apply qb);exact rvk;simp only [go_sem];first|exact VLe.refl _|apply qd|apply qa|apply qe|skip)
  |with_reducible first|refine And.intro ?_ ?_|intro _
 all_goals try exact clz
def qd2 (s:Str):Bool:=(List.range 64).any fun k=>decide (s=91::(Lib.itoa ((k+1:Nat):Int)++ [93]))
def qbH (s:Str):Bool:=qac s||(if s.length=1 then decide (zF (ch s 0)=5)||decide (zF (ch s 0)=4) else qd2 s)
def qmK (s:Str):Str:=if qap (if pre s=true then s.drop 1 else s)=true then (if pre s=true then s.drop 1 else s).take ((if pre s=true then s.drop 1 else s).length-1) else if pre s=true then s.drop 1 else s
def qvC (s:Str):Bool:=pre s&&qap (if pre s=true then s.drop 1 else s)&&qq1 (qmK s)&&decide (qtk (qmK s)≤64)
theorem qvD (s:Str):qvC s=qd2 s:=by
 cases g:qd2 s with
 |true=>
  unfold qd2 at g
  rw [List.any_eq_true]at g
  obtain ⟨k,hk,e⟩:=g
  have hk':k<64:=by simpa using hk
  have e:=of_decide_eq_true e
  obtain ⟨t,ht⟩: ∃t,t=Lib.itoa ((k+1:Nat):Int):=⟨_,rfl⟩
  rw [←ht]at e
  have ha:Lib.atoiAll t= .ok ((k+1:Nat):Int):=by rw [ht];exact qiv (by omega) (by omega)
  have hl:t.length≤9:=by
   rw [ht];exact qkz (by omega)
  have p1:pre s=true:=by rw [e];simp [pre]
  have p2:s.drop 1=t++ [93]:=by rw [e];rfl
  have p3:qap (t++ [93])=true:=by unfold qap;simp
  have p4:qmK s=t:=by unfold qmK;rw [if_pos p1,p2,if_pos p3];simp
  have p5:qq1 t=true:=by unfold qq1;rw [ha];simp only;rw [←ht];simp;omega
  have p6:qtk t=((k+1:Nat):Int):=by unfold qtk;rw [ha]
  unfold qvC
  rw [p4,p1,if_pos rfl,p2,p3,p5,p6]
  simp;omega
 |false=>
  cases q:qvC s with
  |false=>rfl
  |true=>
   exfalso
   unfold qvC at q
   simp only [Bool.and_eq_true,decide_eq_true_eq]at q
   obtain ⟨⟨⟨q1,q2⟩,q3⟩,q4⟩:=q
   rw [if_pos q1]at q2
   obtain ⟨m,hm⟩: ∃m,m=qmK s:=⟨_,rfl⟩
   have hm':=hm
   unfold qmK at hm'
   rw [if_pos q1,if_pos q2]at hm'
   rw [←hm]at q3 q4
   unfold qq1 at q3
   unfold qtk at q4
   cases ha:Lib.atoiAll m
   ·rename_i v
    rw [ha]at q3 q4
    simp only [Bool.and_eq_true,decide_eq_true_eq]at q3 q4
    obtain ⟨r1,r2,r3⟩:=q3
    unfold pre at q1
    unfold qap at q2
    simp only [Bool.and_eq_true,decide_eq_true_eq]at q1 q2
    have e1:s=91::s.drop 1:=by
     have:=List.take_append_drop 1 s
     rw [q1.2]at this
     exact this.symm
    have e2:s.drop 1=m++ [93]:=by
     have:=List.take_append_drop ((s.drop 1).length-1) (s.drop 1)
     rw [q2.2,←hm']at this
     exact this.symm
    have:qd2 s=true:=by
     unfold qd2
     rw [List.any_eq_true]
     refine ⟨v.toNat-1,by simp;omega,decide_eq_true ?_⟩
     rw [show ((v.toNat-1+1:Nat):Int)=v by omega,r3,←e2,←e1]
    rw [g]at this
    cases this
   ·rw [ha]at q3;cases q3
   ·rw [ha]at q3;cases q3
end RC
end
section
open Go Go.Proofs AF HY LN
namespace RC
set_option maxHeartbeats 4000000
theorem qzg (s:Str) (h:List AObj) (hs:s.length≤1000000000) (hp:ku SG h):qm Tryz.prog 160 [.str s] h (.bool (qbH s)) h:=by
 have c167:=fun h=>t88 s h hs
 unfold qbH
 cases g:qac s with
 |true=>
  rw [g]at c167
  refine acO qkd ?_
  simp (disch:=omega) only [qm3,List.replicate,go_sem]
  repeat' first
   |((first|refine cA (c167 _) ?_ ?_|refine cG (fun e=>c167 _) ?_ ?_|refine cU (fun _=>c167 _) ?_ ?_);(next=>exact flk);simp (disch:=omega) only [go_sem])
   |((first|apply qc|apply qb);exact rvk;simp only [go_sem];first|exact VLe.refl _|apply qd|apply qa|apply qe|skip)
   |with_reducible first|refine And.intro ?_ ?_|intro _
  all_goals try exact clz
 |false=>
 rw [g]at c167
 rw [Bool.false_or]
 by_cases g1:s.length=1
 ·have k1:((s.length:Int)=1)=True:=eq_true (by omega)
  have k2:((0:Int)<s.length)=True:=eq_true (by omega)
  rw [if_pos g1]
  have e:(s[0]?).getD 0=ch s 0:=by simp [ch,gdqA]
  have c153:=fun h=>jI (ch s 0) h
  obtain ⟨k,hk⟩: ∃k,k=zF (ch s 0):=⟨_,rfl⟩
  rw [←hk]at c153 ⊢
  refine acO qkd ?_
  simp (disch:=omega) only [qm3,List.replicate,k1,k2,e,Int.toNat_zero,go_sem]
  repeat' first
   |((first|refine cA (c167 _) ?_ ?_|refine cG (fun e=>c167 _) ?_ ?_|refine cA (c153 _) ?_ ?_|refine cG (fun e=>c153 _) ?_ ?_|refine cU (fun _=>c167 _) ?_ ?_|refine cU (fun _=>c153 _) ?_ ?_);(next=>exact flk);simp (disch:=omega) only [k1,k2,e,Int.toNat_zero,go_sem])
   |((first|apply qc|apply qb);exact rvk;simp only [go_sem];first|exact VLe.refl _|apply qd|apply qa|apply qe|skip)
   |with_reducible first|refine And.intro ?_ ?_|intro _
  all_goals try exact clz
 ·have k1:((s.length:Int)=1)=False:=eq_false (by omega)
  rw [if_neg g1,←qvD]
  have c168:=fun h=>quj s h hs
  unfold qvC
  have hm:qmK s=if qap (if pre s=true then s.drop 1 else s)=true then (if pre s=true then s.drop 1 else s).take ((if pre s=true then s.drop 1 else s).length-1) else if pre s=true then s.drop 1 else s:=rfl
  obtain ⟨u,hu⟩: ∃u,u=if pre s=true then s.drop 1 else s:=⟨_,rfl⟩
  rw [←hu]at c168 hm ⊢
  have hul:u.length≤s.length:=by rw [hu];split<;>simp
  have c126:=fun h=>qqX u h (by omega)
  rw [←hm]at c126
  have hml:(qmK s).length≤u.length:=by rw [hm];split<;>simp
  have c169:=qAs (qmK s) h (by omega) hp
  obtain ⟨m,hmm⟩: ∃m,m=qmK s:=⟨_,rfl⟩
  rw [←hmm]at c126 c169 ⊢
  obtain ⟨a,ha⟩: ∃a,a=pre s:=⟨_,rfl⟩
  obtain ⟨b,hb⟩: ∃b,b=qap u:=⟨_,rfl⟩
  obtain ⟨c,hc⟩: ∃c,c=qq1 m:=⟨_,rfl⟩
  rw [←ha]at c168 ⊢
  rw [←hb]at c126 ⊢
  rw [←hc]at c169 ⊢
  cases a<;>cases b<;>cases c
  all_goals
   refine acO qkd ?_
   simp (disch:=omega) only [qm3,List.replicate,k1,go_sem]
   repeat' first
    |((first|refine cA (c167 _) ?_ ?_|refine cG (fun e=>c167 _) ?_ ?_|refine cA (c168 _) ?_ ?_|refine cG (fun e=>c168 _) ?_ ?_|refine cA (c126 _) ?_ ?_|refine cG (fun e=>c126 _) ?_ ?_|refine cA (c169) ?_ ?_|refine cG (fun e=>c169) ?_ ?_|refine cU (fun _=>c167 _) ?_ ?_|refine cU (fun _=>c168 _) ?_ ?_|refine cU (fun _=>c126 _) ?_ ?_);(next=>exact flk);simp (disch:=omega) only [k1,go_sem])
    |((first|apply qc|apply qb);exact rvk;simp only [go_sem];first|exact VLe.refl _|apply qd|apply qa|apply qe|skip)
    |with_reducible first|refine And.intro ?_ ?_|intro _
   all_goals try exact clz
def wE (s:Str):Int:=if qbH s=true then 0 else 11
theorem qAM (s:Str) (h:List AObj) (hs:s.length≤1000000000) (hp:ku SG h):qm Tryz.prog 145 [.agg [.str s,.str [],.int .i64 0]] h (.int .i64 (wE s)) h:=by
 have c160:=fun l=>qzg s (h++l) hs (hp.app l)
 unfold wE
 cases g:qbH s with
 |true=>
  rw [g]at c160
  refine acO qpQ ?_
  simp (disch:=omega) only [qqD,List.replicate,go_sem]
  repeat' first
   |(refine qo ( .bool false) ?_;simp (disch:=omega) only [go_sem])
   |((first|refine cA (c160 _) ?_ ?_|refine cG (fun e=>c160 _) ?_ ?_|refine cU (fun _=>c160 _) ?_ ?_);(next=>exact flk);simp (disch:=omega) only [go_sem])
   |((first|apply qc|apply qb);exact rvk;simp only [go_sem];first|exact VLe.refl _|apply qd|apply qa|apply qe|skip)
   |with_reducible first|refine And.intro ?_ ?_|intro _
  all_goals try exact clz
 |false=>
  rw [g]at c160
  refine acO qpQ ?_
  simp (disch:=omega) only [qqD,List.replicate,go_sem]
  repeat' first
   |(refine qo ( .bool false) ?_;simp (disch:=omega) only [go_sem])
   |((first|refine cA (c160 _) ?_ ?_|refine cG (fun e=>c160 _) ?_ ?_|refine cU (fun _=>c160 _) ?_ ?_);(next=>exact flk);simp (disch:=omega) only [go_sem])
   |((first|apply qc|apply qb);exact rvk;simp only [go_sem];first|exact VLe.refl _|apply qd|apply qa|apply qe|skip)
   |with_reducible first|refine And.intro ?_ ?_|intro _
  all_goals try exact clz
def jO (L:List Str):Int:=qab (fun i=>wE (L.getD i [])) 0 L.length
theorem qz7 (L:List Str) (h:List AObj) (hl:L.length≤1000000000) (hs: ∀i,(L.getD i []).length≤1000000000) (hp:ku SG h):qm Tryz.prog 116 [strs L] h (.int .i64 (jO L)) h:=by
 obtain ⟨R,hR⟩: ∃R,R=jO L:=⟨_,rfl⟩
 rw [←hR]
 unfold jO at hR
 refine acO quL ?_
 simp (disch:=omega) only [qtH,List.replicate,strs,go_sem]
 repeat' first
  |((first|apply qc|apply qb);exact rvk;simp only [go_sem];first|exact VLe.refl _|apply qd|apply qa|apply qe|skip)
  |with_reducible first|refine And.intro ?_ ?_|intro _
 all_goals try exact clz
 refine qn (T:=fun i:Nat=>qI 19 [(6,strs L),(7,.int .i64 L.length),(8,.int .i64 i)]) (H:=fun _=>h) (inv:=fun i=>i≤L.length∧ ∀j,j<i→wE (L.getD j [])=0) (m:=fun i=>L.length-i) 0 ⟨Nat.zero_le _,fun j hj=>absurd hj (Nat.not_lt_zero j)⟩ (Wk.temps ?_) ?_
 ·(simp only [strs,List.replicate,go_sem,qj,qh,qg,qi];try (repeat' first|(with_reducible refine And.intro ?_ ?_)|(apply qd;omega)|(apply qa;rfl)|exact VLe.refl _))
 rintro i ⟨i1,i2⟩ K hK
 by_cases hi:i<L.length
 ·have k1:((i:Int)<L.length)=True:=eq_true (by omega)
  have c145:=qAM (L.getD i []) h (hs i) hp
  obtain ⟨e,he⟩: ∃e,e=wE (L.getD i []):=⟨_,rfl⟩
  rw [←he]at c145
  by_cases g:e=0
  ·have q1:(e=0)=True:=eq_true g
   simp (disch:=omega) only [List.replicate,strs,k1,go_sem]
   repeat' first
    |((first|refine cA (c145) ?_ ?_|refine cG (fun e=>c145) ?_ ?_);(next=>exact flk);simp (disch:=omega) only [strs,k1,q1,go_sem])
    |((first|apply qc|apply qb);exact rvk;simp only [go_sem];first|exact VLe.refl _|apply qd|apply qa|apply qe|skip)
    |with_reducible first|refine And.intro ?_ ?_|intro _
   all_goals try exact clz
   refine hK _ _ (i+1) ⟨hi,fun j hj=> ?_⟩ (by omega) (Wk.temps ?_)
   ·by_cases e':j=i
    ·subst e';rw [←he,g]
    ·exact i2 j (by omega)
   ·(simp only [strs,List.replicate,go_sem,qj,qh,qg,qi];try (repeat' first|(with_reducible refine And.intro ?_ ?_)|(apply qd;omega)|(apply qa;rfl)|exact VLe.refl _))
  ·have q1:(e=0)=False:=eq_false g
   have hV:R=e:=by rw [hR,qP (f:=fun i=>wE (L.getD i [])) hi i2 (by rw [←he];exact g),he]
   rw [hV]
   simp (disch:=omega) only [List.replicate,strs,k1,go_sem]
   repeat' first
    |((first|refine cA (c145) ?_ ?_|refine cG (fun e=>c145) ?_ ?_);(next=>exact flk);simp (disch:=omega) only [strs,k1,q1,go_sem])
    |((first|apply qc|apply qb);exact rvk;simp only [go_sem];first|exact VLe.refl _|apply qd|apply qa|apply qe|skip)
    |with_reducible first|refine And.intro ?_ ?_|intro _
   all_goals try exact clz
 ·have k1:((i:Int)<L.length)=False:=eq_false (by omega)
  have hV:R=0:=by rw [hR,qC (f:=fun i=>wE (L.getD i [])) (fun j hj=>i2 j (by omega))]
  rw [hV]
  simp (disch:=omega) only [List.replicate,strs,k1,go_sem]
  repeat' first
   |((first|apply qc|apply qb);exact rvk;simp only [go_sem];first|exact VLe.refl _|apply qd|apply qa|apply qe|skip)
   |with_reducible first|refine And.intro ?_ ?_|intro _
  all_goals try exact clz
end RC
end
section
open Go Go.Proofs AF HY LN
namespace RC
set_option maxHeartbeats 4000000
theorem qp5 (h:List AObj):qm Tryz.prog 174 [.str []] h (.bool true) h:=by
 refine acO qu7 ?_
 simp (disch:=omega) only [qt0,List.replicate,go_sem]
 repeat' first
  |(refine qo ( .bool false) ?_;simp (disch:=omega) only [go_sem])
  |((first|apply qc|apply qb);exact rvk;simp only [go_sem];first|exact VLe.refl _|apply qd|apply qa|apply qe|skip)
  |with_reducible first|refine And.intro ?_ ?_|intro _
 all_goals try exact clz
theorem qxe (a b c:Str) (n f g:Int) (d:Str) (h:List AObj) (hf:0≤f) (hf2:f≤31) (hg:0<g):qm Tryz.prog 171 [.agg [.str a,.str b,.str c,.int .i64 n,.int .i64 f,.str d],.int .i64 g] h (.bool (decide (f/g%2=1))) h:=by
 have k1:(g=0)=False:=eq_false (by omega)
 have k2:0≤f/g:=Int.ediv_nonneg hf (by omega)
 have k3:f/g≤f:=Int.ediv_le_self _ hf
 refine acO qu5 ?_
 simp (disch:=omega) only [qtY,List.replicate,k1,go_sem]
 repeat' first
  |((first|apply qc|apply qb);exact rvk;simp only [go_sem];first|exact VLe.refl _|apply qd|apply qa|apply qe|skip)
  |with_reducible first|refine And.intro ?_ ?_|intro _
 all_goals try exact clz
theorem qAC (s:Str) (h:List AObj) (hs:s.length≤1000000000) (hp:ku SG h):qm Tryz.prog 172 [.str s] h (.bool (qd2 s)) h:=by
 refine acO qu6 ?_
 simp (disch:=omega) only [qtZ,List.replicate,go_sem]
 repeat' first
  |((first|apply qc|apply qb);exact rvk;simp only [go_sem];first|exact VLe.refl _|apply qd|apply qa|apply qe|skip)
  |with_reducible first|refine And.intro ?_ ?_|intro _
 all_goals try exact clz
 refine qn (T:=fun i:Nat=>qI 14 [(0,.str s),(3,.int .i64 ((i+1:Nat):Int))]) (H:=fun _=>h) (inv:=fun i=>i≤64∧ ∀j,j<i→s≠91::(Lib.itoa ((j+1:Nat):Int)++ [93])) (m:=fun i=>64-i) 0 ⟨Nat.zero_le _,fun j hj=>absurd hj (Nat.not_lt_zero j)⟩ (Wk.temps ?_) ?_
 ·(simp only [List.replicate,go_sem,qj,qh,qg,qi];try (repeat' first|(with_reducible refine And.intro ?_ ?_)|(apply qd;omega)|(apply qa;rfl)|exact VLe.refl _))
 rintro i ⟨i1,i2⟩ K hK
 have ec:((i+1:Nat):Int)=(i:Int)+1:=by omega
 by_cases hi:i<64
 ·have k1:((i:Int)+1≤64)=True:=eq_true (by omega)
  have c181:=t48 ((i:Int)+1) h (SG.pow hp) (by omega) (by omega)
  have hl:(Lib.itoa ((i:Int)+1)).length≤9:=by rw [←ec];exact qkz (by omega)
  obtain ⟨t,ht⟩: ∃t,t=Lib.itoa ((i:Int)+1):=⟨_,rfl⟩
  rw [←ht]at c181 hl
  by_cases g:s=91::(t++ [93])
  ·have q1:(s=91::(t++ [93]))=True:=eq_true g
   have hV:qd2 s=true:=by
    unfold qd2
    rw [List.any_eq_true]
    exact ⟨i,by simpa using hi,decide_eq_true (by rw [ec,←ht];exact g)⟩
   rw [hV]
   simp (disch:=omega) only [List.replicate,ec,k1,go_sem]
   repeat' first
    |((first|refine cA (c181) ?_ ?_|refine cG (fun e=>c181) ?_ ?_);(next=>exact flk);simp (disch:=omega) only [k1,q1,go_sem])
    |((first|apply qc|apply qb);exact rvk;simp only [go_sem];first|exact VLe.refl _|apply qd|apply qa|apply qe|skip)
    |with_reducible first|refine And.intro ?_ ?_|intro _
   all_goals try exact clz
  ·have q1:(s=91::(t++ [93]))=False:=eq_false g
   simp (disch:=omega) only [List.replicate,ec,k1,go_sem]
   repeat' first
    |((first|refine cA (c181) ?_ ?_|refine cG (fun e=>c181) ?_ ?_);(next=>exact flk);simp (disch:=omega) only [k1,q1,go_sem])
    |((first|apply qc|apply qb);exact rvk;simp only [go_sem];first|exact VLe.refl _|apply qd|apply qa|apply qe|skip)
    |with_reducible first|refine And.intro ?_ ?_|intro _
   all_goals try exact clz
   refine hK _ _ (i+1) ⟨hi,fun j hj=> ?_⟩ (by omega) (Wk.temps ?_)
   ·by_cases e':j=i
    ·subst e';rw [ec,←ht];exact g
    ·exact i2 j (by omega)
   ·(simp only [List.replicate,go_sem,qj,qh,qg,qi];try (repeat' first|(with_reducible refine And.intro ?_ ?_)|(apply qd;omega)|(apply qa;rfl)|exact VLe.refl _))
 ·have k1:((i:Int)+1≤64)=False:=eq_false (by omega)
  have hV:qd2 s=false:=by
   cases e:qd2 s with
   |false=>rfl
   |true=>
    unfold qd2 at e
    rw [List.any_eq_true]at e
    obtain ⟨j,hj,e⟩:=e
    exact absurd (of_decide_eq_true e) (i2 j (by have:j<64:=(by simpa using hj);omega))
  rw [hV]
  simp (disch:=omega) only [List.replicate,ec,k1,go_sem]
  repeat' first
   |((first|apply qc|apply qb);exact rvk;simp only [go_sem];first|exact VLe.refl _|apply qd|apply qa|apply qe|skip)
   |with_reducible first|refine And.intro ?_ ?_|intro _
  all_goals try exact clz
theorem quf (s:Str) (h:List AObj) (hs:s.length≤1000000000) (hp:ku SG h):qm Tryz.prog 163 [.agg [.str s,.str s,.str [],.int .i64 0,.int .i64 2,.str []]] h (.int .i64 (if qd2 s=true then 0 else 11)) h:=by
 have d1:decide ((2:Int)/2%2=1)=true:=rfl
 have d2:decide ((2:Int)/8%2=1)=false:=rfl
 have c1:=fun h=>qxe s s [] 0 2 2 [] h (by decide) (by decide) (by decide)
 have c2:=fun h=>qxe s s [] 0 2 8 [] h (by decide) (by decide) (by decide)
 rw [d1]at c1
 rw [d2]at c2
 have c3:=fun l=>qAC s (h++l) hs (hp.app l)
 have c4:=fun h=>qp5 h
 cases g:qd2 s with
 |true=>
  rw [g]at c3
  refine acO qcJ ?_
  simp (disch:=omega) only [qeS,List.replicate,go_sem]
  repeat' first
   |((first|refine cA (c1 _) ?_ ?_|refine cG (fun e=>c1 _) ?_ ?_|refine cA (c2 _) ?_ ?_|refine cG (fun e=>c2 _) ?_ ?_|refine cA (c3 _) ?_ ?_|refine cG (fun e=>c3 _) ?_ ?_|refine cA (c4 _) ?_ ?_|refine cG (fun e=>c4 _) ?_ ?_|refine cU (fun _=>c1 _) ?_ ?_|refine cU (fun _=>c2 _) ?_ ?_|refine cU (fun _=>c3 _) ?_ ?_|refine cU (fun _=>c4 _) ?_ ?_);(next=>exact flk);simp (disch:=omega) only [go_sem])
   |((first|apply qc|apply qb);exact rvk;simp only [go_sem];first|exact VLe.refl _|apply qd|apply qa|apply qe|skip)
   |with_reducible first|refine And.intro ?_ ?_|intro _
  all_goals try exact clz
 |false=>
  rw [g]at c3
  refine acO qcJ ?_
  simp (disch:=omega) only [qeS,List.replicate,go_sem]
  repeat' first
   |((first|refine cA (c1 _) ?_ ?_|refine cG (fun e=>c1 _) ?_ ?_|refine cA (c2 _) ?_ ?_|refine cG (fun e=>c2 _) ?_ ?_|refine cA (c3 _) ?_ ?_|refine cG (fun e=>c3 _) ?_ ?_|refine cA (c4 _) ?_ ?_|refine cG (fun e=>c4 _) ?_ ?_|refine cU (fun _=>c1 _) ?_ ?_|refine cU (fun _=>c2 _) ?_ ?_|refine cU (fun _=>c3 _) ?_ ?_|refine cU (fun _=>c4 _) ?_ ?_);(next=>exact flk);simp (disch:=omega) only [go_sem])
   |((first|apply qc|apply qb);exact rvk;simp only [go_sem];first|exact VLe.refl _|apply qd|apply qa|apply qe|skip)
   |with_reducible first|refine And.intro ?_ ?_|intro _
  all_goals try exact clz
theorem qug (s:Str) (h:List AObj) (hs:s.length≤1):qm Tryz.prog 163 [.agg [.str s,.str s,.str [],.int .i64 0,.int .i64 8,.str []]] h (.int .i64 (if s.length=1∧(zF (ch s 0)=5∨zF (ch s 0)=4) then 0 else 11)) h:=by
 have d1:decide ((8:Int)/2%2=1)=false:=rfl
 have d2:decide ((8:Int)/8%2=1)=true:=rfl
 have c1:=fun h=>qxe s s [] 0 8 2 [] h (by decide) (by decide) (by decide)
 have c2:=fun h=>qxe s s [] 0 8 8 [] h (by decide) (by decide) (by decide)
 rw [d1]at c1
 rw [d2]at c2
 have c4:=fun h=>qp5 h
 by_cases g:s.length=1
 ·have k1:((s.length:Int)=1)=True:=eq_true (by omega)
  have k2:((0:Int)<s.length)=True:=eq_true (by omega)
  have e:(s[0]?).getD 0=ch s 0:=by simp [ch,gdqA]
  have c5:=fun h=>kk (ch s 0) h
  obtain ⟨k,hk⟩: ∃k,k=zF (ch s 0):=⟨_,rfl⟩
  rw [←hk]at c5 ⊢
  by_cases g1:k=5
  ·have q1:(k=5)=True:=eq_true g1
   rw [if_pos ⟨g,.inl g1⟩]
   refine acO qcJ ?_
   simp (disch:=omega) only [qeS,List.replicate,k1,go_sem]
   repeat' first
    |(refine qo ( .int .i64 0) ?_;simp (disch:=omega) only [k1,k2,e,q1,Int.toNat_zero,go_sem])
    |((first|refine cA (c1 _) ?_ ?_|refine cG (fun e=>c1 _) ?_ ?_|refine cA (c2 _) ?_ ?_|refine cG (fun e=>c2 _) ?_ ?_|refine cA (c5 _) ?_ ?_|refine cG (fun e=>c5 _) ?_ ?_|refine cA (c4 _) ?_ ?_|refine cG (fun e=>c4 _) ?_ ?_|refine cU (fun _=>c1 _) ?_ ?_|refine cU (fun _=>c2 _) ?_ ?_|refine cU (fun _=>c5 _) ?_ ?_|refine cU (fun _=>c4 _) ?_ ?_);(next=>exact flk);simp (disch:=omega) only [k1,k2,e,q1,Int.toNat_zero,go_sem])
    |((first|apply qc|apply qb);exact rvk;simp only [go_sem];first|exact VLe.refl _|apply qd|apply qa|apply qe|skip)
    |with_reducible first|refine And.intro ?_ ?_|intro _
   all_goals try exact clz
  ·have q1:(k=5)=False:=eq_false g1
   by_cases g2:k=4
   ·have q2:(k=4)=True:=eq_true g2
    rw [if_pos ⟨g,.inr g2⟩]
    refine acO qcJ ?_
    simp (disch:=omega) only [qeS,List.replicate,k1,go_sem]
    repeat' first
     |((first|refine cA (c1 _) ?_ ?_|refine cG (fun e=>c1 _) ?_ ?_|refine cA (c2 _) ?_ ?_|refine cG (fun e=>c2 _) ?_ ?_|refine cA (c5 _) ?_ ?_|refine cG (fun e=>c5 _) ?_ ?_|refine cA (c4 _) ?_ ?_|refine cG (fun e=>c4 _) ?_ ?_|refine cU (fun _=>c1 _) ?_ ?_|refine cU (fun _=>c2 _) ?_ ?_|refine cU (fun _=>c5 _) ?_ ?_|refine cU (fun _=>c4 _) ?_ ?_);(next=>exact flk);simp (disch:=omega) only [k1,k2,e,q1,q2,Int.toNat_zero,go_sem])
     |((first|apply qc|apply qb);exact rvk;simp only [go_sem];first|exact VLe.refl _|apply qd|apply qa|apply qe|skip)
     |with_reducible first|refine And.intro ?_ ?_|intro _
    all_goals try exact clz
   ·have q2:(k=4)=False:=eq_false g2
    rw [if_neg (by rintro ⟨_,h|h⟩<;>contradiction)]
    refine acO qcJ ?_
    simp (disch:=omega) only [qeS,List.replicate,k1,go_sem]
    repeat' first
     |((first|refine cA (c1 _) ?_ ?_|refine cG (fun e=>c1 _) ?_ ?_|refine cA (c2 _) ?_ ?_|refine cG (fun e=>c2 _) ?_ ?_|refine cA (c5 _) ?_ ?_|refine cG (fun e=>c5 _) ?_ ?_|refine cA (c4 _) ?_ ?_|refine cG (fun e=>c4 _) ?_ ?_|refine cU (fun _=>c1 _) ?_ ?_|refine cU (fun _=>c2 _) ?_ ?_|refine cU (fun _=>c5 _) ?_ ?_|refine cU (fun _=>c4 _) ?_ ?_);(next=>exact flk);simp (disch:=omega) only [k1,k2,e,q1,q2,Int.toNat_zero,go_sem])
     |((first|apply qc|apply qb);exact rvk;simp only [go_sem];first|exact VLe.refl _|apply qd|apply qa|apply qe|skip)
     |with_reducible first|refine And.intro ?_ ?_|intro _
    all_goals try exact clz
 ·have k1:((s.length:Int)=1)=False:=eq_false (by omega)
  rw [if_neg (fun hc=>g hc.1)]
  refine acO qcJ ?_
  simp (disch:=omega) only [qeS,List.replicate,k1,go_sem]
  repeat' first
   |(refine qo ( .int .i64 0) ?_;simp (disch:=omega) only [k1,go_sem])
   |((first|refine cA (c1 _) ?_ ?_|refine cG (fun e=>c1 _) ?_ ?_|refine cA (c2 _) ?_ ?_|refine cG (fun e=>c2 _) ?_ ?_|refine cA (c4 _) ?_ ?_|refine cG (fun e=>c4 _) ?_ ?_|refine cU (fun _=>c1 _) ?_ ?_|refine cU (fun _=>c2 _) ?_ ?_|refine cU (fun _=>c4 _) ?_ ?_);(next=>exact flk);simp (disch:=omega) only [k1,go_sem])
   |((first|apply qc|apply qb);exact rvk;simp only [go_sem];first|exact VLe.refl _|apply qd|apply qa|apply qe|skip)
   |with_reducible first|refine And.intro ?_ ?_|intro _
  all_goals try exact clz
theorem qzh (s:Str) (h:List AObj) (hs:s.length≤1000000000) (hp:ku SG h):qm Tryz.prog 151 [.str s] h (.bool (qbH s)) h:=by
 have c1:=fun h=>t93 s h hs
 unfold qbH
 cases g:qac s with
 |true=>
  rw [g]at c1
  refine acO qdZ ?_
  simp (disch:=omega) only [qgP,List.replicate,go_sem]
  repeat' first
   |((first|refine cA (c1 _) ?_ ?_|refine cG (fun e=>c1 _) ?_ ?_|refine cU (fun _=>c1 _) ?_ ?_);(next=>exact flk);simp (disch:=omega) only [go_sem])
   |((first|apply qc|apply qb);exact rvk;simp only [go_sem];first|exact VLe.refl _|apply qd|apply qa|apply qe|skip)
   |with_reducible first|refine And.intro ?_ ?_|intro _
  all_goals try exact clz
 |false=>
 rw [g]at c1
 rw [Bool.false_or]
 by_cases g1:1<s.length
 ·have k1:((1:Int)<s.length)=True:=eq_true (by omega)
  rw [if_neg (by omega)]
  have c2:=quf s h hs hp
  cases g2:qd2 s with
  |true=>
   rw [g2]at c2
   refine acO qdZ ?_
   simp (disch:=omega) only [qgP,List.replicate,k1,go_sem]
   repeat' first
    |((first|refine cA (c1 _) ?_ ?_|refine cG (fun e=>c1 _) ?_ ?_|refine cA (c2) ?_ ?_|refine cG (fun e=>c2) ?_ ?_|refine cU (fun _=>c1 _) ?_ ?_);(next=>exact flk);simp (disch:=omega) only [k1,go_sem])
    |((first|apply qc|apply qb);exact rvk;simp only [go_sem];first|exact VLe.refl _|apply qd|apply qa|apply qe|skip)
    |with_reducible first|refine And.intro ?_ ?_|intro _
   all_goals try exact clz
  |false=>
   rw [g2]at c2
   refine acO qdZ ?_
   simp (disch:=omega) only [qgP,List.replicate,k1,go_sem]
   repeat' first
    |((first|refine cA (c1 _) ?_ ?_|refine cG (fun e=>c1 _) ?_ ?_|refine cA (c2) ?_ ?_|refine cG (fun e=>c2) ?_ ?_|refine cU (fun _=>c1 _) ?_ ?_);(next=>exact flk);simp (disch:=omega) only [k1,go_sem])
    |((first|apply qc|apply qb);exact rvk;simp only [go_sem];first|exact VLe.refl _|apply qd|apply qa|apply qe|skip)
    |with_reducible first|refine And.intro ?_ ?_|intro _
   all_goals try exact clz
 ·have k1:((1:Int)<s.length)=False:=eq_false (by omega)
  have c2:=qug s h (by omega)
  by_cases g2:s.length=1∧(zF (ch s 0)=5∨zF (ch s 0)=4)
  ·rw [if_pos g2]at c2
   rw [if_pos g2.1,show (decide (zF (ch s 0)=5)||decide (zF (ch s 0)=4))=true by simpa using g2.2]
   refine acO qdZ ?_
   simp (disch:=omega) only [qgP,List.replicate,k1,go_sem]
   repeat' first
    |((first|refine cA (c1 _) ?_ ?_|refine cG (fun e=>c1 _) ?_ ?_|refine cA (c2) ?_ ?_|refine cG (fun e=>c2) ?_ ?_|refine cU (fun _=>c1 _) ?_ ?_);(next=>exact flk);simp (disch:=omega) only [k1,go_sem])
    |((first|apply qc|apply qb);exact rvk;simp only [go_sem];first|exact VLe.refl _|apply qd|apply qa|apply qe|skip)
    |with_reducible first|refine And.intro ?_ ?_|intro _
   all_goals try exact clz
  ·rw [if_neg g2]at c2
   have hV:(if s.length=1 then decide (zF (ch s 0)=5)||decide (zF (ch s 0)=4) else qd2 s)=false:=by
    by_cases g3:s.length=1
    ·rw [if_pos g3]
     simp only [Bool.or_eq_false_iff,decide_eq_false_iff_not]
     exact ⟨fun hc=>g2 ⟨g3,.inl hc⟩,fun hc=>g2 ⟨g3,.inr hc⟩⟩
    ·rw [if_neg g3]
     have:s= []:=List.eq_nil_of_length_eq_zero (by omega)
     subst this
     unfold qd2
     rw [List.any_eq_false]
     intro k _
     simp
   rw [hV]
   refine acO qdZ ?_
   simp (disch:=omega) only [qgP,List.replicate,k1,go_sem]
   repeat' first
    |((first|refine cA (c1 _) ?_ ?_|refine cG (fun e=>c1 _) ?_ ?_|refine cA (c2) ?_ ?_|refine cG (fun e=>c2) ?_ ?_|refine cU (fun _=>c1 _) ?_ ?_);(next=>exact flk);simp (disch:=omega) only [k1,go_sem])
    |((first|apply qc|apply qb);exact rvk;simp only [go_sem];first|exact VLe.refl _|apply qd|apply qa|apply qe|skip)
    |with_reducible first|refine And.intro ?_ ?_|intro _
   all_goals try exact clz
theorem qAN (s:Str) (h:List AObj) (hs:s.length≤1000000000) (hp:ku SG h):qm Tryz.prog 125 [.agg [.str s,.str [],.int .i64 0]] h (.int .i64 (wE s)) h:=by
 have c1:=fun l=>qzh s (h++l) hs (hp.app l)
 unfold wE
 cases g:qbH s with
 |true=>
  rw [g]at c1
  refine acO qpO ?_
  simp (disch:=omega) only [qqB,List.replicate,go_sem]
  repeat' first
   |(refine qo ( .bool false) ?_;simp (disch:=omega) only [go_sem])
   |((first|refine cA (c1 _) ?_ ?_|refine cG (fun e=>c1 _) ?_ ?_|refine cU (fun _=>c1 _) ?_ ?_);(next=>exact flk);simp (disch:=omega) only [go_sem])
   |((first|apply qc|apply qb);exact rvk;simp only [go_sem];first|exact VLe.refl _|apply qd|apply qa|apply qe|skip)
   |with_reducible first|refine And.intro ?_ ?_|intro _
  all_goals try exact clz
 |false=>
  rw [g]at c1
  refine acO qpO ?_
  simp (disch:=omega) only [qqB,List.replicate,go_sem]
  repeat' first
   |(refine qo ( .bool false) ?_;simp (disch:=omega) only [go_sem])
   |((first|refine cA (c1 _) ?_ ?_|refine cG (fun e=>c1 _) ?_ ?_|refine cU (fun _=>c1 _) ?_ ?_);(next=>exact flk);simp (disch:=omega) only [go_sem])
   |((first|apply qc|apply qb);exact rvk;simp only [go_sem];first|exact VLe.refl _|apply qd|apply qa|apply qe|skip)
   |with_reducible first|refine And.intro ?_ ?_|intro _
  all_goals try exact clz
theorem qql (s:Str) (h:List AObj) (hs:s.length≤1000000000) (hp:ku SG h):qm Tryz.prog 84 [.str s] h (.bool (qbH s)) h:=by
 have c1:=qAN s h hs hp
 unfold wE at c1
 cases g:qbH s with
 |true=>
  rw [g]at c1
  refine acO qvy ?_
  simp (disch:=omega) only [qxJ,List.replicate,go_sem]
  repeat' first
   |((first|refine cA (c1) ?_ ?_|refine cG (fun e=>c1) ?_ ?_);(next=>exact flk);simp (disch:=omega) only [go_sem])
   |((first|apply qc|apply qb);exact rvk;simp only [go_sem];first|exact VLe.refl _|apply qd|apply qa|apply qe|skip)
   |with_reducible first|refine And.intro ?_ ?_|intro _
  all_goals try exact clz
 |false=>
  rw [g]at c1
  refine acO qvy ?_
  simp (disch:=omega) only [qxJ,List.replicate,go_sem]
  repeat' first
   |((first|refine cA (c1) ?_ ?_|refine cG (fun e=>c1) ?_ ?_);(next=>exact flk);simp (disch:=omega) only [go_sem])
   |((first|apply qc|apply qb);exact rvk;simp only [go_sem];first|exact VLe.refl _|apply qd|apply qa|apply qe|skip)
   |with_reducible first|refine And.intro ?_ ?_|intro _
  all_goals try exact clz
end RC
end
section
open Go Go.Proofs AF HY LN
namespace RC
set_option maxHeartbeats 4000000
theorem gt1 (n:Int) (h:List AObj):qm Tryz.prog 129 [.int .i64 n] h (.bool (decide (1<n))) h:=by
 refine acO quT ?_
 simp (disch:=omega) only [qtN,List.replicate,go_sem]
 repeat' first
  |((first|apply qc|apply qb);exact rvk;simp only [go_sem];first|exact VLe.refl _|apply qd|apply qa|apply qe|skip)
  |with_reducible first|refine And.intro ?_ ?_|intro _
 all_goals try exact clz
theorem qxP (cs:List Int) (h:List AObj) (hl:cs.length≤1000000):qm Tryz.prog 128 [ql cs,.fn (.func 129) [] []] h (.bool (zS (fun i=>decide (1<cs.getD i 0)) cs.length)) h:=
 qqR quS ⟨rfl,rfl⟩ ⟨rfl,rfl⟩ (qe9 qu1 cs.length (fun i=> [.int .i64 (cs.getD i 0)]) (fun i=> .int .i64 (cs.getD i 0)) _ [] [] _ h (fun i _=>⟨rfl,by simp [jv],rfl,rfl,rfl⟩) (fun i _=>gt1 _ _) (by omega))
open Go.Shelf Go.RowKit in
theorem qnb (cs:List Int) (w:World) (b:Nat) (hl:cs.length=32) (hb:b<w.heap.size) (hc: ∀i,i<32→w.cell? ⟨b,i,none⟩=some (.int .i64 (cs.getD i 0))):
  Calls Tryz.prog 128 #[.slice (some ⟨b,0,none⟩) 32 32,.func (.func 129) #[] #[]] w fun e w'=>e= .returned (.bool (zS (fun i=>decide (1<cs.getD i 0)) cs.length))∧Below w.heap.size w w':=by
 have H0:HR w [] []:=⟨rfl,by simp,by simp,by simp⟩
 have h0: ∀b,¬own [] b:=fun b ⟨k,o,h1,_⟩=>by simp at h1
 have hI:ql cs= .sl 32 (fun i=> [.int .i64 (cs.getD i 0)]):=by unfold ql;rw [hl]
 have h3:=qxP cs [] (by omega)
 rw [hI]at h3
 have h3:=h3.2 w [] [.slice (some ⟨b,0,none⟩) 32 32,.func (.func 129) #[] #[]] H0 ⟨rfl,fun i c x hc' hx=>by
  match i with
  |0=>
   simp at hc' hx
   subst hc' hx
   refine .imm (.sl 1 b 0 32 (fun i j=> .int .i64 (cs.getD i 0)) (Nat.le_refl _) (by decide) (fun _=>h0 b) hb (fun i _=>rfl) (fun i j hi hj=> ?_) (fun i j _ _=>rfl) (fun i j c hi hj=> ?_))
   ·have:j=0:=by omega
    subst this
    simpa using hc i (by omega)
   ·match j with
    |0=>simp at hj;subst hj;exact .int
    |j+1=>simp at hj
  |1=>
   simp at hc' hx
   subst hc' hx
   exact .imm (.fn rfl rfl (by simp) (by simp))
  |i+2=>simp at hc'⟩
 refine (callsIn_wide.1 h3).mono ?_
 rintro e w' ⟨v,σ',rfl,g1,g2,g3⟩
 obtain rfl:=zH g2
 exact ⟨rfl,⟨g3.os,g3.tape,g3.output,g3.size,fun k hk=>g3.keep k hk (h0 k)⟩⟩
open Go.Shelf Go.RowKit in
theorem qph (cs:List Int) (w:World) (hl:cs.length=32):
  Calls Tryz.prog 94 #[.agg (cs.map fun n=>Value.int .i64 n).toArray] w fun e w'=>e= .returned (.bool (zS (fun i=>decide (1<cs.getD i 0)) cs.length))∧Below w.heap.size w w':=by
 go_enter Tryz.func94,Tryz.ntmps94
 go_wp2_with (go_at_fn 128)
 have hh: ∀o:Obj,(w.alloc o).heap[w.heap.size]? =some o:=fun o=>by
  show (w.heap.push o)[w.heap.size]? =some o
  simp
 refine (qnb cs _ _ hl ?_ ?_).mono ?_
 ·show w.heap.size<(w.heap.push _).size
  simp
 ·intro i hi
  simp only [World.cell?,hh]
  simp [gdqA,hl,hi]
 ·rintro e w' ⟨rfl,hb⟩
  simp only
  go_wp2
  go_ret
  exact ⟨rfl,((Below.refl _ _).alloc (Nat.le_refl _) _).trans (hb.mono (by show w.heap.size≤(w.heap.push _).size;simp))⟩
theorem twP (cs:List Int) (h:List AObj) (hl:cs.length=32):qm Tryz.prog 94 [.agg (cs.map fun n=>AV.int .i64 n)] h (.bool (zS (fun i=>decide (1<cs.getD i 0)) cs.length)) h:=by
 refine ⟨qtn Tryz.func94 (by kernel_rfl) (by kernel_rfl),fun w σ xs H hv=> ?_⟩
 obtain ⟨x,rfl,hx⟩:=hv.one
 obtain ⟨vs,rfl,hvl,_,hvv⟩:=qaR hx
 have e:vs=(cs.map fun n=>Value.int .i64 n).toArray:=by
  apply Array.ext
  ·simpa using hvl
  ·intro i h1 h2
   have hi:i<cs.length:=by simpa using h2
   have:=hvv i (.int .i64 cs[i]) vs[i] (by simp [hi]) (by simp [h1])
   rw [za this]
   simp
 subst e
 refine (callsIn_wide.2 (qph cs w hl)).mono ?_
 rintro e w' ⟨rfl,hb⟩
 obtain ⟨g1,g2⟩:=Ext.ofBelow H hb
 exact ⟨_,σ,rfl,g1,.imm .bool,g2⟩
end RC
end
section
open Go Go.Proofs AF HY LN
namespace RC
set_option maxHeartbeats 4000000
def qb1 (C L:List Int):List Int:=L.foldl (fun C n=>C.set n.toNat (C.getD n.toNat 0+1)) C
theorem qbK (L:List Int): ∀C:List Int,(qb1 C L).length=C.length:=by
 induction L with
 |nil=>intro C;rfl
 |cons n L ih=>intro C;show (qb1 (C.set _ _) L).length=_;rw [ih];simp
theorem qdO {C L:List Int} {i:Nat} (hi:i<L.length):qb1 C (L.take (i+1))=(qb1 C (L.take i)).set (L.getD i 0).toNat ((qb1 C (L.take i)).getD (L.getD i 0).toNat 0+1):=by
 unfold qb1
 rw [List.take_add_one,qR hi,List.foldl_append,gdqA,qR hi]
 rfl
theorem qku {C:List Int} {n:Nat} (x:Int) (h:n<C.length):List.take n (qp C)++ [AV.int .i64 x]++List.drop (n+1) (qp C)=qp (C.set n x):=by
 unfold qp
 rw [←List.map_take,←List.map_drop,List.set_eq_take_append_cons_drop,if_pos h]
 simp
theorem qkt {C:List Int} {n:Nat} (h:n<C.length):(qp C)[n]? =some (.int .i64 (C.getD n 0)):=by
 unfold qp
 rw [List.getElem?_map,qR h,gdqA,qR h]
 rfl
theorem qkE {L:List Int} {n:Nat} {c:AV} (h:c∈qp L):zE n c=true:=by
 unfold qp at h
 obtain ⟨x,_,rfl⟩:=List.mem_map.1 h
 rfl
theorem qda {names:List Str} {gs:List Gr} {sg:List Str}:inB names.length (zg names gs sg)∧ ∀i,0<i→i<(zg names gs sg).length→(zg names gs sg).getD (i-1) 0<(zg names gs sg).getD i 0:=by
 unfold zg
 split
 ·rename_i h
  have h':=h
  unfold ji at h'
  split at h'
  ·cases h'
  rename_i h1
  have hok:=qbx (by simpa using h1)
  have hz:=kg.1 h'
  obtain ⟨m1,m2⟩:=qcX hok hz
  have hsort:(qY (qdG names gs sg sg.length).testBit 64).Pairwise (· < ·):=by
   unfold qY
   rw [List.pairwise_map]
   exact (List.pairwise_lt_range.filter _).imp (fun h=>Int.ofNat_lt.2 h)
  have hmem: ∀n∈qY (qdG names gs sg sg.length).testBit 64,0≤n∧n<names.length:=by
   intro n hn
   unfold qY at hn
   obtain ⟨k,hk,rfl⟩:=List.mem_map.1 hn
   have hk2:=(List.mem_filter.1 hk).2
   rw [m2 k]at hk2
   obtain ⟨j,hj,hm⟩:=of_decide_eq_true hk2
   have hf: ¬(nIx names (sg.getD j [])<0∧gIx gs (sg.getD j [])<0):=by
    intro hc
    have:=hz j hj
    unfold qao at this
    rw [if_pos hc]at this
    cases this
   exact zI (qe2 hok hf) _ hm
  refine ⟨fun i hi=> ?_,fun i h0 hi=> ?_⟩
  ·rw [gdqA,qR hi]
   exact hmem _ (List.getElem_mem hi)
  ·rw [gdqA,gdqA,qR hi,qR (show i-1<_ by omega)]
   exact List.pairwise_iff_getElem.1 hsort (i-1) i (by omega) hi (by omega)
 ·exact ⟨fun i hi=>absurd hi (Nat.not_lt_zero i),fun i _ hi=>absurd hi (Nat.not_lt_zero i)⟩
theorem qf4 {names:List Str} {gs:List Gr} {sg:List Str}:inB 32 (zg names gs sg):=by
 by_cases h:ji names gs sg=0
 ·have h':=h
  unfold ji at h'
  split at h'
  ·cases h'
  rename_i h1
  have hok:=qbx (by simpa using h1)
  exact qdc qda.1 (by have:=hok.n32;omega)
 ·have:zg names gs sg= []:=by unfold zg;rw [if_neg h]
  rw [this]
  exact fun i hi=>absurd hi (Nat.not_lt_zero i)
theorem qbN {names:List Str} {gs:List Gr} {sg:List Str}:(zg names gs sg).length≤64:=by
 unfold zg
 split
 ·exact qS _ _
 ·simp
theorem qc3 {C L:List Int} {B:Int} (hc: ∀i,0≤C.getD i 0∧C.getD i 0≤B): ∀(i:Nat),i≤L.length→ ∀j,0≤(qb1 C (L.take i)).getD j 0∧(qb1 C (L.take i)).getD j 0≤B+i:=by
 intro i
 induction i with
 |zero=>intro _ j;simpa [qb1] using hc j
 |succ i ih=>
  intro hi j
  rw [qdO (by omega)]
  have h1:=ih (by omega) j
  have h2:=ih (by omega) (L.getD i 0).toNat
  rw [gdqA,List.getElem?_set]
  split
  ·rename_i e1
   split
   ·simp only [Option.getD_some];omega
   ·simp;omega
  ·rw [←gdqA];omega
theorem qxS (names:List Str) (gs:List Gr) (sg:List Str) (C:List Int) (k v:Nat) (ty:TypeId) (h:List AObj) (hz:Szs names gs) (hs:sg.length≤1000000000) (hk:qA k h=some (.mem v ty (qp C))) (hC:C.length=32) (B:Int) (hB0:B≤1000000000000000000) (hc: ∀i,0≤C.getD i 0∧C.getD i 0≤B):
  qm Tryz.prog 93 [strs names,qu gs,strs sg,.op k v 0] h (.int .i64 (ji names gs sg)) (qE k h (.mem v ty (qp (qb1 C (zg names gs sg))))):=by
 have c62:=fun h=>qx0 names gs sg h hz hs
 have hB:= @qf4 names gs sg
 have hL:= @qbN names gs sg
 obtain ⟨L,hLx⟩: ∃L,L=zg names gs sg:=⟨_,rfl⟩
 rw [←hLx]at c62 hB hL ⊢
 obtain ⟨e,he⟩: ∃e,e=ji names gs sg:=⟨_,rfl⟩
 rw [←he]at c62 ⊢
 have hkl:=zN hk
 have bnd:=qc3 (L:=L) hc
 refine acO qyw ?_
 simp (disch:=omega) only [qzJ,List.replicate,go_sem]
 repeat' first
  |((first|refine cA (c62 _) ?_ ?_|refine cG (fun e=>c62 _) ?_ ?_|refine cU (fun _=>c62 _) ?_ ?_);(next=>exact flk);simp (disch:=omega) only [ql,go_sem])
  |((first|apply qc|apply qb);exact rvk;simp only [go_sem];first|exact VLe.refl _|apply qd|apply qa|apply qe|skip)
  |with_reducible first|refine And.intro ?_ ?_|intro _
 all_goals try exact clz
 refine qn (T:=fun i:Nat=>qI 36 [(3,.op k v 0),(10,.int .i64 e),(20,ql L),(21,.int .i64 L.length),(22,.int .i64 i)]) (H:=fun i=>qE k h (.mem v ty (qp (qb1 C (L.take i))))) (inv:=fun i=>i≤L.length) (m:=fun i=>L.length-i) 0 (Nat.zero_le _) ?_ ?_
 ·have e0:qE k h (.mem v ty (qp (qb1 C (L.take 0))))=h:=qet hk
  rw [e0]
  refine Wk.temps ?_
  (simp only [ql,List.replicate,go_sem,qj,qh,qg,qi];try (repeat' first|(with_reducible refine And.intro ?_ ?_)|(apply qd;omega)|(apply qa;rfl)|exact VLe.refl _))
 rintro i i1 K hK
 have hl:=qbK (L.take i) C
 rw [hC]at hl
 have bn:=bnd i i1
 have hst:= @qdO C L i
 obtain ⟨D,hD⟩: ∃D,D=qb1 C (L.take i):=⟨_,rfl⟩
 have eD:=hD.symm
 rw [eD]at hl bn hst
 have f1:cellsOf (qE k h (.mem v ty (qp D))) k v=some (qp D):=zJ (jc hkl)
 have f2:=jc (o:= .mem v ty (qp D)) hkl
 have f3: ∀o',qE k (qE k h (.mem v ty (qp D))) o'=qE k h o':=fun _=>qeu
 by_cases hi:i<L.length
 ·have k1:((i:Int)<L.length)=True:=eq_true (by omega)
  have hv:=hB i hi
  have hst:=hst hi
  obtain ⟨n,hn⟩: ∃n,n=L.getD i 0:=⟨_,rfl⟩
  have en:=hn.symm
  rw [en]at hv hst
  obtain ⟨u,rfl⟩: ∃u:Nat,n=(u:Int):=⟨n.toNat,by omega⟩
  rw [Int.toNat_natCast]at hst
  have hu:u<D.length:=by omega
  have k2:(0≤(u:Int))=True:=eq_true (by omega)
  have k3:((u:Int)<32)=True:=eq_true (by omega)
  have k4:(u<D.length)=True:=eq_true hu
  have k5:(u+1≤D.length)=True:=eq_true hu
  have g1:=qkt hu
  have g2:=qku (D.getD u 0+1) hu
  have g3:=qw D
  have b1:=bn u
  have b2:(D.getD u 0+1≤9223372036854775807)=True:=eq_true (by omega)
  have b3:(-9223372036854775808≤D.getD u 0+1)=True:=eq_true (by omega)
  simp (disch:=omega) only [List.replicate,ql,k1,k2,k3,k4,k5,en,eD,f1,f2,f3,g1,g2,g3,Nat.mul_one,Nat.zero_add,Option.getD_some,Option.isSome_some,go_sem]
  repeat' first
   |((first|apply qc|apply qb);exact rvk;simp only [go_sem];first|exact VLe.refl _|apply qd|apply qa|apply qe|skip)
   |with_reducible first|refine And.intro ?_ ?_|intro _
  all_goals try exact clz
  rw [←hst]
  refine hK _ _ (i+1) hi (by omega) (Wk.temps ?_)
  (simp only [ql,List.replicate,go_sem,qj,qh,qg,qi];try (repeat' first|(with_reducible refine And.intro ?_ ?_)|(apply qd;omega)|(apply qa;rfl)|exact VLe.refl _))
 ·have k1:((i:Int)<L.length)=False:=eq_false (by omega)
  have e':i=L.length:=by omega
  subst e'
  rw [List.take_length]at hD
  rw [List.take_length,←hD]
  simp (disch:=omega) only [List.replicate,ql,k1,go_sem]
  repeat' first
   |with_reducible first|refine And.intro ?_ ?_|intro _
  refine qf9 ⟨trivial,trivial⟩ qV (fun o ho=> ?_) ⟨rfl,rfl⟩ (VLe.refl _)
  rcases qaJ ho with h1|rfl
  ·exact .inl h1
  ·exact .inr (fun c hc=>qkE hc)
end RC
end
