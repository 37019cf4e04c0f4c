import Derived.Test.YtgoandblgcjleaaGreatDoorK12
import Derived.Test.YtgoandblgcjleaaGreatDoorK3
import Derived.Test.YtgoandblgcjleaaGreatDoorK5
import Derived.Test.YtgoandblgcjleaaGreatDoorK8
import Derived.Test.YtgoandblgcjleaaGreatDoorProg
import Derived.Test.YtgoandblgcjleaaGreatDoorK11
import Derived.Test.YtgoandblgcjleaaGreatDoorK10
set_option linter.all false
set_option linter.unusedSimpArgs false
set_option linter.unusedVariables false
set_option linter.unusedSectionVars false
set_option maxHeartbeats 64000000
set_option maxRecDepth 100000
section
open Go Go.Proofs AF HY LN
namespace RC
theorem tkP (t:Tk) (h:List AObj) (hz:qrE t) (hp:kY SG h):ACalls Tryz.prog 207 [.agg (tkC t)] h (.int .i64 (tkE t)) h:=by
 obtain ⟨R,hR⟩: ∃R,R=tkE t:=⟨_,rfl⟩
 rw [←hR]
 unfold tkE at hR
 by_cases g1:t.flags<0
 ·have k1:(t.flags<0)=True:=eq_true g1
  rw [if_pos (.inl g1)]at hR
  rw [hR]
  refine acO ja ?_
  simp (disch:=omega) only [jY,tkC,go_sem]
  repeat' first
   |((first|apply qd|apply qb);exact rvk;simp only [go_sem];first|exact ql|apply qe|apply qa|apply qf|skip)
   |with_reducible first|intro _|apply aiA
  all_goals try exact clz
 have k1:(t.flags<0)=False:=eq_false g1
 by_cases g2:31<t.flags
 ·have k2:((31:Int)<t.flags)=True:=eq_true g2
  rw [if_pos (.inr g2)]at hR
  rw [hR]
  refine acO ja ?_
  simp (disch:=omega) only [jY,tkC,go_sem]
  repeat' first
   |((first|apply qd|apply qb);exact rvk;simp only [go_sem];first|exact ql|apply qe|apply qa|apply qf|skip)
   |with_reducible first|intro _|apply aiA
  all_goals try exact clz
 have k2:((31:Int)<t.flags)=False:=eq_false g2
 rw [if_neg (by omega)]at hR
 obtain ⟨f,hf⟩: ∃f:Nat,t.flags=(f:Int):=⟨t.flags.toNat,by omega⟩
 have hf2:f<32:=by omega
 have e2:=qAf f hf2
 have e8:=qAg f hf2
 have eg:qth t.flags=f.testBit 1:=by unfold qth;rw [hf,Int.toNat_natCast]
 have ek:mkB t.flags=f.testBit 3:=by unfold mkB;rw [hf,Int.toNat_natCast]
 have cI:=fun h=>qC4 t f h hf hf2
 have cP:=fun l=>qCd t.page (h++l) hz.pg
 have cM:=fun l=>qCd t.name (h++l) hz.na
 have hG:=fun l=>qCW t.text (h++l) hz.tx (hp.app l)
 have cK:=fun l=>qC9 t.text (h++l) hz.tx
 have cW:=fun l=>t88 t.text (h++l) hz.tx
 have cN:=fun l=>qBd t.norm (h++l) hz.nm
 unfold txB at hR
 rw [eg,ek]at hR cI
 obtain ⟨bp,hbp⟩: ∃b,b=qvq t.page:=⟨_,rfl⟩
 obtain ⟨bm,hbm⟩: ∃b,b=qvq t.name:=⟨_,rfl⟩
 obtain ⟨bg,hbg⟩: ∃b,b=qbv t.text:=⟨_,rfl⟩
 obtain ⟨bk,hbk⟩: ∃b,b=qyR t.text:=⟨_,rfl⟩
 obtain ⟨bw,hbw⟩: ∃b,b=qab t.text:=⟨_,rfl⟩
 obtain ⟨bn,hbn⟩: ∃b,b=qyS t.norm:=⟨_,rfl⟩
 rw [←hbp,←hbm,←hbg,←hbk,←hbw,←hbn]at hR
 simp only [←hbp]at cP
 simp only [←hbm]at cM
 simp only [←hbg]at hG
 simp only [←hbk]at cK
 simp only [←hbw]at cW
 simp only [←hbn]at cN
 unfold tkC at cI
 rw [hf]at cI k1 k2
 cases ga:f.testBit 1<;>cases gb:f.testBit 3<;>rw [ga]at e2 hR cI<;>rw [gb]at e8 hR cI<;>simp only [Bool.false_eq_true,if_true,if_false,and_true,and_false,Bool.not_false,Bool.not_true,Bool.and_false,Bool.and_true]at e2 e8 hR cI
 ·cases bw with
  |false=>
   rw [Bool.false_and,if_pos rfl]at hR
   rw [hR]
   refine acO ja ?_
   simp (disch:=omega) only [jY,tkC,hf,k1,k2,e2,e8,go_sem]
   repeat' first
    |(refine qz (cW _) ?_;simp (disch:=omega) only [tkC,hf,k1,k2,e2,e8,go_sem])
    |((first|apply qd|apply qb);exact rvk;simp only [go_sem];first|exact ql|apply qe|apply qa|apply qf|skip)
    |with_reducible first|intro _|apply aiA
   all_goals try exact clz
  |true=>
  rw [Bool.true_and]at hR
  cases bn with
  |false=>
   rw [if_pos rfl]at hR
   rw [hR]
   refine acO ja ?_
   simp (disch:=omega) only [jY,tkC,hf,k1,k2,e2,e8,go_sem]
   repeat' first
    |(refine qz (cW _) ?_;simp (disch:=omega) only [tkC,hf,k1,k2,e2,e8,go_sem])
    |((first|refine cA (cI _) ?_ ?_|refine cG (fun e=>cI _) ?_ ?_|refine cA (cN _) ?_ ?_|refine cG (fun e=>cN _) ?_ ?_|refine cU (fun _=>cI _) ?_ ?_|refine cU (fun _=>cN _) ?_ ?_);exact flk;simp (disch:=omega) only [tkC,hf,k1,k2,e2,e8,go_sem])
    |((first|apply qd|apply qb);exact rvk;simp only [go_sem];first|exact ql|apply qe|apply qa|apply qf|skip)
    |with_reducible first|intro _|apply aiA
   all_goals try exact clz
  |true=>
   rw [if_neg (by simp)]at hR
   by_cases g4:t.line<0
   ·have k4:(t.line<0)=True:=eq_true g4
    rw [if_pos g4]at hR
    rw [hR]
    refine acO ja ?_
    simp (disch:=omega) only [jY,tkC,hf,k1,k2,e2,e8,k4,go_sem]
    repeat' first
     |(refine qz (cW _) ?_;simp (disch:=omega) only [tkC,hf,k1,k2,e2,e8,k4,go_sem])
     |((first|refine cA (cI _) ?_ ?_|refine cG (fun e=>cI _) ?_ ?_|refine cA (cN _) ?_ ?_|refine cG (fun e=>cN _) ?_ ?_|refine cA (cI _) ?_ ?_|refine cG (fun e=>cI _) ?_ ?_|refine cU (fun _=>cI _) ?_ ?_|refine cU (fun _=>cN _) ?_ ?_|refine cU (fun _=>cI _) ?_ ?_);exact flk;simp (disch:=omega) only [tkC,hf,k1,k2,e2,e8,k4,go_sem])
     |((first|apply qd|apply qb);exact rvk;simp only [go_sem];first|exact ql|apply qe|apply qa|apply qf|skip)
     |with_reducible first|intro _|apply aiA
    all_goals try exact clz
   have k4:(t.line<0)=False:=eq_false g4
   rw [if_neg g4]at hR
   cases bp with
   |false=>
    rw [if_pos (.inl rfl)]at hR
    rw [hR]
    refine acO ja ?_
    simp (disch:=omega) only [jY,tkC,hf,k1,k2,e2,e8,k4,go_sem]
    repeat' first
     |(refine qz (cW _) ?_;simp (disch:=omega) only [tkC,hf,k1,k2,e2,e8,k4,go_sem])
     |(refine qn ( .bool false) ?_;simp (disch:=omega) only [tkC,hf,k1,k2,e2,e8,k4,go_sem])
     |((first|refine cA (cI _) ?_ ?_|refine cG (fun e=>cI _) ?_ ?_|refine cA (cN _) ?_ ?_|refine cG (fun e=>cN _) ?_ ?_|refine cA (cI _) ?_ ?_|refine cG (fun e=>cI _) ?_ ?_|refine cA (cP _) ?_ ?_|refine cG (fun e=>cP _) ?_ ?_|refine cU (fun _=>cI _) ?_ ?_|refine cU (fun _=>cN _) ?_ ?_|refine cU (fun _=>cI _) ?_ ?_|refine cU (fun _=>cP _) ?_ ?_);exact flk;simp (disch:=omega) only [tkC,hf,k1,k2,e2,e8,k4,go_sem])
     |((first|apply qd|apply qb);exact rvk;simp only [go_sem];first|exact ql|apply qe|apply qa|apply qf|skip)
     |with_reducible first|intro _|apply aiA
    all_goals try exact clz
   |true=>
   cases bm with
   |false=>
    rw [if_pos (.inr rfl)]at hR
    rw [hR]
    refine acO ja ?_
    simp (disch:=omega) only [jY,tkC,hf,k1,k2,e2,e8,k4,go_sem]
    repeat' first
     |(refine qz (cW _) ?_;simp (disch:=omega) only [tkC,hf,k1,k2,e2,e8,k4,go_sem])
     |((first|refine cA (cI _) ?_ ?_|refine cG (fun e=>cI _) ?_ ?_|refine cA (cN _) ?_ ?_|refine cG (fun e=>cN _) ?_ ?_|refine cA (cI _) ?_ ?_|refine cG (fun e=>cI _) ?_ ?_|refine cA (cP _) ?_ ?_|refine cG (fun e=>cP _) ?_ ?_|refine cA (cM _) ?_ ?_|refine cG (fun e=>cM _) ?_ ?_|refine cU (fun _=>cI _) ?_ ?_|refine cU (fun _=>cN _) ?_ ?_|refine cU (fun _=>cI _) ?_ ?_|refine cU (fun _=>cP _) ?_ ?_|refine cU (fun _=>cM _) ?_ ?_);exact flk;simp (disch:=omega) only [tkC,hf,k1,k2,e2,e8,k4,go_sem])
     |((first|apply qd|apply qb);exact rvk;simp only [go_sem];first|exact ql|apply qe|apply qa|apply qf|skip)
     |with_reducible first|intro _|apply aiA
    all_goals try exact clz
   |true=>
    rw [if_neg (by simp)]at hR
    rw [hR]
    refine acO ja ?_
    simp (disch:=omega) only [jY,tkC,hf,k1,k2,e2,e8,k4,go_sem]
    repeat' first
     |(refine qz (cW _) ?_;simp (disch:=omega) only [tkC,hf,k1,k2,e2,e8,k4,go_sem])
     |((first|refine cA (cI _) ?_ ?_|refine cG (fun e=>cI _) ?_ ?_|refine cA (cN _) ?_ ?_|refine cG (fun e=>cN _) ?_ ?_|refine cA (cI _) ?_ ?_|refine cG (fun e=>cI _) ?_ ?_|refine cA (cP _) ?_ ?_|refine cG (fun e=>cP _) ?_ ?_|refine cA (cM _) ?_ ?_|refine cG (fun e=>cM _) ?_ ?_|refine cU (fun _=>cI _) ?_ ?_|refine cU (fun _=>cN _) ?_ ?_|refine cU (fun _=>cI _) ?_ ?_|refine cU (fun _=>cP _) ?_ ?_|refine cU (fun _=>cM _) ?_ ?_);exact flk;simp (disch:=omega) only [tkC,hf,k1,k2,e2,e8,k4,go_sem])
     |((first|apply qd|apply qb);exact rvk;simp only [go_sem];first|exact ql|apply qe|apply qa|apply qf|skip)
     |with_reducible first|intro _|apply aiA
    all_goals try exact clz
 ·cases bk with
  |false=>
   rw [Bool.false_and,if_pos rfl]at hR
   rw [hR]
   refine acO ja ?_
   simp (disch:=omega) only [jY,tkC,hf,k1,k2,e2,e8,go_sem]
   repeat' first
    |(refine qz (cK _) ?_;simp (disch:=omega) only [tkC,hf,k1,k2,e2,e8,go_sem])
    |((first|apply qd|apply qb);exact rvk;simp only [go_sem];first|exact ql|apply qe|apply qa|apply qf|skip)
    |with_reducible first|intro _|apply aiA
   all_goals try exact clz
  |true=>
  rw [Bool.true_and]at hR
  by_cases g3:t.norm=t.text
  ·have k3:(t.norm=t.text)=True:=eq_true g3
   rw [decide_eq_true g3,if_neg (by simp)]at hR
   by_cases g4:t.line<0
   ·have k4:(t.line<0)=True:=eq_true g4
    rw [if_pos g4]at hR
    rw [hR]
    refine acO ja ?_
    simp (disch:=omega) only [jY,tkC,hf,k1,k2,e2,e8,k3,k4,go_sem]
    repeat' first
     |(refine qz (cK _) ?_;simp (disch:=omega) only [tkC,hf,k1,k2,e2,e8,k3,k4,go_sem])
     |(refine qn ( .bool false) ?_;simp (disch:=omega) only [tkC,hf,k1,k2,e2,e8,k3,k4,go_sem])
     |((first|refine cA (cI _) ?_ ?_|refine cG (fun e=>cI _) ?_ ?_|refine cA (cI _) ?_ ?_|refine cG (fun e=>cI _) ?_ ?_|refine cU (fun _=>cI _) ?_ ?_|refine cU (fun _=>cI _) ?_ ?_);exact flk;simp (disch:=omega) only [tkC,hf,k1,k2,e2,e8,k3,k4,go_sem])
     |((first|apply qd|apply qb);exact rvk;simp only [go_sem];first|exact ql|apply qe|apply qa|apply qf|skip)
     |with_reducible first|intro _|apply aiA
    all_goals try exact clz
   have k4:(t.line<0)=False:=eq_false g4
   rw [if_neg g4]at hR
   cases bp with
   |false=>
    rw [if_pos (.inl rfl)]at hR
    rw [hR]
    refine acO ja ?_
    simp (disch:=omega) only [jY,tkC,hf,k1,k2,e2,e8,k3,k4,go_sem]
    repeat' first
     |(refine qz (cK _) ?_;simp (disch:=omega) only [tkC,hf,k1,k2,e2,e8,k3,k4,go_sem])
     |(refine qn ( .bool false) ?_;simp (disch:=omega) only [tkC,hf,k1,k2,e2,e8,k3,k4,go_sem])
     |(refine qn ( .bool false) ?_;simp (disch:=omega) only [tkC,hf,k1,k2,e2,e8,k3,k4,go_sem])
     |((first|refine cA (cI _) ?_ ?_|refine cG (fun e=>cI _) ?_ ?_|refine cA (cI _) ?_ ?_|refine cG (fun e=>cI _) ?_ ?_|refine cA (cP _) ?_ ?_|refine cG (fun e=>cP _) ?_ ?_|refine cU (fun _=>cI _) ?_ ?_|refine cU (fun _=>cI _) ?_ ?_|refine cU (fun _=>cP _) ?_ ?_);exact flk;simp (disch:=omega) only [tkC,hf,k1,k2,e2,e8,k3,k4,go_sem])
     |((first|apply qd|apply qb);exact rvk;simp only [go_sem];first|exact ql|apply qe|apply qa|apply qf|skip)
     |with_reducible first|intro _|apply aiA
    all_goals try exact clz
   |true=>
   cases bm with
   |false=>
    rw [if_pos (.inr rfl)]at hR
    rw [hR]
    refine acO ja ?_
    simp (disch:=omega) only [jY,tkC,hf,k1,k2,e2,e8,k3,k4,go_sem]
    repeat' first
     |(refine qz (cK _) ?_;simp (disch:=omega) only [tkC,hf,k1,k2,e2,e8,k3,k4,go_sem])
     |(refine qn ( .bool false) ?_;simp (disch:=omega) only [tkC,hf,k1,k2,e2,e8,k3,k4,go_sem])
     |((first|refine cA (cI _) ?_ ?_|refine cG (fun e=>cI _) ?_ ?_|refine cA (cI _) ?_ ?_|refine cG (fun e=>cI _) ?_ ?_|refine cA (cP _) ?_ ?_|refine cG (fun e=>cP _) ?_ ?_|refine cA (cM _) ?_ ?_|refine cG (fun e=>cM _) ?_ ?_|refine cU (fun _=>cI _) ?_ ?_|refine cU (fun _=>cI _) ?_ ?_|refine cU (fun _=>cP _) ?_ ?_|refine cU (fun _=>cM _) ?_ ?_);exact flk;simp (disch:=omega) only [tkC,hf,k1,k2,e2,e8,k3,k4,go_sem])
     |((first|apply qd|apply qb);exact rvk;simp only [go_sem];first|exact ql|apply qe|apply qa|apply qf|skip)
     |with_reducible first|intro _|apply aiA
    all_goals try exact clz
   |true=>
    rw [if_neg (by simp)]at hR
    rw [hR]
    refine acO ja ?_
    simp (disch:=omega) only [jY,tkC,hf,k1,k2,e2,e8,k3,k4,go_sem]
    repeat' first
     |(refine qz (cK _) ?_;simp (disch:=omega) only [tkC,hf,k1,k2,e2,e8,k3,k4,go_sem])
     |(refine qn ( .bool false) ?_;simp (disch:=omega) only [tkC,hf,k1,k2,e2,e8,k3,k4,go_sem])
     |((first|refine cA (cI _) ?_ ?_|refine cG (fun e=>cI _) ?_ ?_|refine cA (cI _) ?_ ?_|refine cG (fun e=>cI _) ?_ ?_|refine cA (cP _) ?_ ?_|refine cG (fun e=>cP _) ?_ ?_|refine cA (cM _) ?_ ?_|refine cG (fun e=>cM _) ?_ ?_|refine cU (fun _=>cI _) ?_ ?_|refine cU (fun _=>cI _) ?_ ?_|refine cU (fun _=>cP _) ?_ ?_|refine cU (fun _=>cM _) ?_ ?_);exact flk;simp (disch:=omega) only [tkC,hf,k1,k2,e2,e8,k3,k4,go_sem])
     |((first|apply qd|apply qb);exact rvk;simp only [go_sem];first|exact ql|apply qe|apply qa|apply qf|skip)
     |with_reducible first|intro _|apply aiA
    all_goals try exact clz
  ·have k3:(t.norm=t.text)=False:=eq_false g3
   rw [decide_eq_false g3,if_pos rfl]at hR
   rw [hR]
   refine acO ja ?_
   simp (disch:=omega) only [jY,tkC,hf,k1,k2,e2,e8,k3,go_sem]
   repeat' first
    |(refine qz (cK _) ?_;simp (disch:=omega) only [tkC,hf,k1,k2,e2,e8,k3,go_sem])
    |(refine qn ( .bool false) ?_;simp (disch:=omega) only [tkC,hf,k1,k2,e2,e8,k3,go_sem])
    |((first|refine cA (cI _) ?_ ?_|refine cG (fun e=>cI _) ?_ ?_|refine cA (cI _) ?_ ?_|refine cG (fun e=>cI _) ?_ ?_|refine cU (fun _=>cI _) ?_ ?_|refine cU (fun _=>cI _) ?_ ?_);exact flk;simp (disch:=omega) only [tkC,hf,k1,k2,e2,e8,k3,go_sem])
    |((first|apply qd|apply qb);exact rvk;simp only [go_sem];first|exact ql|apply qe|apply qa|apply qf|skip)
    |with_reducible first|intro _|apply aiA
   all_goals try exact clz
 ·cases bg with
  |false=>
   rw [Bool.false_and,if_pos rfl]at hR
   rw [hR]
   refine acO ja ?_
   simp (disch:=omega) only [jY,tkC,hf,k1,k2,e2,e8,go_sem]
   repeat' first
    |(refine qz (hG _) ?_;simp (disch:=omega) only [tkC,hf,k1,k2,e2,e8,go_sem])
    |((first|apply qd|apply qb);exact rvk;simp only [go_sem];first|exact ql|apply qe|apply qa|apply qf|skip)
    |with_reducible first|intro _|apply aiA
   all_goals try exact clz
  |true=>
  rw [Bool.true_and]at hR
  by_cases g3:t.norm=t.text
  ·have k3:(t.norm=t.text)=True:=eq_true g3
   rw [decide_eq_true g3,if_neg (by simp)]at hR
   by_cases g4:t.line<0
   ·have k4:(t.line<0)=True:=eq_true g4
    rw [if_pos g4]at hR
    rw [hR]
    refine acO ja ?_
    simp (disch:=omega) only [jY,tkC,hf,k1,k2,e2,e8,k3,k4,go_sem]
    repeat' first
     |(refine qz (hG _) ?_;simp (disch:=omega) only [tkC,hf,k1,k2,e2,e8,k3,k4,go_sem])
     |(refine qn ( .bool false) ?_;simp (disch:=omega) only [tkC,hf,k1,k2,e2,e8,k3,k4,go_sem])
     |((first|refine cA (cI _) ?_ ?_|refine cG (fun e=>cI _) ?_ ?_|refine cA (cI _) ?_ ?_|refine cG (fun e=>cI _) ?_ ?_|refine cU (fun _=>cI _) ?_ ?_|refine cU (fun _=>cI _) ?_ ?_);exact flk;simp (disch:=omega) only [tkC,hf,k1,k2,e2,e8,k3,k4,go_sem])
     |((first|apply qd|apply qb);exact rvk;simp only [go_sem];first|exact ql|apply qe|apply qa|apply qf|skip)
     |with_reducible first|intro _|apply aiA
    all_goals try exact clz
   have k4:(t.line<0)=False:=eq_false g4
   rw [if_neg g4]at hR
   cases bp with
   |false=>
    rw [if_pos (.inl rfl)]at hR
    rw [hR]
    refine acO ja ?_
    simp (disch:=omega) only [jY,tkC,hf,k1,k2,e2,e8,k3,k4,go_sem]
    repeat' first
     |(refine qz (hG _) ?_;simp (disch:=omega) only [tkC,hf,k1,k2,e2,e8,k3,k4,go_sem])
     |(refine qn ( .bool false) ?_;simp (disch:=omega) only [tkC,hf,k1,k2,e2,e8,k3,k4,go_sem])
     |(refine qn ( .bool false) ?_;simp (disch:=omega) only [tkC,hf,k1,k2,e2,e8,k3,k4,go_sem])
     |((first|refine cA (cI _) ?_ ?_|refine cG (fun e=>cI _) ?_ ?_|refine cA (cI _) ?_ ?_|refine cG (fun e=>cI _) ?_ ?_|refine cA (cP _) ?_ ?_|refine cG (fun e=>cP _) ?_ ?_|refine cU (fun _=>cI _) ?_ ?_|refine cU (fun _=>cI _) ?_ ?_|refine cU (fun _=>cP _) ?_ ?_);exact flk;simp (disch:=omega) only [tkC,hf,k1,k2,e2,e8,k3,k4,go_sem])
     |((first|apply qd|apply qb);exact rvk;simp only [go_sem];first|exact ql|apply qe|apply qa|apply qf|skip)
     |with_reducible first|intro _|apply aiA
    all_goals try exact clz
   |true=>
   cases bm with
   |false=>
    rw [if_pos (.inr rfl)]at hR
    rw [hR]
    refine acO ja ?_
    simp (disch:=omega) only [jY,tkC,hf,k1,k2,e2,e8,k3,k4,go_sem]
    repeat' first
     |(refine qz (hG _) ?_;simp (disch:=omega) only [tkC,hf,k1,k2,e2,e8,k3,k4,go_sem])
     |(refine qn ( .bool false) ?_;simp (disch:=omega) only [tkC,hf,k1,k2,e2,e8,k3,k4,go_sem])
     |((first|refine cA (cI _) ?_ ?_|refine cG (fun e=>cI _) ?_ ?_|refine cA (cI _) ?_ ?_|refine cG (fun e=>cI _) ?_ ?_|refine cA (cP _) ?_ ?_|refine cG (fun e=>cP _) ?_ ?_|refine cA (cM _) ?_ ?_|refine cG (fun e=>cM _) ?_ ?_|refine cU (fun _=>cI _) ?_ ?_|refine cU (fun _=>cI _) ?_ ?_|refine cU (fun _=>cP _) ?_ ?_|refine cU (fun _=>cM _) ?_ ?_);exact flk;simp (disch:=omega) only [tkC,hf,k1,k2,e2,e8,k3,k4,go_sem])
     |((first|apply qd|apply qb);exact rvk;simp only [go_sem];first|exact ql|apply qe|apply qa|apply qf|skip)
     |with_reducible first|intro _|apply aiA
    all_goals try exact clz
   |true=>
    rw [if_neg (by simp)]at hR
    rw [hR]
    refine acO ja ?_
    simp (disch:=omega) only [jY,tkC,hf,k1,k2,e2,e8,k3,k4,go_sem]
    repeat' first
     |(refine qz (hG _) ?_;simp (disch:=omega) only [tkC,hf,k1,k2,e2,e8,k3,k4,go_sem])
     |(refine qn ( .bool false) ?_;simp (disch:=omega) only [tkC,hf,k1,k2,e2,e8,k3,k4,go_sem])
     |((first|refine cA (cI _) ?_ ?_|refine cG (fun e=>cI _) ?_ ?_|refine cA (cI _) ?_ ?_|refine cG (fun e=>cI _) ?_ ?_|refine cA (cP _) ?_ ?_|refine cG (fun e=>cP _) ?_ ?_|refine cA (cM _) ?_ ?_|refine cG (fun e=>cM _) ?_ ?_|refine cU (fun _=>cI _) ?_ ?_|refine cU (fun _=>cI _) ?_ ?_|refine cU (fun _=>cP _) ?_ ?_|refine cU (fun _=>cM _) ?_ ?_);exact flk;simp (disch:=omega) only [tkC,hf,k1,k2,e2,e8,k3,k4,go_sem])
     |((first|apply qd|apply qb);exact rvk;simp only [go_sem];first|exact ql|apply qe|apply qa|apply qf|skip)
     |with_reducible first|intro _|apply aiA
    all_goals try exact clz
  ·have k3:(t.norm=t.text)=False:=eq_false g3
   rw [decide_eq_false g3,if_pos rfl]at hR
   rw [hR]
   refine acO ja ?_
   simp (disch:=omega) only [jY,tkC,hf,k1,k2,e2,e8,k3,go_sem]
   repeat' first
    |(refine qz (hG _) ?_;simp (disch:=omega) only [tkC,hf,k1,k2,e2,e8,k3,go_sem])
    |(refine qn ( .bool false) ?_;simp (disch:=omega) only [tkC,hf,k1,k2,e2,e8,k3,go_sem])
    |((first|refine cA (cI _) ?_ ?_|refine cG (fun e=>cI _) ?_ ?_|refine cA (cI _) ?_ ?_|refine cG (fun e=>cI _) ?_ ?_|refine cU (fun _=>cI _) ?_ ?_|refine cU (fun _=>cI _) ?_ ?_);exact flk;simp (disch:=omega) only [tkC,hf,k1,k2,e2,e8,k3,go_sem])
    |((first|apply qd|apply qb);exact rvk;simp only [go_sem];first|exact ql|apply qe|apply qa|apply qf|skip)
    |with_reducible first|intro _|apply aiA
   all_goals try exact clz
 ·rw [hR]
  refine acO ja ?_
  simp (disch:=omega) only [jY,tkC,hf,k1,k2,e2,e8,go_sem]
  repeat' first
   |((first|apply qd|apply qb);exact rvk;simp only [go_sem];first|exact ql|apply qe|apply qa|apply qf|skip)
   |with_reducible first|intro _|apply aiA
  all_goals try exact clz
end RC
end
section
open Go Go.Proofs AF
def je:List Nat:= []
theorem qAI:qK Tryz.prog 41 19 0 [RV.tmp 4] (cIF 1 none):=fi Tryz.f41 [] je []
theorem qAN:qK Tryz.prog 54 9 0 [RV.tmp 4] (cCT 128):=fi Tryz.f54 [] je []
theorem qAU:qK Tryz.prog 90 9 0 [RV.tmp 4] (cCT 159):=fi Tryz.f90 [] je []
theorem qoO:qK Tryz.prog 92 9 0 [RV.tmp 4] (cCT 106):=fi Tryz.f92 [] je []
theorem qAX:qK Tryz.prog 94 9 0 [RV.tmp 4] (cCT 41):=fi Tryz.f94 [] je []
theorem qgK:qK Tryz.prog 106 19 0 [RV.tmp 4] (cIF 7 (some 7)):=fi Tryz.f106 [] je []
theorem qqR:qK Tryz.prog 127 19 0 [RV.tmp 4] (cIF 2 (some 2)):=fi Tryz.f127 [] je []
theorem qqS:qK Tryz.prog 128 19 0 [RV.tmp 4] (cIF 3 (some 3)):=fi Tryz.f128 [] je []
theorem qxu:qK Tryz.prog 159 19 0 [RV.tmp 4] (cIF 1 none):=fi Tryz.f159 [] je []
theorem qxI:qK Tryz.prog 205 9 0 [RV.tmp 4] (cCT 246):=fi Tryz.f205 [] je []
theorem qxU:qK Tryz.prog 246 19 0 [RV.tmp 4] (cIF 6 (some 6)):=fi Tryz.f246 [] je []
theorem qxX:qK Tryz.prog 253 9 0 [RV.tmp 4] (cCT 293):=fi Tryz.f253 [] je []
def qsa:C:=
 ((C.ops [MC 6 (.bool false)]).seq (((C.ops [MV 10 0,O1 11 .len 10,MV 12 1,O1 13 .len 12,BI 14 .neq 11 13]).seq (C.cond (.t 14) ((C.ops [MC 6 (.bool false)]).seq C.ret)
 C.skip)).seq (((C.ops [MV 15 0,O1 16 .len 15,MC 17 (i6 0)]).seq (C.block 0 ((C.ops [BI 18 .lss 17 16]).seq ((C.cond (.t 18) C.skip (C.exit 0)).seq ((C.block 1 ((C.ops [MV 19 17,
 O2 20 (.idxA 2) 15 17,O1 21 (.load (some 2)) 20,⟨some 8,none,.alloc 0 89 [.nl,.nl],[]⟩,MV 7 19,ST 2 8 21]).seq ((C.ops [MV 22 1,MV 23 7,O2 24 (.idxA 2) 22 23,O1 25
 (.load (some 2)) 24,⟨some 9,none,.alloc 1 89 [.nl,.nl],[]⟩,ST 2 9 25]).seq ((C.ops [MV 26 2,O1 27 (.load (some 2)) 8,O1 28 (.load (some 2)) 9,ON 29 .callv [.t 26,.t 27,
 .t 28],O1 30 (.un UnOp.not) 29]).seq (C.cond (.t 30) ((C.ops [MC 6 (.bool false)]).seq C.ret) C.skip))))).seq (C.ops [BC 31 .add 17 (i6 1),MV 17 31])))).loop)).seq ((C.ops [MC 6
 (.bool true)]).seq
 C.ret))))
theorem qq4:qK Tryz.prog 272 32 2 [RV.tmp 6] qsa:=fi Tryz.f272 [8,9] je []
theorem qyc:qK Tryz.prog 293 19 0 [RV.tmp 4] (cIF 1 none):=fi Tryz.f293 [] je []
end
section
open Go Go.Proofs AF HY LN
namespace RC
structure qvh (x:Co):Prop where
 sc:x.sec.length≤1000000000
 sg:x.sig.length≤1000000000
 ss: ∀i,(x.sig.getD i []).length≤1000000000
 tk:x.tok.length≤1000000000
 tl: ∀i,(x.tok.getD i []).length≤1000000000
 te: ∀i j,qrE ((x.tok.getD i []).getD j default)
 cl:x.col.length≤1000000000
 ce: ∀i,(x.col.getD i []).length≤1000000000
theorem qBn (s:Str) (h:List AObj) (hs:s.length≤1000000000):ACalls Tryz.prog 204 [.str s] h (.bool (qpY s)) h:=by
 have c1:=fun h=>qqJ s h hs
 unfold qpY
 cases g:qhh s with
 |true=>
  rw [g]at c1
  simp only [if_true]at c1
  have c2:=fun h=>t44 (s.take (s.length-1)) h (by simp;omega)
  rw [if_pos rfl]
  cases g2:jG (s.take (s.length-1))with
  |true=>
   rw [g2]at c2
   have k7:decide ((s.length:Int)≤16)=decide (s.length≤16):=decide_eq_decide.2 (by omega)
   refine acO qgO ?_
   simp (disch:=omega) only [qka,go_sem]
   repeat' first
    |((first|refine cA (c1 _) ?_ ?_|refine cG (fun e=>c1 _) ?_ ?_|refine cA (c2 _) ?_ ?_|refine cG (fun e=>c2 _) ?_ ?_|refine cU (fun _=>c1 _) ?_ ?_|refine cU (fun _=>c2 _) ?_ ?_);exact flk;simp (disch:=omega) only [k7,go_sem])
    |((first|apply qd|apply qb);exact rvk;simp only [go_sem];first|exact ql|apply qe|apply qa|apply qf|skip)
    |with_reducible first|intro _|apply aiA
   all_goals try exact clz
  |false=>
   rw [g2]at c2
   refine acO qgO ?_
   simp (disch:=omega) only [qka,go_sem]
   repeat' first
    |((first|refine cA (c1 _) ?_ ?_|refine cG (fun e=>c1 _) ?_ ?_|refine cA (c2 _) ?_ ?_|refine cG (fun e=>c2 _) ?_ ?_|refine cU (fun _=>c1 _) ?_ ?_|refine cU (fun _=>c2 _) ?_ ?_);exact flk;simp (disch:=omega) only [go_sem])
    |((first|apply qd|apply qb);exact rvk;simp only [go_sem];first|exact ql|apply qe|apply qa|apply qf|skip)
    |with_reducible first|intro _|apply aiA
   all_goals try exact clz
 |false=>
  rw [g]at c1
  rw [if_neg (by simp)]at c1 ⊢
  have c2:=fun h=>t44 s h hs
  cases g2:jG s with
  |true=>
   rw [g2]at c2
   refine acO qgO ?_
   simp (disch:=omega) only [qka,go_sem]
   repeat' first
    |((first|refine cA (c1 _) ?_ ?_|refine cG (fun e=>c1 _) ?_ ?_|refine cA (c2 _) ?_ ?_|refine cG (fun e=>c2 _) ?_ ?_|refine cU (fun _=>c1 _) ?_ ?_|refine cU (fun _=>c2 _) ?_ ?_);exact flk;simp (disch:=omega) only [go_sem])
    |((first|apply qd|apply qb);exact rvk;simp only [go_sem];first|exact ql|apply qe|apply qa|apply qf|skip)
    |with_reducible first|intro _|apply aiA
   all_goals try exact clz
  |false=>
   rw [g2]at c2
   refine acO qgO ?_
   simp (disch:=omega) only [qka,go_sem]
   repeat' first
    |((first|refine cA (c1 _) ?_ ?_|refine cG (fun e=>c1 _) ?_ ?_|refine cA (c2 _) ?_ ?_|refine cG (fun e=>c2 _) ?_ ?_|refine cU (fun _=>c1 _) ?_ ?_|refine cU (fun _=>c2 _) ?_ ?_);exact flk;simp (disch:=omega) only [go_sem])
    |((first|apply qd|apply qb);exact rvk;simp only [go_sem];first|exact ql|apply qe|apply qa|apply qf|skip)
    |with_reducible first|intro _|apply aiA
   all_goals try exact clz
theorem qDn (t:Tk) (h:List AObj) (hz:qrE t) (hp:kY SG h):ACalls Tryz.prog 206 [.agg (tkC t)] h (.bool (!decide (tkE t=0))) h:=by
 have c1:=fun l=>tkP t (h++l) hz (hp.app l)
 obtain ⟨e,he⟩: ∃e,e=tkE t:=⟨_,rfl⟩
 rw [←he]at c1 ⊢
 unfold tkC at c1
 refine acO qxJ ?_
 simp (disch:=omega) only [qv7,tkC,go_sem]
 repeat' first
  |((first|refine cA (c1 _) ?_ ?_|refine cG (fun e=>c1 _) ?_ ?_|refine cU (fun _=>c1 _) ?_ ?_);exact flk;simp (disch:=omega) only [tkC,go_sem])
  |((first|apply qd|apply qb);exact rvk;simp only [go_sem];first|exact ql|apply qe|apply qa|apply qf|skip)
  |with_reducible first|intro _|apply aiA
 all_goals try exact clz
theorem qCC (l:List Tk) (h:List AObj) (hl:l.length≤1000000000) (hz: ∀j,qrE (l.getD j default)) (hp:kY SG h):
  ACalls Tryz.prog 205 [jE l,.fn (.func 206) [] []] h (.bool (zd (fun j=> !decide (tkE (l.getD j default)=0)) l.length)) h:=by
 unfold jE
 refine qhK qxI ⟨rfl,rfl⟩ ⟨rfl,rfl⟩ (qaD qxU l.length (fun j=>tkC (l.getD j default)) (fun j=> .agg (tkC (l.getD j default))) _ [] [] _ h (fun i _=>⟨rfl,by simp [zZ,tkC],rfl,rfl,rfl⟩) (fun i _=> ?_) (by omega))
 exact qDn _ h (hz i) hp
theorem qDo (x:Co) (h:List AObj) (hz:qvh x) (hp:kY SG h):ACalls Tryz.prog 152 [.str x.sec,strs x.sig,qr x.tok] h (.int .i64 (srE x)) h:=by
 obtain ⟨R,hR⟩: ∃R,R=srE x:=⟨_,rfl⟩
 rw [←hR]
 unfold srE at hR
 have z1:=hz.sg
 have z2:=hz.tk
 have cN:=fun h=>t44 x.sec h hz.sc
 cases g0:jG x.sec with
 |false=>
  rw [g0]at cN
  rw [if_pos g0]at hR
  rw [hR]
  refine acO qgL ?_
  simp (disch:=omega) only [qj7,strs,qr,go_sem]
  repeat' first
   |((first|refine cA (cN _) ?_ ?_|refine cG (fun e=>cN _) ?_ ?_|refine cU (fun _=>cN _) ?_ ?_);exact flk;simp (disch:=omega) only [strs,qr,go_sem])
   |((first|apply qd|apply qb);exact rvk;simp only [go_sem];first|exact ql|apply qe|apply qa|apply qf|skip)
   |with_reducible first|intro _|apply aiA
  all_goals try exact clz
 |true=>
 rw [g0]at cN
 rw [if_neg (by rw [g0];simp)]at hR
 by_cases g1:x.sig.length=0
 ·have k1:((x.sig.length:Int)=0)=True:=eq_true (by omega)
  rw [if_pos g1]at hR
  rw [hR]
  refine acO qgL ?_
  simp (disch:=omega) only [qj7,strs,qr,k1,go_sem]
  repeat' first
   |((first|refine cA (cN _) ?_ ?_|refine cG (fun e=>cN _) ?_ ?_|refine cU (fun _=>cN _) ?_ ?_);exact flk;simp (disch:=omega) only [strs,qr,k1,go_sem])
   |((first|apply qd|apply qb);exact rvk;simp only [go_sem];first|exact ql|apply qe|apply qa|apply qf|skip)
   |with_reducible first|intro _|apply aiA
  all_goals try exact clz
 have k1:((x.sig.length:Int)=0)=False:=eq_false (by omega)
 rw [if_neg g1]at hR
 by_cases g2:32<x.sig.length
 ·have k2:((32:Int)<x.sig.length)=True:=eq_true (by omega)
  rw [if_pos g2]at hR
  rw [hR]
  refine acO qgL ?_
  simp (disch:=omega) only [qj7,strs,qr,k1,k2,go_sem]
  repeat' first
   |((first|refine cA (cN _) ?_ ?_|refine cG (fun e=>cN _) ?_ ?_|refine cU (fun _=>cN _) ?_ ?_);exact flk;simp (disch:=omega) only [strs,qr,k1,k2,go_sem])
   |((first|apply qd|apply qb);exact rvk;simp only [go_sem];first|exact ql|apply qe|apply qa|apply qf|skip)
   |with_reducible first|intro _|apply aiA
  all_goals try exact clz
 have k2:((32:Int)<x.sig.length)=False:=eq_false (by omega)
 rw [if_neg g2]at hR
 refine acO qgL ?_
 simp (disch:=omega) only [qj7,strs,qr,k1,k2,go_sem]
 repeat' first
  |((first|refine cA (cN _) ?_ ?_|refine cG (fun e=>cN _) ?_ ?_|refine cU (fun _=>cN _) ?_ ?_);exact flk;simp (disch:=omega) only [strs,qr,k1,k2,go_sem])
  |((first|apply qd|apply qb);exact rvk;simp only [go_sem];first|exact ql|apply qe|apply qa|apply qf|skip)
  |with_reducible first|intro _|apply aiA
 all_goals try exact clz
 refine qu (T:=fun i:Nat=>qT 56 [(1,strs x.sig),(2,qr x.tok),(23,strs x.sig),(24,.int .i64 x.sig.length),(25,.int .i64 i)]) (H:=fun _=>h) (inv:=fun i=>i≤x.sig.length∧ ∀j,j<i→jH x.sig j=0) (m:=fun i=>x.sig.length-i) 0 ⟨Nat.zero_le _,fun j hj=>by omega⟩ (Wk.temps ?_) ?_
 ·(simp only [strs,qr,go_sem,qk,qh,qg,qj];try (repeat' first|(with_reducible apply aiA)|(apply qe;omega)|(apply qa;rfl)|exact ql))
 rintro i ⟨i1,i2⟩ K hK
 by_cases hi:i<x.sig.length
 ·have k3:((i:Int)<x.sig.length)=True:=eq_true (by omega)
  have k4:((i:Int)≤x.sig.length)=True:=eq_true (by omega)
  have hE:=zQ (f:=jH x.sig) hi i2
  have hs:jH x.sig i=if qpY (x.sig.getD i [])=false then 14 else if zd (fun j=>decide (x.sig.getD i []=x.sig.getD j [])) i=true then 7 else 0:=rfl
  have c87:=fun h=>qBn (x.sig.getD i []) h (hz.ss i)
  have c88:=fun h=>qkF i (fun j=>x.sig.getD j []) (x.sig.getD i []) h (by omega)
  obtain ⟨s,hsx⟩: ∃s,s=x.sig.getD i []:=⟨_,rfl⟩
  have es:=hsx.symm
  rw [es]at hs c87
  simp only [es]at hs c88
  cases g3:qpY s with
  |false=>
   rw [g3]at c87
   rw [if_pos g3]at hs
   have hne:qbp (jH x.sig) 0 x.sig.length≠0:=by rw [hE (by rw [hs];decide),hs];decide
   have hV:R=14:=by rw [hR,if_pos hne,hE (by rw [hs];decide),hs]
   rw [hV]
   simp (disch:=omega) only [strs,qr,k3,k4,es,go_sem]
   repeat' first
    |((first|refine cA (c87 _) ?_ ?_|refine cG (fun e=>c87 _) ?_ ?_|refine cU (fun _=>c87 _) ?_ ?_);exact flk;simp (disch:=omega) only [strs,qr,k3,k4,es,go_sem])
    |((first|apply qd|apply qb);exact rvk;simp only [go_sem];first|exact ql|apply qe|apply qa|apply qf|skip)
    |with_reducible first|intro _|apply aiA
   all_goals try exact clz
  |true=>
  rw [g3]at c87
  rw [if_neg (by rw [g3];simp)]at hs
  cases g4:zd (fun j=>decide (s=x.sig.getD j [])) i with
  |true=>
   rw [g4]at c88
   rw [if_pos g4]at hs
   have hne:qbp (jH x.sig) 0 x.sig.length≠0:=by rw [hE (by rw [hs];decide),hs];decide
   have hV:R=7:=by rw [hR,if_pos hne,hE (by rw [hs];decide),hs]
   rw [hV]
   simp (disch:=omega) only [strs,qr,k3,k4,es,Nat.sub_zero,go_sem]
   repeat' first
    |((first|refine cA (c87 _) ?_ ?_|refine cG (fun e=>c87 _) ?_ ?_|refine cA (c88 _) ?_ ?_|refine cG (fun e=>c88 _) ?_ ?_|refine cU (fun _=>c87 _) ?_ ?_|refine cU (fun _=>c88 _) ?_ ?_);exact flk;simp (disch:=omega) only [strs,qr,k3,k4,es,Nat.sub_zero,go_sem])
    |((first|apply qd|apply qb);exact rvk;simp only [go_sem];first|exact ql|apply qe|apply qa|apply qf|skip)
    |with_reducible first|intro _|apply aiA
   all_goals try exact clz
  |false=>
   rw [g4]at c88
   rw [if_neg (by rw [g4];simp)]at hs
   simp (disch:=omega) only [strs,qr,k3,k4,es,Nat.sub_zero,go_sem]
   repeat' first
    |((first|refine cA (c87 _) ?_ ?_|refine cG (fun e=>c87 _) ?_ ?_|refine cA (c88 _) ?_ ?_|refine cG (fun e=>c88 _) ?_ ?_|refine cU (fun _=>c87 _) ?_ ?_|refine cU (fun _=>c88 _) ?_ ?_);exact flk;simp (disch:=omega) only [strs,qr,k3,k4,es,Nat.sub_zero,go_sem])
    |((first|apply qd|apply qb);exact rvk;simp only [go_sem];first|exact ql|apply qe|apply qa|apply qf|skip)
    |with_reducible first|intro _|apply aiA
   all_goals try exact clz
   refine hK _ _ (i+1) ⟨hi,fun j hj=> ?_⟩ (by omega) (Wk.temps ?_)
   ·by_cases e:j=i
    ·subst e;exact hs
    ·exact i2 j (by omega)
   ·(simp only [strs,qr,go_sem,qk,qh,qg,qj];try (repeat' first|(with_reducible apply aiA)|(apply qe;omega)|(apply qa;rfl)|exact ql))
 have k3:((i:Int)<x.sig.length)=False:=eq_false (by omega)
 have hn0:=qW (f:=jH x.sig) (fun j (hj:j<x.sig.length)=>i2 j (by omega))
 rw [if_neg (fun hc=>hc hn0)]at hR
 by_cases g5:x.tok.length=x.sig.length
 case neg=>
  have k5:((x.tok.length:Int)=x.sig.length)=False:=eq_false (by omega)
  rw [if_pos g5]at hR
  rw [hR]
  simp (disch:=omega) only [strs,qr,k3,k5,go_sem]
  repeat' first
   |((first|apply qd|apply qb);exact rvk;simp only [go_sem];first|exact ql|apply qe|apply qa|apply qf|skip)
   |with_reducible first|intro _|apply aiA
  all_goals try exact clz
 have k5:((x.tok.length:Int)=x.sig.length)=True:=eq_true (by omega)
 rw [if_neg (fun hc=>hc g5)]at hR
 clear hK
 simp (disch:=omega) only [strs,qr,k3,k5,go_sem]
 repeat' first
  |((first|apply qd|apply qb);exact rvk;simp only [go_sem];first|exact ql|apply qe|apply qa|apply qf|skip)
  |with_reducible first|intro _|apply aiA
 all_goals try exact clz
 obtain ⟨rw0,hrw⟩: ∃f:Nat→Int,f=fun i=>qiQ (x.tok.getD i []):=⟨_,rfl⟩
 have er: ∀i,rw0 i=qiQ (x.tok.getD i []):=fun i=>by rw [hrw]
 rw [←hrw]at hR
 refine qu (T:=fun i:Nat=>qT 56 [(44,qr x.tok),(45,.int .i64 x.tok.length),(46,.int .i64 i)]) (H:=fun _=>h) (inv:=fun i=>i≤x.tok.length∧ ∀j,j<i→rw0 j=0) (m:=fun i=>x.tok.length-i) 0 ⟨Nat.zero_le _,fun j hj=>by omega⟩ (Wk.temps ?_) ?_
 ·(simp only [strs,qr,go_sem,qk,qh,qg,qj];try (repeat' first|(with_reducible apply aiA)|(apply qe;omega)|(apply qa;rfl)|exact ql))
 rintro i ⟨i1,i2⟩ K hK
 by_cases hi:i<x.tok.length
 ·have k6:((i:Int)<x.tok.length)=True:=eq_true (by omega)
  have hE:=zQ (f:=rw0) hi i2
  have hs:=er i
  have zl:=hz.tl i
  have zt:=hz.te i
  obtain ⟨l,hl⟩: ∃l,l=x.tok.getD i []:=⟨_,rfl⟩
  have el:=hl.symm
  rw [el]at hs zl
  simp only [el]at zt
  unfold qiQ at hs
  by_cases g6:1024<l.length
  ·have k7:((1024:Int)<l.length)=True:=eq_true (by omega)
   rw [if_pos g6]at hs
   have hV:R=4:=by rw [hR,hE (by rw [hs];decide),hs]
   rw [hV]
   simp (disch:=omega) only [qr,jE,k6,k7,el,go_sem]
   repeat' first
    |((first|apply qd|apply qb);exact rvk;simp only [go_sem];first|exact ql|apply qe|apply qa|apply qf|skip)
    |with_reducible first|intro _|apply aiA
   all_goals try exact clz
  have k7:((1024:Int)<l.length)=False:=eq_false (by omega)
  rw [if_neg g6]at hs
  have cT:=qCC l h zl zt hp
  have eA:zd (fun j=>decide (tkE (l.getD j default)≠0)) l.length=zd (fun j=> !decide (tkE (l.getD j default)=0)) l.length:=qhr fun j _=>by simp
  rw [eA]at hs
  unfold jE at cT
  obtain ⟨b,hb⟩: ∃b,b=zd (fun j=> !decide (tkE (l.getD j default)=0)) l.length:=⟨_,rfl⟩
  rw [←hb]at hs cT
  cases b with
  |true=>
   rw [if_pos rfl]at hs
   have hV:R=1:=by rw [hR,hE (by rw [hs];decide),hs]
   rw [hV]
   simp (disch:=omega) only [qr,jE,k6,k7,el,go_sem]
   repeat' first
    |((first|refine cA (cT) ?_ ?_|refine cG (fun e=>cT) ?_ ?_);exact flk;simp (disch:=omega) only [qr,jE,k6,k7,el,go_sem])
    |((first|apply qd|apply qb);exact rvk;simp only [go_sem];first|exact ql|apply qe|apply qa|apply qf|skip)
    |with_reducible first|intro _|apply aiA
   all_goals try exact clz
  |false=>
   rw [if_neg (by simp)]at hs
   simp (disch:=omega) only [qr,jE,k6,k7,el,go_sem]
   repeat' first
    |((first|refine cA (cT) ?_ ?_|refine cG (fun e=>cT) ?_ ?_);exact flk;simp (disch:=omega) only [qr,jE,k6,k7,el,go_sem])
    |((first|apply qd|apply qb);exact rvk;simp only [go_sem];first|exact ql|apply qe|apply qa|apply qf|skip)
    |with_reducible first|intro _|apply aiA
   all_goals try exact clz
   refine hK _ _ (i+1) ⟨hi,fun j hj=> ?_⟩ (by omega) (Wk.temps ?_)
   ·by_cases e:j=i
    ·subst e;exact hs
    ·exact i2 j (by omega)
   ·(simp only [qr,jE,go_sem,qk,qh,qg,qj];try (repeat' first|(with_reducible apply aiA)|(apply qe;omega)|(apply qa;rfl)|exact ql))
 ·have k6:((i:Int)<x.tok.length)=False:=eq_false (by omega)
  rw [qW (fun j (hj:j<x.tok.length)=>i2 j (by omega))]at hR
  rw [hR]
  simp (disch:=omega) only [qr,k6,go_sem]
  repeat' first
   |((first|apply qd|apply qb);exact rvk;simp only [go_sem];first|exact ql|apply qe|apply qa|apply qf|skip)
   |with_reducible first|intro _|apply aiA
  all_goals try exact clz
theorem qDb (l:List Tk) (h:List AObj):ACalls Tryz.prog 254 [jE l] h (.bool (decide (1024<l.length))) h:=by
 have k:decide ((1024:Int)<l.length)=decide (1024<l.length):=decide_eq_decide.2 (by omega)
 refine acO qxY ?_
 simp (disch:=omega) only [qwj,jE,go_sem]
 repeat' first
  |((first|apply qd|apply qb);exact rvk;simp only [go_sem];first|exact ql|apply qe|apply qa|apply qf|skip)
  |with_reducible first|intro _|apply aiA
 all_goals try exact clz
theorem qDc (L:List (List Tk)) (h:List AObj) (h1:0<L.length) (h2:L.length≤32) (h3: ∀s,s<L.length→(L.getD s []).length≤1024):ACalls Tryz.prog 208 [qr L] h (.int .i64 0) h:=by
 have k1:((L.length:Int)=0)=False:=eq_false (by omega)
 have k2:((32:Int)<L.length)=False:=eq_false (by omega)
 have c: ∀h,ACalls Tryz.prog 253 [qr L,.fn (.func 254) [] []] h (.bool false) h:=fun h=>by
  have e:zd (fun j=>decide (1024<(L.getD j []).length)) L.length=false:=qo.2 fun s hs=>decide_eq_false (by have:=h3 s hs;omega)
  rw [←e]
  unfold qr
  refine qhK qxX ⟨rfl,rfl⟩ ⟨rfl,rfl⟩ (qaD qyc L.length (fun j=> [jE (L.getD j [])]) (fun j=>jE (L.getD j [])) _ [] [] _ h (fun i _=>⟨rfl,by simp [zZ],rfl,rfl,rfl⟩) (fun i _=> ?_) (by omega))
  exact qDb _ h
 unfold qr at c
 refine acO qxK ?_
 simp (disch:=omega) only [qv8,qr,k1,k2,go_sem]
 repeat' first
  |((first|refine cA (c _) ?_ ?_|refine cG (fun e=>c _) ?_ ?_|refine cU (fun _=>c _) ?_ ?_);exact flk;simp (disch:=omega) only [qr,k1,k2,go_sem])
  |((first|apply qd|apply qb);exact rvk;simp only [go_sem];first|exact ql|apply qe|apply qa|apply qf|skip)
  |with_reducible first|intro _|apply aiA
 all_goals try exact clz
def gC (g:Nat→AV) (n:Nat):List AV:=(List.range n).map g
theorem qam (g:Nat→AV) (n:Nat):(gC g n).length=n:=by simp [gC]
theorem qcC {g:Nat→AV} {n k:Nat} (hk:k<n):(gC g n)[k]? =some (g k):=by
 unfold gC
 rw [List.getElem?_map,List.getElem?_range hk]
 rfl
theorem qaw {p q:Nat→AV} {n:Nat} (h: ∀k,k<n→p k=q k):gC p n=gC q n:=by
 unfold gC
 exact List.map_congr_left fun k hk=>by rw [h k (List.mem_range.1 hk)]
theorem qre {g:Nat→AV} {n u:Nat} (x:AV) (hu:u<n):List.take u (gC g n)++ [x]++List.drop (u+1) (gC g n)=gC (fun k=>if k=u then x else g k) n:=by
 refine List.ext_getElem? fun k=> ?_
 by_cases hk:k<n
 ·rw [qcC hk]
  by_cases h1:k<u
  ·rw [List.append_assoc,List.getElem?_append_left (by rw [List.length_take,qam];omega),List.getElem?_take_of_lt h1,qcC hk,if_neg (by omega)]
  ·by_cases h2:k=u
   ·subst h2
    rw [List.append_assoc,List.getElem?_append_right (by rw [List.length_take,qam];omega),List.length_take,qam,show k-min k n=0 by omega,if_pos rfl]
    rfl
   ·rw [List.getElem?_append_right (by rw [List.length_append,List.length_take,qam];simp only [List.length_cons,List.length_nil];omega),List.length_append,List.length_take,qam,List.getElem?_drop]
    simp only [List.length_cons,List.length_nil]
    rw [show u+1+(k-(min u n+(0+1)))=k by omega,qcC hk,if_neg h2]
 ·rw [List.getElem?_eq_none (by simp only [List.length_append,List.length_take,List.length_drop,qam,List.length_cons,List.length_nil];omega),List.getElem?_eq_none (by rw [qam];omega)]
theorem qlh (z:AV) (n:Nat):zu [z] n=gC (fun _=>z) n:=by
 induction n with
 |zero=>rfl
 |succ n ih=>
  have e:gC (fun _=>z) (n+1)=z::gC (fun _=>z) n:=by
   unfold gC
   rw [List.range_succ_eq_map,List.map_cons,List.map_map]
   rfl
  rw [e,←ih]
  rfl
section
variable {tok : List (List Tk)} {col : List (List Int)} {i s : Nat}
theorem qsD (h:(col.getD i []).length≠tok.length):qfF tok col i=false:=by unfold qfF;rw [decide_eq_false h,Bool.false_and]
theorem qwS (hs:s<tok.length) (h:enB tok col i s=false):qfF tok col i=false:=by
 unfold qfF
 rw [qG.2 ⟨s,hs,by rw [h];rfl⟩]
 simp
theorem qwT (h1:(col.getD i []).length=tok.length) (h2: ∀s,s<tok.length→enB tok col i s=true):qfF tok col i=zd (fun s=> !decide ((col.getD i []).getD s 0= -1)) tok.length:=by
 unfold qfF
 rw [decide_eq_true h1,qo.2 (fun s hs=>by rw [h2 s hs];rfl)]
 simp
theorem qAe (hi:i<col.length) (h:qfF tok col i=false):alB tok col=false:=by
 unfold alB
 rw [qG.2 ⟨i,hi,by rw [h];rfl⟩]
 simp
theorem qvC (hs:s<tok.length) (h:cnC col s col.length≠(tok.getD s []).length):alB tok col=false:=by
 unfold alB
 rw [qG.2 ⟨s,hs,by rw [decide_eq_false h];rfl⟩,Bool.not_true,Bool.and_false]
theorem qvD (h1: ∀i,i<col.length→qfF tok col i=true) (h2: ∀s,s<tok.length→cnC col s col.length=(tok.getD s []).length):alB tok col=true:=by
 unfold alB
 rw [qo.2 (fun i hi=>by rw [h1 i hi];rfl),qo.2 (fun s hs=>by rw [decide_eq_true (h2 s hs)];rfl)]
 rfl
theorem qwR: ∀i,cnC col s i≤i:=by
 intro i
 induction i with
 |zero=>exact Nat.le_refl _
 |succ i ih=>unfold cnC;split<;>omega
def atA (col:List (List Int)) (i s k:Nat):AV:= .int .i64 ((if k<s then cnC col k (i+1) else cnC col k i:Nat):Int)
theorem qvH:atA col i s s= .int .i64 (cnC col s i:Int):=by unfold atA;rw [if_neg (Nat.lt_irrefl _)]
theorem qAh (n:Nat):gC (atA col 0 0) n=gC (fun _=> .int .i64 0) n:=qaw fun k _=>by unfold atA;rw [if_neg (Nat.not_lt_zero _)];rfl
theorem qrN (n:Nat):gC (atA col i n) n=gC (atA col (i+1) 0) n:=qaw fun k hk=>by unfold atA;rw [if_pos hk,if_neg (Nat.not_lt_zero _)]
theorem qnO {n:Nat} (h:(col.getD i []).getD s 0= -1):gC (atA col i s) n=gC (atA col i (s+1)) n:=qaw fun k hk=>by
 unfold atA
 by_cases e:k=s
 ·subst e
  rw [if_neg (Nat.lt_irrefl _),if_pos (Nat.lt_succ_self _)]
  show _=AV.int .i64 ((cnC col k i+if (col.getD i []).getD k 0= -1 then 0 else 1:Nat):Int)
  rw [if_pos h]
  rfl
 ·by_cases h1:k<s
  ·rw [if_pos h1,if_pos (by omega)]
  ·rw [if_neg h1,if_neg (by omega)]
theorem qnP {n:Nat} (hs:s<n) (h:(col.getD i []).getD s 0≠ -1):List.take s (gC (atA col i s) n)++ [.int .i64 ((cnC col s i:Int)+1)]++List.drop (s+1) (gC (atA col i s) n)=gC (atA col i (s+1)) n:=by
 rw [qre _ hs]
 refine qaw fun k hk=> ?_
 unfold atA
 by_cases e:k=s
 ·subst e
  rw [if_pos rfl,if_pos (Nat.lt_succ_self _)]
  show _=AV.int .i64 ((cnC col k i+if (col.getD i []).getD k 0= -1 then 0 else 1:Nat):Int)
  rw [if_neg h]
  rfl
 ·rw [if_neg e]
  by_cases h1:k<s
  ·rw [if_pos h1,if_pos (by omega)]
  ·rw [if_neg h1,if_neg (by omega)]
theorem qjb (p:Nat→Bool) (n:Nat):zd p (n+1)=(zd p n||p n):=by
 cases e:zd p n with
 |true=>obtain ⟨i,h1,h2⟩:=qG.1 e;exact qG.2 ⟨i,by omega,h2⟩
 |false=>
  have h:=qo.1 e
  cases e2:p n with
  |true=>exact qG.2 ⟨n,by omega,e2⟩
  |false=>
   refine qo.2 fun i hi=> ?_
   by_cases g:i=n
   ·subst g;exact e2
   ·exact h i (by omega)
end
theorem qCu (tok:List (List Tk)) (col:List (List Int)) (h:List AObj) (hn:tok.length≤1000000000) (hc:col.length≤1000000000) (hl: ∀s,(tok.getD s []).length≤1000000000) (hm: ∀i,(col.getD i []).length≤1000000000):
  ACalls Tryz.prog 209 [qr tok,qp col] h (.bool (alB tok col)) h:=by
 have k0:(0≤(tok.length:Int))=True:=eq_true (by omega)
 have k1:((tok.length:Int)≤9223372036854775807)=True:=eq_true (by omega)
 obtain ⟨R,hR⟩: ∃R,R=alB tok col:=⟨_,rfl⟩
 rw [←hR]
 refine acO qxL ?_
 simp (disch:=omega) only [qv9,qr,qp,k0,k1,go_sem]
 repeat' first
  |((first|apply qd|apply qb);exact rvk;simp only [go_sem];first|exact ql|apply qe|apply qa|apply qf|skip)
  |with_reducible first|intro _|apply aiA
 all_goals try exact clz
 all_goals try rw [Int.toNat_natCast]
 rw [qlh,←qAh (col:=col)]
 refine qu (T:=fun i:Nat=>qT 76 [(0,qr tok),(5,.osl h.length 1 1 0 tok.length),(15,qp col),(16,.int .i64 col.length),(17,.int .i64 i)])
  (H:=fun i=>h++ [.mem 1 3 (gC (atA col i 0) tok.length)])
  (inv:=fun i=>i≤col.length∧ ∀j,j<i→qfF tok col j=true) (m:=fun i=>col.length-i) 0 ⟨Nat.zero_le _,fun j hj=>absurd hj (Nat.not_lt_zero j)⟩ (Wk.temps ?_) ?_
 ·(simp only [qr,qp,go_sem,qk,qh,qg,qj];try (repeat' first|(with_reducible apply aiA)|(apply qe;omega)|(apply qa;rfl)|exact ql))
 rintro i ⟨i1,i2⟩ K hK
 by_cases hi:i<col.length
 ·have k2:((i:Int)<col.length)=True:=eq_true (by omega)
  have hno:qfF tok col i=false→R=false:=fun hx=>by rw [hR];exact qAe hi hx
  have hlen:= @qsD tok col i
  have hen:= @qwS tok col i
  have heq:= @qwT tok col i
  have hskip:= @qnO col i
  have hstep:= @qnP col i
  have hmi:=hm i
  have hE: ∀s,enB tok col i s=(decide ((col.getD i []).getD s 0= -1)||(decide ((col.getD i []).getD s 0=(cnC col s i:Int))&&decide ((col.getD i []).getD s 0<((tok.getD s []).length:Int)))):=fun _=>rfl
  obtain ⟨c,hcx⟩: ∃c,c=col.getD i []:=⟨_,rfl⟩
  have ec:=hcx.symm
  rw [ec]at hlen heq hmi
  simp only [ec]at hskip hstep hE
  by_cases g1:c.length=tok.length
  case neg=>
   have k3:((c.length:Int)=tok.length)=False:=eq_false (by omega)
   rw [hno (hlen g1)]
   simp (disch:=omega) only [qr,qp,qq,k2,k3,ec,go_sem]
   repeat' first
    |((first|apply qd|apply qb);exact rvk;simp only [go_sem];first|exact ql|apply qe|apply qa|apply qf|skip)
    |with_reducible first|intro _|apply aiA
   all_goals try exact clz
  have k3:((c.length:Int)=tok.length)=True:=eq_true (by omega)
  have heq:=heq g1
  simp (disch:=omega) only [qr,qp,qq,k2,k3,ec,go_sem]
  repeat' first
   |((first|apply qd|apply qb);exact rvk;simp only [go_sem];first|exact ql|apply qe|apply qa|apply qf|skip)
   |with_reducible first|intro _|apply aiA
  all_goals try exact clz
  refine qu (T:=fun s:Nat=>qT 76 [(0,qr tok),(5,.osl h.length 1 1 0 tok.length),(8,.bool (zd (fun s=> !decide (c.getD s 0= -1)) s)),(15,qp col),(16,.int .i64 col.length),(17,.int .i64 i),(26,qq c),(27,.int .i64 c.length),(28,.int .i64 s)])
   (H:=fun s=>h++ [.mem 1 3 (gC (atA col i s) tok.length)])
   (inv:=fun s=>s≤c.length∧ ∀j,j<s→enB tok col i j=true) (m:=fun s=>c.length-s) 0 ⟨Nat.zero_le _,fun j hj=>absurd hj (Nat.not_lt_zero j)⟩ (Wk.temps ?_) ?_
  ·(simp only [qr,qp,qq,go_sem,qk,qh,qg,qj];try (repeat' first|(with_reducible apply aiA)|(apply qe;omega)|(apply qa;rfl)|exact ql))
  rintro s ⟨s1,s2⟩ K2 hK2
  by_cases hs:s<c.length
  ·have t1:((s:Int)<c.length)=True:=eq_true (by omega)
   have t0:(0≤(s:Int))=True:=eq_true (by omega)
   have hsn:s<tok.length:=by omega
   have t2:((s:Int)<tok.length)=True:=eq_true (by omega)
   have t3:(s<tok.length)=True:=eq_true hsn
   have t4:(s+1≤tok.length)=True:=eq_true hsn
   have gl:=qam (atA col i s) tok.length
   have gg:=qcC (g:=atA col i s) hsn
   rw [qvH]at gg
   have hsk:=hskip (s:=s) (n:=tok.length)
   have hst:=hstep (s:=s) hsn
   have hcn:= @qwR col s i
   have hlt:=hl s
   have hEs:=hE s
   have hap:=qjb (fun s=> !decide (c.getD s 0= -1)) s
   obtain ⟨t,ht⟩: ∃t,t=c.getD s 0:=⟨_,rfl⟩
   obtain ⟨l,hlx⟩: ∃l,l=tok.getD s []:=⟨_,rfl⟩
   have et:=ht.symm
   have el:=hlx.symm
   rw [et]at hsk hst hEs
   rw [el]at hEs hlt
   simp only [et]at hap
   obtain ⟨a,ha⟩: ∃a,a=zd (fun s=> !decide (c.getD s 0= -1)) s:=⟨_,rfl⟩
   have ea:=ha.symm
   rw [ea]at hap
   obtain ⟨q,hq⟩: ∃q:Nat,q=cnC col s i:=⟨_,rfl⟩
   have eq:=hq.symm
   rw [eq]at hst hEs hcn gg
   have b2:((q:Int)+1≤9223372036854775807)=True:=eq_true (by omega)
   have b3:(-9223372036854775808≤(q:Int)+1)=True:=eq_true (by omega)
   by_cases g2:t= -1
   ·have k4:(t= -1)=True:=eq_true g2
    rw [decide_eq_true g2,Bool.true_or]at hEs
    have hap':zd (fun s=> !decide (c.getD s 0= -1)) (s+1)=a:=by rw [hap,decide_eq_true g2];simp
    simp (disch:=omega) only [qr,qp,qq,t0,t1,t2,t3,t4,k4,et,ea,gl,gg,Nat.mul_one,Nat.zero_add,go_sem]
    repeat' first
     |((first|apply qd|apply qb);exact rvk;simp only [go_sem];first|exact ql|apply qe|apply qa|apply qf|skip)
     |with_reducible first|intro _|apply aiA
    all_goals try exact clz
    rw [hsk g2]
    refine hK2 _ _ (s+1) ⟨hs,fun j hj=> ?_⟩ (by omega) (Wk.temps ?_)
    ·by_cases e:j=s
     ·subst e;exact hEs
     ·exact s2 j (by omega)
    ·rw [hap']
     (simp only [qr,qp,qq,go_sem,qk,qh,qg,qj];try (repeat' first|(with_reducible apply aiA)|(apply qe;omega)|(apply qa;rfl)|exact ql))
   have k4:(t= -1)=False:=eq_false g2
   rw [decide_eq_false g2,Bool.false_or]at hEs
   have hap':zd (fun s=> !decide (c.getD s 0= -1)) (s+1)=true:=by rw [hap,decide_eq_false g2];simp
   by_cases g3:t=(q:Int)
   case neg=>
    have k5:(t=(q:Int))=False:=eq_false g3
    rw [decide_eq_false g3,Bool.false_and]at hEs
    rw [hno (hen hsn hEs)]
    simp (disch:=omega) only [qr,qp,qq,t0,t1,t2,t3,t4,k4,k5,et,ea,gl,gg,Nat.mul_one,Nat.zero_add,go_sem]
    repeat' first
     |((first|apply qd|apply qb);exact rvk;simp only [go_sem];first|exact ql|apply qe|apply qa|apply qf|skip)
     |with_reducible first|intro _|apply aiA
    all_goals try exact clz
   have k5:(t=(q:Int))=True:=eq_true g3
   rw [decide_eq_true g3,Bool.true_and]at hEs
   by_cases g4:(l.length:Int)≤t
   ·have k6:((l.length:Int)≤t)=True:=eq_true g4
    rw [decide_eq_false (by omega)]at hEs
    rw [hno (hen hsn hEs)]
    simp (disch:=omega) only [qr,jE,qp,qq,t0,t1,t2,t3,t4,k4,k5,k6,et,ea,el,gl,gg,Nat.mul_one,Nat.zero_add,go_sem]
    repeat' first
     |((first|apply qd|apply qb);exact rvk;simp only [go_sem];first|exact ql|apply qe|apply qa|apply qf|skip)
     |with_reducible first|intro _|apply aiA
    all_goals try exact clz
   ·have k6:((l.length:Int)≤t)=False:=eq_false g4
    rw [decide_eq_true (by omega)]at hEs
    have hst:=hst g2
    simp (disch:=omega) only [qr,jE,qp,qq,t0,t1,t2,t3,t4,k4,k5,k6,et,ea,el,gl,gg,b2,b3,hst,Nat.mul_one,Nat.zero_add,Option.isSome_some,go_sem]
    repeat' first
     |((first|apply qd|apply qb);exact rvk;simp only [go_sem];first|exact ql|apply qe|apply qa|apply qf|skip)
     |with_reducible first|intro _|apply aiA
    all_goals try exact clz
    try rw [hst]
    refine hK2 _ _ (s+1) ⟨hs,fun j hj=> ?_⟩ (by omega) (Wk.temps ?_)
    ·by_cases e:j=s
     ·subst e;exact hEs
     ·exact s2 j (by omega)
    ·rw [hap']
     (simp only [qr,jE,qp,qq,go_sem,qk,qh,qg,qj];try (repeat' first|(with_reducible apply aiA)|(apply qe;omega)|(apply qa;rfl)|exact ql))
  ·have t1:((s:Int)<c.length)=False:=eq_false (by omega)
   have es:s=tok.length:=by omega
   have heq:=heq fun j hj=>s2 j (by omega)
   rw [←es]at heq
   rw [es]at*
   cases ga:zd (fun s=> !decide (c.getD s 0= -1)) tok.length with
   |false=>
    rw [ga]at heq
    rw [hno heq]
    simp (disch:=omega) only [qr,qp,qq,t1,ga,go_sem]
    repeat' first
     |((first|apply qd|apply qb);exact rvk;simp only [go_sem];first|exact ql|apply qe|apply qa|apply qf|skip)
     |with_reducible first|intro _|apply aiA
    all_goals try exact clz
   |true=>
    rw [ga]at heq
    simp (disch:=omega) only [qr,qp,qq,t1,ga,go_sem]
    repeat' first
     |((first|apply qd|apply qb);exact rvk;simp only [go_sem];first|exact ql|apply qe|apply qa|apply qf|skip)
     |with_reducible first|intro _|apply aiA
    all_goals try exact clz
    rw [qrN]
    refine hK _ _ (i+1) ⟨hi,fun j hj=> ?_⟩ (by omega) (Wk.temps ?_)
    ·by_cases e:j=i
     ·subst e;exact heq
     ·exact i2 j (by omega)
    ·(simp only [qr,qp,qq,go_sem,qk,qh,qg,qj];try (repeat' first|(with_reducible apply aiA)|(apply qe;omega)|(apply qa;rfl)|exact ql))
 have k2:((i:Int)<col.length)=False:=eq_false (by omega)
 obtain rfl:i=col.length:=by omega
 clear hK
 simp (disch:=omega) only [qr,qp,k2,go_sem]
 repeat' first
  |((first|apply qd|apply qb);exact rvk;simp only [go_sem];first|exact ql|apply qe|apply qa|apply qf|skip)
  |with_reducible first|intro _|apply aiA
 all_goals try exact clz
 refine qu (T:=fun s:Nat=>qT 76 [(0,qr tok),(5,.osl h.length 1 1 0 tok.length),(61,.int .i64 tok.length),(62,.int .i64 s)])
  (H:=fun _=>h++ [.mem 1 3 (gC (atA col col.length 0) tok.length)])
  (inv:=fun s=>s≤tok.length∧ ∀j,j<s→cnC col j col.length=(tok.getD j []).length) (m:=fun s=>tok.length-s) 0 ⟨Nat.zero_le _,fun j hj=>absurd hj (Nat.not_lt_zero j)⟩ (Wk.temps ?_) ?_
 ·(simp only [qr,qp,go_sem,qk,qh,qg,qj];try (repeat' first|(with_reducible apply aiA)|(apply qe;omega)|(apply qa;rfl)|exact ql))
 rintro s ⟨s1,s2⟩ K hK
 by_cases hs:s<tok.length
 ·have t1:((s:Int)<tok.length)=True:=eq_true (by omega)
  have t0:(0≤(s:Int))=True:=eq_true (by omega)
  have t3:(s<tok.length)=True:=eq_true hs
  have t4:(s+1≤tok.length)=True:=eq_true hs
  have gl:=qam (atA col col.length 0) tok.length
  have gg:=qcC (g:=atA col col.length 0) hs
  have e0:atA col col.length 0 s= .int .i64 (cnC col s col.length:Int):=by unfold atA;rw [if_neg (Nat.not_lt_zero _)]
  rw [e0]at gg
  have hno:= @qvC tok col s hs
  obtain ⟨q,hq⟩: ∃q:Nat,q=cnC col s col.length:=⟨_,rfl⟩
  have eq:=hq.symm
  have hs2:q=(tok.getD s []).length→cnC col s col.length=(tok.getD s []).length:=fun e=>by rw [←hq];exact e
  rw [eq]at gg hno
  obtain ⟨l,hlx⟩: ∃l,l=tok.getD s []:=⟨_,rfl⟩
  have el:=hlx.symm
  rw [el]at hno hs2
  by_cases g:q=l.length
  ·have k5:((q:Int)=l.length)=True:=eq_true (by omega)
   simp (disch:=omega) only [qr,jE,t0,t1,t3,t4,k5,el,gl,gg,Nat.mul_one,Nat.zero_add,go_sem]
   repeat' first
    |((first|apply qd|apply qb);exact rvk;simp only [go_sem];first|exact ql|apply qe|apply qa|apply qf|skip)
    |with_reducible first|intro _|apply aiA
   all_goals try exact clz
   refine hK _ _ (s+1) ⟨hs,fun j hj=> ?_⟩ (by omega) (Wk.temps ?_)
   ·by_cases e:j=s
    ·subst e;rw [el];exact hs2 g
    ·exact s2 j (by omega)
   ·(simp only [qr,jE,go_sem,qk,qh,qg,qj];try (repeat' first|(with_reducible apply aiA)|(apply qe;omega)|(apply qa;rfl)|exact ql))
  ·have k5:((q:Int)=l.length)=False:=eq_false (by omega)
   rw [hR,hno g]
   simp (disch:=omega) only [qr,jE,t0,t1,t3,t4,k5,el,gl,gg,Nat.mul_one,Nat.zero_add,go_sem]
   repeat' first
    |((first|apply qd|apply qb);exact rvk;simp only [go_sem];first|exact ql|apply qe|apply qa|apply qf|skip)
    |with_reducible first|intro _|apply aiA
   all_goals try exact clz
 ·have t1:((s:Int)<tok.length)=False:=eq_false (by omega)
  rw [hR,qvD i2 (fun j hj=>s2 j (by omega))]
  simp (disch:=omega) only [qr,t1,go_sem]
  repeat' first
   |((first|apply qd|apply qb);exact rvk;simp only [go_sem];first|exact ql|apply qe|apply qa|apply qf|skip)
   |with_reducible first|intro _|apply aiA
  all_goals try exact clz
theorem qDa (tok:List (List Tk)) (col:List (List Int)) (h:List AObj) (h1:0<tok.length) (h2:tok.length≤32) (h3: ∀s,s<tok.length→(tok.getD s []).length≤1024) (hc:col.length≤1000000000) (hl: ∀s,(tok.getD s []).length≤1000000000) (hm: ∀i,(col.getD i []).length≤1000000000):
  ACalls Tryz.prog 153 [qr tok,qp col] h (.int .i64 (if alB tok col=true then 0 else 19)) h:=by
 have c1:=fun h=>qDc tok h h1 h2 h3
 have c2:=fun h=>qCu tok col h (by omega) hc hl hm
 cases g:alB tok col<;>rw [g]at c2
 all_goals
  refine acO qxt ?_
  simp (disch:=omega) only [qvV,go_sem]
  repeat' first
   |((first|refine cA (c1 _) ?_ ?_|refine cG (fun e=>c1 _) ?_ ?_|refine cA (c2 _) ?_ ?_|refine cG (fun e=>c2 _) ?_ ?_|refine cU (fun _=>c1 _) ?_ ?_|refine cU (fun _=>c2 _) ?_ ?_);exact flk;simp (disch:=omega) only [go_sem])
   |((first|apply qd|apply qb);exact rvk;simp only [go_sem];first|exact ql|apply qe|apply qa|apply qf|skip)
   |with_reducible first|intro _|apply aiA
  all_goals try exact clz
theorem qzu {x:Co} (h:srE x=0):0<x.sig.length∧x.sig.length≤32∧x.tok.length=x.sig.length∧ ∀s,s<x.tok.length→(x.tok.getD s []).length≤1024:=by
 unfold srE at h
 split at h
 ·cases h
 split at h
 ·cases h
 rename_i g2
 split at h
 ·cases h
 rename_i g3
 split at h
 ·rename_i g4;exact absurd h g4
 split at h
 ·cases h
 rename_i g5
 have h3:=jk.1 h
 refine ⟨by omega,by omega,Classical.not_not.1 g5,fun s hs=> ?_⟩
 have:=h3 s hs
 unfold qiQ at this
 split at this
 ·cases this
 ·omega
theorem coP (x:Co) (h:List AObj) (hz:qvh x) (hp:kY SG h):ACalls Tryz.prog 81 [.agg (coC x)] h (.int .i64 (coE x)) h:=by
 have c1:=fun l=>qDo x (h++l) hz (hp.app l)
 unfold coE
 by_cases g:srE x=0
 case neg=>
  have k1:(srE x=0)=False:=eq_false g
  rw [if_pos g]
  obtain ⟨e,he⟩: ∃e,e=srE x:=⟨_,rfl⟩
  rw [←he]at c1 k1 ⊢
  unfold strs qr at c1
  refine acO qyo ?_
  simp (disch:=omega) only [qAo,coC,strs,qr,go_sem]
  repeat' first
   |((first|refine cA (c1 _) ?_ ?_|refine cG (fun e=>c1 _) ?_ ?_|refine cU (fun _=>c1 _) ?_ ?_);exact flk;simp (disch:=omega) only [coC,strs,qr,k1,go_sem])
   |((first|apply qd|apply qb);exact rvk;simp only [go_sem];first|exact ql|apply qe|apply qa|apply qf|skip)
   |with_reducible first|intro _|apply aiA
  all_goals try exact clz
 rw [if_neg (fun hc=>hc g)]
 obtain ⟨o1,o2,o3,o4⟩:=qzu g
 have c2:=fun h=>qDa x.tok x.col h (by omega) (by omega) o4 hz.cl hz.tl hz.ce
 rw [g]at c1
 unfold strs qr at c1
 unfold qr qp at c2
 cases g2:alB x.tok x.col<;>rw [g2]at c2
 all_goals
  refine acO qyo ?_
  simp (disch:=omega) only [qAo,coC,strs,qr,qp,go_sem]
  repeat' first
   |((first|refine cA (c1 _) ?_ ?_|refine cG (fun e=>c1 _) ?_ ?_|refine cA (c2 _) ?_ ?_|refine cG (fun e=>c2 _) ?_ ?_|refine cU (fun _=>c1 _) ?_ ?_|refine cU (fun _=>c2 _) ?_ ?_);exact flk;simp (disch:=omega) only [coC,strs,qr,qp,go_sem])
   |((first|apply qd|apply qb);exact rvk;simp only [go_sem];first|exact ql|apply qe|apply qa|apply qf|skip)
   |with_reducible first|intro _|apply aiA
  all_goals try exact clz
end RC
end
section
open Go Go.Proofs AF
def zV:List Nat:= []
def qsd:C:=
 ((C.ops [O1 3 (.box 0 26) 0,MC 6 (.str []),MC 7 (.bool false)]).seq ((C.ops [O1 9 (.fldA 3) 3,LD 10 9,MV 11 1,O2 12 (.idxA 1) 10 11,LD 13 12,MV 14 2,O2 15 (.idxA 1) 13 14,
 LD 16 15,MV 8 16]).seq (((C.ops [MV 17 8,BC 18 .lss 17 (i6 0)]).seq (C.cond (.t 18) ((C.ops [MC 6 (.str []),MC 7 (.bool false)]).seq C.ret) C.skip)).seq ((C.ops [O1 19 (.fldA 2)
 3,LD 20 19,MV 21 2,O2 22 (.idxA 1) 20 21,LD 23 22,MV 24 8,O2 25 (.idxA 6) 23 24,O1 26 (.fldA 0) 25,LD 27 26,MV 6 27,MC 7 (.bool true)]).seq
 C.ret))))
theorem qq7:qK Tryz.prog 300 28 1 [RV.tmp 6,RV.tmp 7] qsd:=fi Tryz.f300 [3] zV []
def qws:C:=
 ((C.ops [O1 2 (.box 0 26) 0,MC 4 (.bool false)]).seq ((C.ops [O1 11 (.load (some 4)) 2,MV 12 1,ON 13 (.call 300 true) [.t 11,.t 12,.c (i6 0)],MV 10 13,O1 14 (.ext 0) 10,O1
 15 (.ext 1) 10,MV 5 14,MV 6 15]).seq (((C.ops [O1 16 (.fldA 1) 2,LD 17 16,O1 18 .len 17,MC 19 (i6 0)]).seq (C.block 0 ((C.ops [BI 20 .lss 19 18]).seq ((C.cond (.t 20) C.skip
 (C.exit 0)).seq ((C.block 1 ((C.ops [MV 21 19,MV 7 21]).seq ((C.ops [O1 23 (.load (some 4)) 2,MV 24 1,MV 25 7,ON 26 (.call 300 true) [.t 23,.t 24,.t 25],MV 22 26,O1 27
 (.ext 0) 22,O1 28 (.ext 1) 22,MV 8 27,MV 9 28]).seq ((C.ops [MV 29 6,O1 30 (.un UnOp.not) 29,MV 31 30,MG 32 31 false 9,P1 33 31 false (.un UnOp.not) 32,PT 34 31 33,MV 35
 34,MG 36 35 false 8,MG 37 35 false 5,P2 38 35 false (.bin .neq) 36 37,PT 39 35 38]).seq (C.cond (.t 39) ((C.ops [MC 4 (.bool false)]).seq C.ret) C.skip))))).seq (C.ops [BC 40
 .add 19 (i6 1),MV 19 40])))).loop)).seq ((C.ops [MC 4 (.bool true)]).seq
 C.ret))))
theorem qx7:qK Tryz.prog 278 41 1 [RV.tmp 4] qws:=fi Tryz.f278 [2] zV []
def qwe:C:=
 ((C.ops [O1 1 (.box 0 26) 0,MC 2 .nilfn]).seq ((C.ops [O1 3 (.mkfn (Fn.func 277) 0) 1,MV 2 3]).seq
 C.ret))
theorem qxQ:qK Tryz.prog 233 4 1 [RV.tmp 2] qwe:=fi Tryz.f233 [1] zV []
def qwr:C:=
 ((C.ops [MC 3 (i6 0)]).seq (C.block 0 (((C.ops [MV 5 3,O1 6 (.fldA 3) 1,LD 7 6,O1 8 .len 7,BI 9 .lss 5 8]).seq (C.cond (.t 9) C.skip (C.exit 0))).seq (C.block 1 ((C.ops [MV 10
 3,MV 4 10]).seq ((C.block 2 (((C.ops [MV 11 4,O1 12 (.fldA 3) 1,LD 13 12,O1 14 .len 13,BI 15 .lss 11 14,MV 16 15,P1 17 16 true (.load (some 4)) 1,MG 18 16 true 4,P2 19 16
 true (.call 278 true) 17 18,P1 20 16 true (.un UnOp.not) 19,PF 21 16 20]).seq (C.cond (.t 21) C.skip (C.exit 2))).seq (C.block 3 (C.ops [MV 22 4,BC 23 .add 22 (i6 1),MV 4
 23]))).loop).seq (((C.ops [MV 24 4,MV 25 3,BI 26 .gtr 24 25,MV 27 26,MG 28 27 true 0,MG 29 27 true 3,MG 30 27 true 4,PN 31 27 true .callv [.t 28,.t 29,.t 30],P1 32 27
 true (.un UnOp.not) 31,PF 33 27 32]).seq (C.cond (.t 33) C.ret C.skip)).seq (C.ops [MV 34 4,BC 35 .add 34 (i6 1),MV 3
 35])))))).loop))
theorem qx6:qK Tryz.prog 277 36 0 [] qwr:=fi Tryz.f277 [] zV []
def qwo:C:=
 ((C.ops [O1 4 (.box 0 26) 0,ON 8 (.nilo 1 1 9) []]).seq ((C.ops [ON 9 (.nilo 2 1 9) []]).seq (((C.ops [MV 13 1,MV 10 13]).seq (C.block 0 (((C.ops [MV 14 10,MV 15 2,BI 16 .lss
 14 15]).seq (C.cond (.t 16) C.skip (C.exit 0))).seq ((C.block 1 ((C.ops [O1 20 (.load (some 4)) 4,MV 21 10,MV 22 3,ON 23 (.call 300 true) [.t 20,.t 21,.t 22],MV 19 23,O1 24
 (.ext 0) 19,O1 25 (.ext 1) 19,MV 11 24,MV 12 25]).seq ((C.ops [MV 26 12]).seq (C.cond (.t 26) (C.ops [MV 27 9,MV 28 11,⟨some 29,none,.bslc 3 1 1 9 [.str []] [(0,1)],[.t
 28]⟩,O2 30 (.app 4 1 9 16) 27 29,MV 9 30]) C.skip)))).seq (C.ops [MV 17 10,BC 18 .add 17 (i6 1),MV 10 18]))).loop)).seq ((C.ops [MV 31 9,MV 8 31]).seq
 C.ret))))
theorem qx3:qK Tryz.prog 274 32 5 [RV.tmp 8] qwo:=fi Tryz.f274 [4,8,9,29,30] zV []
def qwp:C:=
 ((C.ops [O1 4 (.box 0 89) 1,O1 5 (.box 1 280) 2,MC 6 (i6 0)]).seq ((C.ops [MV 7 0,O2 8 (.mkfn (Fn.func 301) 0) 5 4,O2 9 (.call 127 true) 7 8,MV 6 9]).seq
 C.ret))
theorem qx4:qK Tryz.prog 275 10 2 [RV.tmp 6] qwp:=fi Tryz.f275 [4,5] zV []
def qwy:C:=
 ((C.ops [O1 3 (.box 0 89) 0,MC 4 (.bool false)]).seq ((C.ops [LD 5 1,O1 6 (.load (some 2)) 2,O1 7 (.load (some 2)) 3,ON 8 .callv [.t 5,.t 6,.t 7],MV 4 8]).seq
 C.ret))
theorem qye:qK Tryz.prog 301 9 1 [RV.tmp 4] qwy:=fi Tryz.f301 [3] zV []
def qwd:C:=
 ((C.ops [O1 3 (.box 0 26) 0,ON 6 (.nilo 1 2 89) []]).seq ((C.ops [ON 7 (.nilo 2 2 89) []]).seq (((C.ops [O1 11 (.fldA 1) 3,LD 12 11,O1 13 .len 12,MC 14 (i6 0)]).seq (C.block 0
 ((C.ops [BI 15 .lss 14 13]).seq ((C.cond (.t 15) C.skip (C.exit 0)).seq ((C.block 1 ((C.ops [MV 16 14,MV 8 16]).seq ((C.ops [O1 17 (.load (some 4)) 3,MV 18 1,MV 19 2,MV 20 8,
 ON 21 (.call 274 true) [.t 17,.t 18,.t 19,.t 20],MV 22 8,⟨some 23,none,.bslc 3 1 1 3 [i6 0] [(0,1)],[.t 22]⟩,⟨some 24,none,.build [.nl,.nl] [(0,1),(1,1)],[.t 21,
 .t 23]⟩,⟨some 9,none,.alloc 4 89 [.nl,.nl],[]⟩,ST 2 9 24]).seq ((C.ops [MV 25 7,O1 26 (.load (some 2)) 9,ON 27 (.call 275 true) [.t 25,.t 26,.c (.fn (Fn.func 276) []
 [])],MV 10 27]).seq (((C.ops [MV 28 10,BC 29 .lss 28 (i6 0)]).seq (C.cond (.t 29) ((C.ops [MV 30 7,O1 31 (.load (some 2)) 9,⟨some 32,none,.bslc 5 2 1 89 [.nl,.nl] [(0,2)],
 [.t 31]⟩,O2 33 (.app 6 2 89 48) 30 32,MV 7 33]).seq (C.exit 1)) C.skip)).seq (C.ops [MV 34 7,MV 35 10,MV 36 7,MV 37 10,O2 38 (.idxA 2) 36 37,O1 39 (.fldA 1) 38,LD 40 39,MV
 41 8,⟨some 42,none,.bslc 7 1 1 3 [i6 0] [(0,1)],[.t 41]⟩,O2 43 (.app 8 1 3 8) 40 42,O2 44 (.idxA 2) 34 35,O1 45 (.fldA 1) 44,ST 1 45 43])))))).seq (C.ops [BC 46 .add 14
 (i6 1),MV 14 46])))).loop)).seq ((C.ops [MV 47 7,MV 6 47]).seq
 C.ret))))
theorem qxP:qK Tryz.prog 232 48 9 [RV.tmp 6] qwd:=fi Tryz.f232 [3,6,7,23,9,32,33,42,43] zV []
def qwq:C:=
 ((C.ops [O1 2 (.box 0 89) 0,O1 3 (.box 1 89) 1,MC 4 (.bool false)]).seq ((C.ops [O1 5 (.fldA 0) 2,LD 6 5,O1 7 (.fldA 0) 3,LD 8 7,O2 9 (.call 53 true) 6 8,MV 4 9]).seq
 C.ret))
theorem qx5:qK Tryz.prog 276 10 2 [RV.tmp 4] qwq:=fi Tryz.f276 [2,3] zV []
def qwc:C:=
 ((C.ops [MC 4 (.bool false)]).seq ((C.ops [MV 5 0,MV 6 1,ON 7 (.call 272 true) [.t 5,.t 6,.c (.fn (Fn.func 273) [] [])],MV 4 7]).seq
 C.ret))
theorem qxO:qK Tryz.prog 231 8 0 [RV.tmp 4] qwc:=fi Tryz.f231 [] zV []
def qsb:C:=
 ((C.ops [O1 2 (.box 0 89) 0,O1 3 (.box 1 89) 1,MC 4 (.bool false)]).seq ((C.ops [O1 5 (.fldA 0) 2,LD 6 5,O1 7 (.fldA 0) 3,LD 8 7,O2 9 (.call 53 true) 6 8,MV 10 9,P1 11 10
 true (.fldA 1) 2,P1 12 10 true (.load none) 11,P1 13 10 true (.fldA 1) 3,P1 14 10 true (.load none) 13,P2 15 10 true (.call 40 true) 12 14,PF 16 10 15,MV 4 16]).seq
 C.ret))
theorem qq5:qK Tryz.prog 273 17 2 [RV.tmp 4] qsb:=fi Tryz.f273 [2,3] zV []
def qvZ:C:=
 ((C.ops [O1 2 (.box 0 26) 0,O1 3 (.box 1 27) 1,⟨some 4,none,.alloc 2 4 [.bool false],[]⟩]).seq ((C.ops [MC 5 (i6 (-1))]).seq (((C.ops [LD 10 3,O1 11 .len 10,MC 12 (i6
 0)]).seq (C.block 0 ((C.ops [BI 13 .lss 12 11]).seq ((C.cond (.t 13) C.skip (C.exit 0)).seq ((C.block 1 ((C.ops [O2 14 (.idxA 3) 10 12,O1 15 (.load (some 3)) 14,⟨some 7,none,
 .alloc 3 83 [i6 0,i6 0,.nl],[]⟩,ST 3 7 15]).seq (((C.ops [O1 16 (.fldA 0) 7,LD 17 16,MV 18 5,BI 19 .leq 17 18,MV 20 19,P1 21 20 false (.fldA 0) 7,P1 22 20 false (.load
 none) 21,PC 23 20 false (.bin .lss) 22 (i6 0),PT 24 20 23,MV 25 24,P1 26 25 false (.fldA 0) 7,P1 27 25 false (.load none) 26,P1 28 25 false (.fldA 1) 7,P1 29 25 false (.load
 none) 28,P2 30 25 false (.bin .geq) 27 29,PT 31 25 30,MV 32 31,P1 33 32 false (.fldA 1) 7,P1 34 32 false (.load none) 33,P1 35 32 false (.fldA 3) 2,P1 36 32 false (.load
 none) 35,P1 37 32 false .len 36,P2 38 32 false (.bin .gtr) 34 37,PT 39 32 38,MV 40 39,P1 41 40 false (.fldA 2) 7,P1 42 40 false (.load none) 41,P1 43 40 false (.load (some
 4)) 2,P1 44 40 false (.fldA 0) 7,P1 45 40 false (.load none) 44,P1 46 40 false (.fldA 1) 7,P1 47 40 false (.load none) 46,PN 48 40 false (.call 232 true) [.t 43,.t 45,.t
 47],P2 49 40 false (.call 231 true) 42 48,P1 50 40 false (.un UnOp.not) 49,PT 51 40 50]).seq (C.cond (.t 51) ((C.ops [⟨none,none,.store 1,[.t 4,.c (.bool false)]⟩]).seq
 C.ret) C.skip)).seq (C.ops [O1 52 (.fldA 1) 7,LD 53 52,MV 5 53])))).seq (C.ops [BC 54 .add 12 (i6 1),MV 12 54])))).loop)).seq (((C.ops [O1 55 (.load (some 4)) 2,O1 56 (.call
 233 true) 55]).seq (C.block 2 (C.range (.t 56) [57,58] ((C.ops [⟨some 8,none,.alloc 4 3 [i6 0],[]⟩,ST 1 8 57]).seq (C.ops [⟨some 9,none,.alloc 5 3 [i6 0],[]⟩,ST 1 9 58]))
 (C.block 3 ((C.ops [LD 59 3,O2 60 (.mkfn (Fn.func 234) 0) 8 9,O2 61 (.call 54 true) 59 60,O1 62 (.un UnOp.not) 61]).seq (C.cond (.t 62) ((C.ops [⟨none,none,.store 1,[.t 4,.c
 (.bool false)]⟩]).seq C.ret) C.skip)))))).seq ((C.ops [⟨none,none,.store 1,[.t 4,.c (.bool true)]⟩]).seq
 C.ret)))))
theorem qxy:qK Tryz.prog 177 63 6 [RV.cell 4 none] qvZ:=fi Tryz.f177 [2,3,4,7,8,9] zV []
def qr6:C:=
 ((C.ops [O1 3 (.box 0 83) 0,MC 4 (.bool false)]).seq ((C.ops [O1 5 (.fldA 0) 3,LD 6 5,LD 7 1,BI 8 .leq 6 7,MV 9 8,P1 10 9 true (.load none) 2,P1 11 9 true (.fldA 1) 3,P1 12
 9 true (.load none) 11,P2 13 9 true (.bin .leq) 10 12,PF 14 9 13,MV 4 14]).seq
 C.ret))
theorem qq0:qK Tryz.prog 234 15 1 [RV.tmp 4] qr6:=fi Tryz.f234 [3] zV []
def qrV:C:=
 ((C.ops [O1 2 (.box 0 26) 0,MC 4 (i6 0)]).seq (((C.ops [O1 5 (.load (some 4)) 2,O1 6 (.call 81 true) 5,BC 7 .neq 6 (i6 0)]).seq (C.cond (.t 7) ((C.ops [MC 4 (i6 1)]).seq C.ret)
 C.skip)).seq (((C.ops [O1 8 (.load (some 4)) 2,MV 9 1,O2 10 (.call 177 true) 8 9,O1 11 (.un UnOp.not) 10]).seq (C.cond (.t 11) ((C.ops [MC 4 (i6 20)]).seq C.ret) C.skip)).seq
 ((C.ops [MC 4 (i6 0)]).seq
 C.ret))))
theorem qqM:qK Tryz.prog 111 12 1 [RV.tmp 4] qrV:=fi Tryz.f111 [2] zV []
def qrW:C:=
 ((C.ops [O1 3 (.box 0 3) 1,MC 4 (i6 0),MC 5 (i6 0)]).seq (((C.ops [LD 6 3,BC 7 .lss 6 (i6 0)]).seq (C.cond (.t 7) ((C.ops [MC 4 (i6 0),MC 5 (i6 2)]).seq C.ret) C.skip)).seq
 ((C.ops [MV 8 0,O1 9 (.mkfn (Fn.func 178) 0) 3,O2 10 (.call 128 true) 8 9,MV 4 10,MC 5 (i6 0)]).seq
 C.ret)))
theorem qqN:qK Tryz.prog 113 11 1 [RV.tmp 4,RV.tmp 5] qrW:=fi Tryz.f113 [3] zV []
def qr3:C:=
 ((C.ops [O1 2 (.box 0 83) 0,MC 3 (.bool false)]).seq ((C.ops [O1 4 (.fldA 0) 2,LD 5 4,LD 6 1,BI 7 .leq 5 6,MV 8 7,P1 9 8 true (.load none) 1,P1 10 8 true (.fldA 1) 2,P1 11
 8 true (.load none) 10,P2 12 8 true (.bin .lss) 9 11,PF 13 8 12,MV 3 13]).seq
 C.ret))
theorem qqX:qK Tryz.prog 178 14 1 [RV.tmp 3] qr3:=fi Tryz.f178 [2] zV []
end
section
open Go Go.Proofs AF
def qbw:List Nat:= []
def qBZ:C:=
 ((C.ops [MC 2 (.bool false)]).seq (((C.ops [MC 3 (i6 0)]).seq (C.block 0 (((C.ops [MV 5 3,MV 6 0,O1 7 .len 6,BI 8 .lss 5 7]).seq (C.cond (.t 8) C.skip (C.exit 0))).seq ((C.block
 1 (((C.ops [MV 11 0,MV 12 3,O2 13 (.idxA 3) 11 12,O1 14 (.fldA 2) 13,LD 15 14,O1 16 .len 15,BC 17 .gtr 16 (i6 6)]).seq (C.cond (.t 17) ((C.ops [MC 2 (.bool true)]).seq C.ret)
 C.skip)).seq ((C.ops [MC 4 (i6 0)]).seq (C.block 2 (((C.ops [MV 18 4,MV 19 0,MV 20 3,O2 21 (.idxA 3) 19 20,O1 22 (.fldA 2) 21,LD 23 22,O1 24 .len 23,BI 25 .lss 18 24]).seq
 (C.cond (.t 25) C.skip (C.exit 2))).seq ((C.block 3 ((C.ops [MV 28 0,MV 29 3,O2 30 (.idxA 3) 28 29,O1 31 (.fldA 2) 30,LD 32 31,MV 33 4,O2 34 (.idxA 2) 32 33,O1 35 (.fldA 1)
 34,LD 36 35,O1 37 .len 36,BC 38 .gtr 37 (i6 8),MV 39 38,MG 40 39 false 0,MG 41 39 false 3,P2 42 39 false (.idxA 3) 40 41,P1 43 39 false (.fldA 2) 42,P1 44 39 false (.load
 none) 43,MG 45 39 false 4,P2 46 39 false (.idxA 2) 44 45,P1 47 39 false (.fldA 0) 46,P1 48 39 false (.load none) 47,PC 49 39 false (.call 70 true) 48 (i6 8),PT 50 39 49]).seq
 (C.cond (.t 50) ((C.ops [MC 2 (.bool true)]).seq C.ret) C.skip))).seq (C.ops [MV 26 4,BC 27 .add 26 (i6 1),MV 4 27]))).loop)))).seq (C.ops [MV 9 3,BC 10 .add 9 (i6 1),MV 3
 10]))).loop)).seq ((C.ops [MV 51 0,O1 52 .len 51,BC 53 .gtr 52 (i6 12),MV 2 53]).seq
 C.ret)))
theorem qAT:qK Tryz.prog 78 54 0 [RV.tmp 2] qBZ:=fi Tryz.f78 [] qbw []
def qBY:C:=
 ((C.ops [O1 1 (.box 0 26) 0,MC 2 (.bool false)]).seq (((C.ops [MC 3 (i6 0)]).seq (C.block 0 (((C.ops [MV 4 3,O1 5 (.fldA 3) 1,LD 6 5,O1 7 .len 6,BI 8 .lss 4 7]).seq (C.cond
 (.t 8) C.skip (C.exit 0))).seq ((C.block 1 ((C.ops [O1 11 (.fldA 3) 1,LD 12 11,MV 13 3,O2 14 (.idxA 1) 12 13,LD 15 14,O1 16 .len 15,BC 17 .gtr 16 (i6 36)]).seq (C.cond (.t
 17) ((C.ops [MC 2 (.bool true)]).seq C.ret) C.skip))).seq (C.ops [MV 9 3,BC 10 .add 9 (i6 1),MV 3 10]))).loop)).seq ((C.ops [O1 18 (.fldA 2) 1,LD 19 18,O1 20 (.call 149 true)
 19,MV 21 20,P1 22 21 false (.fldA 3) 1,P1 23 21 false (.load none) 22,P1 24 21 false .len 23,PC 25 21 false (.bin .gtr) 24 (i6 24),PT 26 21 25,MV 27 26,P1 28 27 false
 (.fldA 1) 1,P1 29 27 false (.load none) 28,P1 30 27 false .len 29,PC 31 27 false (.bin .gtr) 30 (i6 36),PT 32 27 31,MV 33 32,P1 34 33 false (.fldA 0) 1,P1 35 33 false (.load
 none) 34,P1 36 33 false (.fldA 1) 1,P1 37 33 false (.load none) 36,P2 38 33 false (.call 150 true) 35 37,PT 39 33 38,MV 2 39]).seq
 C.ret)))
theorem qAS:qK Tryz.prog 77 40 1 [RV.tmp 2] qBY:=fi Tryz.f77 [1] qbw []
def qvT:C:=
 ((C.ops [MC 2 (.bool false)]).seq ((C.ops [MC 3 (i6 1)]).seq (((C.ops [MC 4 (i6 0)]).seq (C.block 0 (((C.ops [MV 7 4,MV 8 0,O1 9 .len 8,BI 10 .lss 7 9]).seq (C.cond (.t 10)
 C.skip (C.exit 0))).seq ((C.block 1 (((C.ops [MV 13 0,MV 14 4,O2 15 (.idxA 1) 13 14,LD 16 15,O1 17 .len 16,BC 18 .gtr 17 (i6 6),MV 19 18,MG 20 19 false 4,PC 21 19 false
 (.bin .geq) 20 (i6 4),MG 22 19 false 21,MG 23 22 true 0,MG 24 22 true 4,P2 25 22 true (.idxA 1) 23 24,P1 26 22 true (.load none) 25,P1 27 22 true .len 26,PC 28 22 true (.bin
 .gtr) 27 (i6 1),QF 29 19 false 22 28,PT 30 19 29]).seq (C.cond (.t 30) ((C.ops [MC 2 (.bool true)]).seq C.ret) C.skip)).seq (((C.ops [MV 31 4,BC 32 .lss 31 (i6 4)]).seq (C.cond
 (.t 32) (C.ops [MV 33 3,MV 34 0,MV 35 4,O2 36 (.idxA 1) 34 35,LD 37 36,O1 38 .len 37,BC 39 .add 38 (i6 1),BI 40 .mul 33 39,MV 3 40]) C.skip)).seq ((C.ops [MC 5 (i6 0)]).seq
 (C.block 2 (((C.ops [MV 41 5,MV 42 0,MV 43 4,O2 44 (.idxA 1) 42 43,LD 45 44,O1 46 .len 45,BI 47 .lss 41 46]).seq (C.cond (.t 47) C.skip (C.exit 2))).seq ((C.block 3 ((C.ops
 [MV 50 0,MV 51 4,O2 52 (.idxA 1) 50 51,LD 53 52,MV 54 5,O2 55 (.idxA 6) 53 54,O1 56 (.load (some 6)) 55,⟨some 6,none,.alloc 0 124 [.str [],.str [],.str [],i6 0,i6 0,
 .str []],[]⟩,ST 6 6 56]).seq ((C.ops [O1 57 (.fldA 0) 6,LD 58 57,O1 59 .slen 58,BC 60 .gtr 59 (i6 12),MV 61 60,P1 62 61 false (.fldA 1) 6,P1 63 61 false (.load none) 62,P1
 64 61 false .slen 63,PC 65 61 false (.bin .gtr) 64 (i6 12),PT 66 61 65,MV 67 66,P1 68 67 false (.fldA 2) 6,P1 69 67 false (.fldA 0) 68,P1 70 67 false (.load none) 69,P1 71
 67 false .slen 70,PC 72 67 false (.bin .gtr) 71 (i6 20),PT 73 67 72,MV 74 73,P1 75 74 false (.fldA 5) 6,P1 76 74 false (.load none) 75,P1 77 74 false .slen 76,PC 78 74 false
 (.bin .gtr) 77 (i6 20),PT 79 74 78]).seq (C.cond (.t 79) ((C.ops [MC 2 (.bool true)]).seq C.ret) C.skip)))).seq (C.ops [MV 48 5,BC 49 .add 48 (i6 1),MV 5 49]))).loop))))).seq
 (C.ops [MV 11 4,BC 12 .add 11 (i6 1),MV 4 12]))).loop)).seq ((C.ops [MV 80 3,BC 81 .gtr 80 (i6 400),MV 82 81,MG 83 82 false 0,P1 84 82 false .len 83,PC 85 82 false (.bin
 .gtr) 84 (i6 6),MG 86 82 false 85,MG 87 86 true 0,P1 88 86 true .len 87,PC 89 86 true (.bin .leq) 88 (i6 32),QF 90 82 false 86 89,PT 91 82 90,MV 92 91,MG 93 92 false 0,P1
 94 92 false .len 93,PC 95 92 false (.bin .gtr) 94 (i6 34),PT 96 92 95,MV 2 96]).seq
 C.ret))))
theorem qxr:qK Tryz.prog 149 97 1 [RV.tmp 2] qvT:=fi Tryz.f149 [6] qbw []
def qvU:C:=
 ((C.ops [MC 4 (.bool false)]).seq (((C.ops [MC 5 (i6 0)]).seq (C.block 0 (((C.ops [MV 6 5,MV 7 1,O1 8 .len 7,BI 9 .lss 6 8]).seq (C.cond (.t 9) C.skip (C.exit 0))).seq ((C.block
 1 ((C.ops [MV 12 1,MV 13 5,O2 14 (.idxA 1) 12 13,LD 15 14,O1 16 .slen 15,BC 17 .gtr 16 (i6 20)]).seq (C.cond (.t 17) ((C.ops [MC 4 (.bool true)]).seq C.ret) C.skip))).seq
 (C.ops [MV 10 5,BC 11 .add 10 (i6 1),MV 5 11]))).loop)).seq ((C.ops [MV 18 0,O1 19 .slen 18,BC 20 .gtr 19 (i6 20),MV 4 20]).seq
 C.ret)))
theorem qxs:qK Tryz.prog 150 21 0 [RV.tmp 4] qvU:=fi Tryz.f150 [] qbw []
def qrX:C:=
 ((C.ops [O1 3 (.box 0 64) 0,MC 4 (.bool false)]).seq ((C.ops [O1 5 (.fldA 1) 3,LD 6 5,LD 7 1,BI 8 .eql 6 7,MV 9 8,P1 10 9 true (.fldA 0) 3,P1 11 9 true (.load none) 10,P1
 12 9 true (.load none) 2,P2 13 9 true (.bin .eql) 11 12,PF 14 9 13,MV 4 14]).seq
 C.ret))
theorem qqO:qK Tryz.prog 114 15 1 [RV.tmp 4] qrX:=fi Tryz.f114 [3] qbw []
def jy:C:=
 ((C.ops [O1 5 (.box 0 26) 0,O1 7 (.box 1 64) 2,O1 8 (.box 2 64) 3,MC 10 (i6 0)]).seq ((C.block 0 ((C.ops [O1 14 (.fldA 0) 7,LD 15 14,BC 16 .eql 15 (.str []),MV 17 16,P1 18
 17 false (.fldA 0) 7,P1 19 17 false (.load none) 18,P1 20 17 false .slen 19,PC 21 17 false (.bin .gtr) 20 (i6 64),PT 22 17 21,MV 13 22]).seq (C.cond (.t 13) ((C.ops [MC 10 (i6
 11)]).seq C.ret) ((C.ops [O1 24 (.fldA 1) 7,LD 25 24,BC 26 .lss 25 (i6 0),MV 27 26,P1 28 27 false (.fldA 1) 7,P1 29 27 false (.load none) 28,P1 30 27 false (.fldA 3) 5,P1 31
 27 false (.load none) 30,P1 32 27 false .len 31,P2 33 27 false (.bin .geq) 29 32,PT 34 27 33,MV 35 34,MG 36 35 false 4,P1 37 35 false (.un UnOp.not) 36,MG 38 35 false 37,P1
 39 38 true (.fldA 1) 7,P1 40 38 true (.load none) 39,P1 41 38 true (.fldA 1) 8,P1 42 38 true (.load none) 41,P2 43 38 true (.bin .lss) 40 42,QF 44 35 false 38 43,PT 45 35 44,
 MV 23 45]).seq (C.cond (.t 23) ((C.ops [MC 10 (i6 19)]).seq C.ret) ((C.ops [O1 47 (.fldA 2) 7,LD 48 47,BC 49 .lss 48 (i6 (-1)),MV 50 49,P1 51 50 false (.fldA 2) 7,P1 52 50
 false (.load none) 51,MG 53 50 false 1,P1 54 50 false .len 53,P2 55 50 false (.bin .geq) 52 54,PT 56 50 55,MV 46 56]).seq (C.cond (.t 46) ((C.ops [MC 10 (i6 20)]).seq C.ret)
 C.skip))))))).seq (((C.ops [MV 58 1,O1 59 (.fldA 1) 7,LD 60 59,O2 61 (.call 113 true) 58 60,MV 57 61,O1 62 (.ext 0) 57,O1 63 (.ext 1) 57,MV 11 62,MV 12 63]).seq ((C.ops [MV
 64 11,O1 65 (.fldA 2) 7,LD 66 65,BI 67 .neq 64 66]).seq (C.cond (.t 67) ((C.ops [MC 10 (i6 20)]).seq C.ret) C.skip))).seq (((C.ops [O1 68 (.fldA 3) 7,LD 69 68,BC 70 .lss 69
 (i6 (-1)),MV 71 70,P1 72 71 false (.fldA 2) 7,P1 73 71 false (.load none) 72,PC 74 71 false (.bin .lss) 73 (i6 0),MG 75 71 false 74,P1 76 75 true (.fldA 3) 7,P1 77 75 true
 (.load none) 76,PC 78 75 true (.bin .neq) 77 (i6 (-1)),QF 79 71 false 75 78,PT 80 71 79,MV 81 80,MG 82 81 false 4,P1 83 81 false (.un UnOp.not) 82,MG 84 81 false 83,P1 85
 84 true (.fldA 2) 7,P1 86 84 true (.load none) 85,PC 87 84 true (.bin .geq) 86 (i6 0),QF 88 81 false 84 87,MG 89 81 false 88,P1 90 89 true (.fldA 2) 7,P1 91 89 true (.load
 none) 90,P1 92 89 true (.fldA 2) 8,P1 93 89 true (.load none) 92,P2 94 89 true (.bin .eql) 91 93,QF 95 81 false 89 94,MG 96 81 false 95,P1 97 96 true (.fldA 3) 7,P1 98 96
 true (.load none) 97,P1 99 96 true (.fldA 3) 8,P1 100 96 true (.load none) 99,P2 101 96 true (.bin .neq) 98 100,QF 102 81 false 96 101,PT 103 81 102]).seq (C.cond (.t 103)
 ((C.ops [MC 10 (i6 2)]).seq C.ret) C.skip)).seq ((C.ops [MC 10 (i6 0)]).seq
 C.ret)))))
theorem zL:qK Tryz.prog 112 104 3 [RV.tmp 10] jy:=fi Tryz.f112 [5,7,8] qbw []
end
section
open Go Go.Proofs AF HY LN
namespace RC
theorem qAC (u:Un) (c:Int) (h:List AObj):ACalls Tryz.prog 178 [.agg (unC u),.ip [.int .i64 c]] h (.bool (decide (u.frm≤c)&&decide (c<u.to))) h:=by
 by_cases g:u.frm≤c
 ·have k1:(u.frm≤c)=True:=eq_true g
  rw [decide_eq_true g,Bool.true_and]
  refine acO qqX ?_
  simp (disch:=omega) only [qr3,unC,k1,go_sem]
  repeat' first
   |((first|apply qd|apply qb);exact rvk;simp only [go_sem];first|exact ql|apply qe|apply qa|apply qf|skip)
   |with_reducible first|intro _|apply aiA
  all_goals try exact clz
 ·have k1:(u.frm≤c)=False:=eq_false g
  rw [decide_eq_false g,Bool.false_and]
  refine acO qqX ?_
  simp (disch:=omega) only [qr3,unC,k1,go_sem]
  repeat' first
   |((first|apply qd|apply qb);exact rvk;simp only [go_sem];first|exact ql|apply qe|apply qa|apply qf|skip)
   |with_reducible first|intro _|apply aiA
  all_goals try exact clz
theorem qC5 (l:List Un) (c:Int) (k v:Nat) (h:List AObj) (hk:getO k h=some (.mem v 3 [.int .i64 c])) (hl:l.length≤1000000000):
  ACalls Tryz.prog 128 [qE l,.fn (.func 178) [] [.op k v 0]] h (.int .i64 (fnU l c)) h:=by
 have hc:=qX hk
 unfold qE fnU
 refine qaD qqS l.length (fun j=>unC (l.getD j default)) (fun j=> .agg (unC (l.getD j default))) _ [] [.op k v 0] _ h (fun i _=>⟨rfl,by simp [zZ,unC],rfl,rfl,rfl⟩) (fun i _=> ?_) (by omega)
 refine ACalls.borrow ?_ rfl
 have e:([AV.agg (unC (l.getD i default))]++ [AV.op k v 0]).map (rei (fun _=>true) h 8)= [.agg (unC (l.getD i default)),.ip [.int .i64 c]]:=by
  simp only [List.cons_append,List.nil_append,List.map_cons,List.map_nil,rei_op,if_true,hc,ipOf_some,List.drop_zero,rei_agg]
  rfl
 rw [List.nil_append,e]
 exact qAC _ c _
def fnR (l:List Un) (c:Int):Int:=if c<0 then 0 else fnU l c
def fnE (c:Int):Int:=if c<0 then 2 else 0
theorem qCa (l:List Un) (c:Int) (h:List AObj) (hl:l.length≤1000000000):ACalls Tryz.prog 113 [qE l,.int .i64 c] h (.tup [.int .i64 (fnR l c),.int .i64 (fnE c)]) h:=by
 unfold fnR fnE
 by_cases g:c<0
 ·have k1:(c<0)=True:=eq_true g
  rw [if_pos g,if_pos g]
  refine acO qqN ?_
  simp (disch:=omega) only [qrW,k1,go_sem]
  repeat' first
   |((first|apply qd|apply qb);exact rvk;simp only [go_sem];first|exact ql|apply qe|apply qa|apply qf|skip)
   |with_reducible first|intro _|apply aiA
  all_goals try exact clz
 ·have k1:(c<0)=False:=eq_false g
  rw [if_neg g,if_neg g]
  have c1:=qC5 l c h.length 1 (h++ [.mem 1 3 [.int .i64 c]]) (by rw [getO_app0];rfl) hl
  refine acO qqN ?_
  simp (disch:=omega) only [qrW,k1,go_sem]
  repeat' first
   |((first|refine cA (c1) ?_ ?_|refine cG (fun e=>c1) ?_ ?_);exact flk;simp (disch:=omega) only [k1,go_sem])
   |((first|apply qd|apply qb);exact rvk;simp only [go_sem];first|exact ql|apply qe|apply qa|apply qf|skip)
   |with_reducible first|intro _|apply aiA
  all_goals try exact clz
theorem qDB (x:Co) (l:List Un) (w bef:Wd) (first:Bool) (h:List AObj) (hl:l.length≤1000000000) (hc:x.col.length≤1000000000) (hw:w.text.length≤1000000000):
  ACalls Tryz.prog 112 [.agg (coC x),qE l,.agg (wdC w),.agg (wdC bef),.bool first] h (.int .i64 (wdE x l w bef first)) h:=by
 obtain ⟨R,hR⟩: ∃R,R=wdE x l w bef first:=⟨_,rfl⟩
 rw [←hR]
 unfold wdE at hR
 have cF:=fun h=>qCa l w.col h hl
 by_cases g0:w.text= []
 ·have k0:(w.text= [])=True:=eq_true g0
  rw [if_pos (.inl g0)]at hR
  rw [hR]
  refine acO zL ?_
  simp (disch:=omega) only [jy,coC,wdC,qE,k0,go_sem]
  repeat' first
   |((first|apply qd|apply qb);exact rvk;simp only [go_sem];first|exact ql|apply qe|apply qa|apply qf|skip)
   |with_reducible first|intro _|apply aiA
  all_goals try exact clz
 have k0:(w.text= [])=False:=eq_false g0
 simp only [k0,false_or]at hR
 obtain ⟨p,hp⟩: ∃p,p=fnU l w.col:=⟨_,rfl⟩
 rw [←hp]at hR
 cases first with
 |true=>
  simp only [Bool.true_eq_false,false_and,or_false,true_and]at hR
  by_cases gB:64<w.text.length
  ·have kB:((64:Int)<w.text.length)=True:=eq_true (by first|exact gB|omega)
   have hV:R=11:=by rw [hR];(repeat' split)<;>first|rfl|(exfalso;omega)
   rw [hV]
   refine acO zL ?_
   simp (disch:=omega) only [jy,coC,wdC,qE,qp,k0,kB,go_sem]
   repeat' first
    |((first|apply qd|apply qb);exact rvk;simp only [go_sem];first|exact ql|apply qe|apply qa|apply qf|skip)
    |with_reducible first|intro _|apply aiA
   all_goals try exact clz
  ·have kB:((64:Int)<w.text.length)=False:=eq_false (by first|exact gB|omega)
   by_cases gC:w.col<0
   ·have kC:(w.col<0)=True:=eq_true (by first|exact gC|omega)
    have hV:R=19:=by rw [hR];(repeat' split)<;>first|rfl|(exfalso;omega)
    rw [hV]
    refine acO zL ?_
    simp (disch:=omega) only [jy,coC,wdC,qE,qp,k0,kB,kC,go_sem]
    repeat' first
     |((first|apply qd|apply qb);exact rvk;simp only [go_sem];first|exact ql|apply qe|apply qa|apply qf|skip)
     |with_reducible first|intro _|apply aiA
    all_goals try exact clz
   ·have kC:(w.col<0)=False:=eq_false (by first|exact gC|omega)
    have eF:fnR l w.col=p:=by unfold fnR;rw [if_neg gC,hp]
    have eE:fnE w.col=0:=if_neg gC
    simp only [eF,eE]at cF
    by_cases gD:(x.col.length:Int)≤w.col
    ·have kD:((x.col.length:Int)≤w.col)=True:=eq_true (by first|exact gD|omega)
     have hV:R=19:=by rw [hR];(repeat' split)<;>first|rfl|(exfalso;omega)
     rw [hV]
     refine acO zL ?_
     simp (disch:=omega) only [jy,coC,wdC,qE,qp,k0,kB,kC,kD,go_sem]
     repeat' first
      |((first|apply qd|apply qb);exact rvk;simp only [go_sem];first|exact ql|apply qe|apply qa|apply qf|skip)
      |with_reducible first|intro _|apply aiA
     all_goals try exact clz
    ·have kD:((x.col.length:Int)≤w.col)=False:=eq_false (by first|exact gD|omega)
     by_cases gG:w.unit< -1
     ·have kG:(w.unit< -1)=True:=eq_true (by first|exact gG|omega)
      have hV:R=20:=by rw [hR];(repeat' split)<;>first|rfl|(exfalso;omega)
      rw [hV]
      refine acO zL ?_
      simp (disch:=omega) only [jy,coC,wdC,qE,qp,k0,kB,kC,kD,kG,go_sem]
      repeat' first
       |((first|apply qd|apply qb);exact rvk;simp only [go_sem];first|exact ql|apply qe|apply qa|apply qf|skip)
       |with_reducible first|intro _|apply aiA
      all_goals try exact clz
     ·have kG:(w.unit< -1)=False:=eq_false (by first|exact gG|omega)
      by_cases gH:(l.length:Int)≤w.unit
      ·have kH:((l.length:Int)≤w.unit)=True:=eq_true (by first|exact gH|omega)
       have hV:R=20:=by rw [hR];(repeat' split)<;>first|rfl|(exfalso;omega)
       rw [hV]
       refine acO zL ?_
       simp (disch:=omega) only [jy,coC,wdC,qE,qp,k0,kB,kC,kD,kG,kH,go_sem]
       repeat' first
        |((first|apply qd|apply qb);exact rvk;simp only [go_sem];first|exact ql|apply qe|apply qa|apply qf|skip)
        |with_reducible first|intro _|apply aiA
       all_goals try exact clz
      ·have kH:((l.length:Int)≤w.unit)=False:=eq_false (by first|exact gH|omega)
       by_cases gI:p=w.unit
       ·have kI:(p=w.unit)=True:=eq_true (by first|exact gI|omega)
        by_cases gJ:w.dec< -1
        ·have kJ:(w.dec< -1)=True:=eq_true (by first|exact gJ|omega)
         have hV:R=2:=by rw [hR];(repeat' split)<;>first|rfl|(exfalso;omega)
         rw [hV]
         refine acO zL ?_
         simp (disch:=omega) only [jy,coC,wdC,qE,qp,k0,kB,kC,kD,kG,kH,kI,kJ,go_sem]
         repeat' first
          |((first|refine cA (cF _) ?_ ?_|refine cG (fun e=>cF _) ?_ ?_|refine cU (fun _=>cF _) ?_ ?_);exact flk;simp (disch:=omega) only [coC,wdC,qE,qp,k0,kB,kC,kD,kG,kH,kI,kJ,go_sem])
          |((first|apply qd|apply qb);exact rvk;simp only [go_sem];first|exact ql|apply qe|apply qa|apply qf|skip)
          |with_reducible first|intro _|apply aiA
         all_goals try exact clz
        ·have kJ:(w.dec< -1)=False:=eq_false (by first|exact gJ|omega)
         by_cases gK:w.unit<0
         ·have kK:(w.unit<0)=True:=eq_true (by first|exact gK|omega)
          have kKb:(0≤w.unit)=False:=eq_false (by first|exact gK|omega)
          by_cases gL:w.dec= -1
          ·have kL:(w.dec= -1)=True:=eq_true (by first|exact gL|omega)
           have hV:R=0:=by rw [hR];(repeat' split)<;>first|rfl|(exfalso;omega)
           rw [hV]
           refine acO zL ?_
           simp (disch:=omega) only [jy,coC,wdC,qE,qp,k0,kB,kC,kD,kG,kH,kI,kJ,kK,kKb,kL,go_sem]
           repeat' first
            |((first|refine cA (cF _) ?_ ?_|refine cG (fun e=>cF _) ?_ ?_|refine cU (fun _=>cF _) ?_ ?_);exact flk;simp (disch:=omega) only [coC,wdC,qE,qp,k0,kB,kC,kD,kG,kH,kI,kJ,kK,kKb,kL,go_sem])
            |((first|apply qd|apply qb);exact rvk;simp only [go_sem];first|exact ql|apply qe|apply qa|apply qf|skip)
            |with_reducible first|intro _|apply aiA
           all_goals try exact clz
          ·have kL:(w.dec= -1)=False:=eq_false (by first|exact gL|omega)
           have hV:R=2:=by rw [hR];(repeat' split)<;>first|rfl|(exfalso;omega)
           rw [hV]
           refine acO zL ?_
           simp (disch:=omega) only [jy,coC,wdC,qE,qp,k0,kB,kC,kD,kG,kH,kI,kJ,kK,kKb,kL,go_sem]
           repeat' first
            |((first|refine cA (cF _) ?_ ?_|refine cG (fun e=>cF _) ?_ ?_|refine cU (fun _=>cF _) ?_ ?_);exact flk;simp (disch:=omega) only [coC,wdC,qE,qp,k0,kB,kC,kD,kG,kH,kI,kJ,kK,kKb,kL,go_sem])
            |((first|apply qd|apply qb);exact rvk;simp only [go_sem];first|exact ql|apply qe|apply qa|apply qf|skip)
            |with_reducible first|intro _|apply aiA
           all_goals try exact clz
         ·have kK:(w.unit<0)=False:=eq_false (by first|exact gK|omega)
          have kKb:(0≤w.unit)=True:=eq_true (by first|exact gK|omega)
          have hV:R=0:=by rw [hR];(repeat' split)<;>first|rfl|(exfalso;omega)
          rw [hV]
          refine acO zL ?_
          simp (disch:=omega) only [jy,coC,wdC,qE,qp,k0,kB,kC,kD,kG,kH,kI,kJ,kK,kKb,go_sem]
          repeat' first
           |((first|refine cA (cF _) ?_ ?_|refine cG (fun e=>cF _) ?_ ?_|refine cU (fun _=>cF _) ?_ ?_);exact flk;simp (disch:=omega) only [coC,wdC,qE,qp,k0,kB,kC,kD,kG,kH,kI,kJ,kK,kKb,go_sem])
           |((first|apply qd|apply qb);exact rvk;simp only [go_sem];first|exact ql|apply qe|apply qa|apply qf|skip)
           |with_reducible first|intro _|apply aiA
          all_goals try exact clz
       ·have kI:(p=w.unit)=False:=eq_false (by first|exact gI|omega)
        have hV:R=20:=by rw [hR];(repeat' split)<;>first|rfl|(exfalso;omega)
        rw [hV]
        refine acO zL ?_
        simp (disch:=omega) only [jy,coC,wdC,qE,qp,k0,kB,kC,kD,kG,kH,kI,go_sem]
        repeat' first
         |((first|refine cA (cF _) ?_ ?_|refine cG (fun e=>cF _) ?_ ?_|refine cU (fun _=>cF _) ?_ ?_);exact flk;simp (disch:=omega) only [coC,wdC,qE,qp,k0,kB,kC,kD,kG,kH,kI,go_sem])
         |((first|apply qd|apply qb);exact rvk;simp only [go_sem];first|exact ql|apply qe|apply qa|apply qf|skip)
         |with_reducible first|intro _|apply aiA
        all_goals try exact clz
 |false=>
  simp only [true_and]at hR
  by_cases gB:64<w.text.length
  ·have kB:((64:Int)<w.text.length)=True:=eq_true (by first|exact gB|omega)
   have hV:R=11:=by rw [hR];(repeat' split)<;>first|rfl|(exfalso;omega)
   rw [hV]
   refine acO zL ?_
   simp (disch:=omega) only [jy,coC,wdC,qE,qp,k0,kB,go_sem]
   repeat' first
    |((first|apply qd|apply qb);exact rvk;simp only [go_sem];first|exact ql|apply qe|apply qa|apply qf|skip)
    |with_reducible first|intro _|apply aiA
   all_goals try exact clz
  ·have kB:((64:Int)<w.text.length)=False:=eq_false (by first|exact gB|omega)
   by_cases gC:w.col<0
   ·have kC:(w.col<0)=True:=eq_true (by first|exact gC|omega)
    have hV:R=19:=by rw [hR];(repeat' split)<;>first|rfl|(exfalso;omega)
    rw [hV]
    refine acO zL ?_
    simp (disch:=omega) only [jy,coC,wdC,qE,qp,k0,kB,kC,go_sem]
    repeat' first
     |((first|apply qd|apply qb);exact rvk;simp only [go_sem];first|exact ql|apply qe|apply qa|apply qf|skip)
     |with_reducible first|intro _|apply aiA
    all_goals try exact clz
   ·have kC:(w.col<0)=False:=eq_false (by first|exact gC|omega)
    have eF:fnR l w.col=p:=by unfold fnR;rw [if_neg gC,hp]
    have eE:fnE w.col=0:=if_neg gC
    simp only [eF,eE]at cF
    by_cases gD:(x.col.length:Int)≤w.col
    ·have kD:((x.col.length:Int)≤w.col)=True:=eq_true (by first|exact gD|omega)
     have hV:R=19:=by rw [hR];(repeat' split)<;>first|rfl|(exfalso;omega)
     rw [hV]
     refine acO zL ?_
     simp (disch:=omega) only [jy,coC,wdC,qE,qp,k0,kB,kC,kD,go_sem]
     repeat' first
      |((first|apply qd|apply qb);exact rvk;simp only [go_sem];first|exact ql|apply qe|apply qa|apply qf|skip)
      |with_reducible first|intro _|apply aiA
     all_goals try exact clz
    ·have kD:((x.col.length:Int)≤w.col)=False:=eq_false (by first|exact gD|omega)
     by_cases gF:w.col<bef.col
     ·have kF:(w.col<bef.col)=True:=eq_true (by first|exact gF|omega)
      have hV:R=19:=by rw [hR];(repeat' split)<;>first|rfl|(exfalso;omega)
      rw [hV]
      refine acO zL ?_
      simp (disch:=omega) only [jy,coC,wdC,qE,qp,k0,kB,kC,kD,kF,go_sem]
      repeat' first
       |((first|apply qd|apply qb);exact rvk;simp only [go_sem];first|exact ql|apply qe|apply qa|apply qf|skip)
       |with_reducible first|intro _|apply aiA
      all_goals try exact clz
     ·have kF:(w.col<bef.col)=False:=eq_false (by first|exact gF|omega)
      by_cases gG:w.unit< -1
      ·have kG:(w.unit< -1)=True:=eq_true (by first|exact gG|omega)
       have hV:R=20:=by rw [hR];(repeat' split)<;>first|rfl|(exfalso;omega)
       rw [hV]
       refine acO zL ?_
       simp (disch:=omega) only [jy,coC,wdC,qE,qp,k0,kB,kC,kD,kF,kG,go_sem]
       repeat' first
        |((first|apply qd|apply qb);exact rvk;simp only [go_sem];first|exact ql|apply qe|apply qa|apply qf|skip)
        |with_reducible first|intro _|apply aiA
       all_goals try exact clz
      ·have kG:(w.unit< -1)=False:=eq_false (by first|exact gG|omega)
       by_cases gH:(l.length:Int)≤w.unit
       ·have kH:((l.length:Int)≤w.unit)=True:=eq_true (by first|exact gH|omega)
        have hV:R=20:=by rw [hR];(repeat' split)<;>first|rfl|(exfalso;omega)
        rw [hV]
        refine acO zL ?_
        simp (disch:=omega) only [jy,coC,wdC,qE,qp,k0,kB,kC,kD,kF,kG,kH,go_sem]
        repeat' first
         |((first|apply qd|apply qb);exact rvk;simp only [go_sem];first|exact ql|apply qe|apply qa|apply qf|skip)
         |with_reducible first|intro _|apply aiA
        all_goals try exact clz
       ·have kH:((l.length:Int)≤w.unit)=False:=eq_false (by first|exact gH|omega)
        by_cases gI:p=w.unit
        ·have kI:(p=w.unit)=True:=eq_true (by first|exact gI|omega)
         by_cases gJ:w.dec< -1
         ·have kJ:(w.dec< -1)=True:=eq_true (by first|exact gJ|omega)
          have hV:R=2:=by rw [hR];(repeat' split)<;>first|rfl|(exfalso;omega)
          rw [hV]
          refine acO zL ?_
          simp (disch:=omega) only [jy,coC,wdC,qE,qp,k0,kB,kC,kD,kF,kG,kH,kI,kJ,go_sem]
          repeat' first
           |((first|refine cA (cF _) ?_ ?_|refine cG (fun e=>cF _) ?_ ?_|refine cU (fun _=>cF _) ?_ ?_);exact flk;simp (disch:=omega) only [coC,wdC,qE,qp,k0,kB,kC,kD,kF,kG,kH,kI,kJ,go_sem])
           |((first|apply qd|apply qb);exact rvk;simp only [go_sem];first|exact ql|apply qe|apply qa|apply qf|skip)
           |with_reducible first|intro _|apply aiA
          all_goals try exact clz
         ·have kJ:(w.dec< -1)=False:=eq_false (by first|exact gJ|omega)
          by_cases gK:w.unit<0
          ·have kK:(w.unit<0)=True:=eq_true (by first|exact gK|omega)
           have kKb:(0≤w.unit)=False:=eq_false (by first|exact gK|omega)
           by_cases gL:w.dec= -1
           ·have kL:(w.dec= -1)=True:=eq_true (by first|exact gL|omega)
            have hV:R=0:=by rw [hR];(repeat' split)<;>first|rfl|(exfalso;omega)
            rw [hV]
            refine acO zL ?_
            simp (disch:=omega) only [jy,coC,wdC,qE,qp,k0,kB,kC,kD,kF,kG,kH,kI,kJ,kK,kKb,kL,go_sem]
            repeat' first
             |((first|refine cA (cF _) ?_ ?_|refine cG (fun e=>cF _) ?_ ?_|refine cU (fun _=>cF _) ?_ ?_);exact flk;simp (disch:=omega) only [coC,wdC,qE,qp,k0,kB,kC,kD,kF,kG,kH,kI,kJ,kK,kKb,kL,go_sem])
             |((first|apply qd|apply qb);exact rvk;simp only [go_sem];first|exact ql|apply qe|apply qa|apply qf|skip)
             |with_reducible first|intro _|apply aiA
            all_goals try exact clz
           ·have kL:(w.dec= -1)=False:=eq_false (by first|exact gL|omega)
            have hV:R=2:=by rw [hR];(repeat' split)<;>first|rfl|(exfalso;omega)
            rw [hV]
            refine acO zL ?_
            simp (disch:=omega) only [jy,coC,wdC,qE,qp,k0,kB,kC,kD,kF,kG,kH,kI,kJ,kK,kKb,kL,go_sem]
            repeat' first
             |((first|refine cA (cF _) ?_ ?_|refine cG (fun e=>cF _) ?_ ?_|refine cU (fun _=>cF _) ?_ ?_);exact flk;simp (disch:=omega) only [coC,wdC,qE,qp,k0,kB,kC,kD,kF,kG,kH,kI,kJ,kK,kKb,kL,go_sem])
             |((first|apply qd|apply qb);exact rvk;simp only [go_sem];first|exact ql|apply qe|apply qa|apply qf|skip)
             |with_reducible first|intro _|apply aiA
            all_goals try exact clz
          ·have kK:(w.unit<0)=False:=eq_false (by first|exact gK|omega)
           have kKb:(0≤w.unit)=True:=eq_true (by first|exact gK|omega)
           by_cases gO:w.unit=bef.unit
           ·have kO:(w.unit=bef.unit)=True:=eq_true (by first|exact gO|omega)
            by_cases gP:w.dec=bef.dec
            ·have kP:(w.dec=bef.dec)=True:=eq_true (by first|exact gP|omega)
             have hV:R=0:=by rw [hR];(repeat' split)<;>first|rfl|(exfalso;omega)
             rw [hV]
             refine acO zL ?_
             simp (disch:=omega) only [jy,coC,wdC,qE,qp,k0,kB,kC,kD,kF,kG,kH,kI,kJ,kK,kKb,kO,kP,go_sem]
             repeat' first
              |((first|refine cA (cF _) ?_ ?_|refine cG (fun e=>cF _) ?_ ?_|refine cU (fun _=>cF _) ?_ ?_);exact flk;simp (disch:=omega) only [coC,wdC,qE,qp,k0,kB,kC,kD,kF,kG,kH,kI,kJ,kK,kKb,kO,kP,go_sem])
              |((first|apply qd|apply qb);exact rvk;simp only [go_sem];first|exact ql|apply qe|apply qa|apply qf|skip)
              |with_reducible first|intro _|apply aiA
             all_goals try exact clz
            ·have kP:(w.dec=bef.dec)=False:=eq_false (by first|exact gP|omega)
             have hV:R=2:=by rw [hR];(repeat' split)<;>first|rfl|(exfalso;omega)
             rw [hV]
             refine acO zL ?_
             simp (disch:=omega) only [jy,coC,wdC,qE,qp,k0,kB,kC,kD,kF,kG,kH,kI,kJ,kK,kKb,kO,kP,go_sem]
             repeat' first
              |((first|refine cA (cF _) ?_ ?_|refine cG (fun e=>cF _) ?_ ?_|refine cU (fun _=>cF _) ?_ ?_);exact flk;simp (disch:=omega) only [coC,wdC,qE,qp,k0,kB,kC,kD,kF,kG,kH,kI,kJ,kK,kKb,kO,kP,go_sem])
              |((first|apply qd|apply qb);exact rvk;simp only [go_sem];first|exact ql|apply qe|apply qa|apply qf|skip)
              |with_reducible first|intro _|apply aiA
             all_goals try exact clz
           ·have kO:(w.unit=bef.unit)=False:=eq_false (by first|exact gO|omega)
            have hV:R=0:=by rw [hR];(repeat' split)<;>first|rfl|(exfalso;omega)
            rw [hV]
            refine acO zL ?_
            simp (disch:=omega) only [jy,coC,wdC,qE,qp,k0,kB,kC,kD,kF,kG,kH,kI,kJ,kK,kKb,kO,go_sem]
            repeat' first
             |((first|refine cA (cF _) ?_ ?_|refine cG (fun e=>cF _) ?_ ?_|refine cU (fun _=>cF _) ?_ ?_);exact flk;simp (disch:=omega) only [coC,wdC,qE,qp,k0,kB,kC,kD,kF,kG,kH,kI,kJ,kK,kKb,kO,go_sem])
             |((first|apply qd|apply qb);exact rvk;simp only [go_sem];first|exact ql|apply qe|apply qa|apply qf|skip)
             |with_reducible first|intro _|apply aiA
            all_goals try exact clz
        ·have kI:(p=w.unit)=False:=eq_false (by first|exact gI|omega)
         have hV:R=20:=by rw [hR];(repeat' split)<;>first|rfl|(exfalso;omega)
         rw [hV]
         refine acO zL ?_
         simp (disch:=omega) only [jy,coC,wdC,qE,qp,k0,kB,kC,kD,kF,kG,kH,kI,go_sem]
         repeat' first
          |((first|refine cA (cF _) ?_ ?_|refine cG (fun e=>cF _) ?_ ?_|refine cU (fun _=>cF _) ?_ ?_);exact flk;simp (disch:=omega) only [coC,wdC,qE,qp,k0,kB,kC,kD,kF,kG,kH,kI,go_sem])
          |((first|apply qd|apply qb);exact rvk;simp only [go_sem];first|exact ql|apply qe|apply qa|apply qf|skip)
          |with_reducible first|intro _|apply aiA
         all_goals try exact clz
section
variable {x : Co} {k s : Nat}
theorem qAv (h:List AObj) (ho:CoOk x) (hk:k<x.col.length) (hs:s<x.sig.length):ACalls Tryz.prog 300 [.agg (coC x),.int .i64 (k:Int),.int .i64 (s:Int)] h (.tup [.str ((clT x k s).getD []),.bool (clT x k s).isSome]) h:=by
 have hcl:=ho.cl k hk
 have hce:=ho.ce k hk s hs
 have htn:=ho.tn
 unfold clT
 obtain ⟨c,hc⟩: ∃c,c=x.col.getD k []:=⟨_,rfl⟩
 have ec:=hc.symm
 rw [ec]at hcl hce ⊢
 obtain ⟨t,ht⟩: ∃t,t=c.getD s 0:=⟨_,rfl⟩
 have et:=ht.symm
 rw [et]at hce ⊢
 obtain ⟨l,hl⟩: ∃l,l=x.tok.getD s []:=⟨_,rfl⟩
 have el:=hl.symm
 rw [el]at hce ⊢
 have k0:(0≤(k:Int))=True:=eq_true (by omega)
 have k1:((k:Int)<x.col.length)=True:=eq_true (by omega)
 have k2:((s:Int)<c.length)=True:=eq_true (by omega)
 have k3:((s:Int)<x.tok.length)=True:=eq_true (by omega)
 have k4:(0≤(s:Int))=True:=eq_true (by omega)
 by_cases g:t<0
 ·have k5:(t<0)=True:=eq_true g
  rw [if_pos g]
  refine acO qq7 ?_
  simp (disch:=omega) only [qsd,coC,qp,qq,k0,k1,k2,k4,k5,ec,et,go_sem]
  repeat' first
   |((first|apply qd|apply qb);exact rvk;simp only [go_sem];first|exact ql|apply qe|apply qa|apply qf|skip)
   |with_reducible first|intro _|apply aiA
  all_goals try exact clz
 ·have k5:(t<0)=False:=eq_false g
  rw [if_neg g]
  have k6:(t<l.length)=True:=eq_true (by rcases hce with e|e;omega;omega)
  have k7:(0≤t)=True:=eq_true (by omega)
  obtain ⟨w,hw⟩: ∃w,w=l.getD t.toNat default:=⟨_,rfl⟩
  have ew:=hw.symm
  rw [ew]
  refine acO qq7 ?_
  simp (disch:=omega) only [qsd,coC,qp,qq,qr,jE,tkC,k0,k1,k2,k3,k4,k5,k6,k7,ec,et,el,ew,go_sem]
  repeat' first
   |((first|apply qd|apply qb);exact rvk;simp only [go_sem];first|exact ql|apply qe|apply qa|apply qf|skip)
   |with_reducible first|intro _|apply aiA
  all_goals try exact clz
theorem cmP (h:List AObj) (ho:CoOk x) (hk:k<x.col.length):ACalls Tryz.prog 278 [.agg (coC x),.int .i64 (k:Int)] h (.bool (cmB x k)) h:=by
 have hsg:=ho.sg
 obtain ⟨R,hR⟩: ∃R,R=cmB x k:=⟨_,rfl⟩
 rw [←hR]
 unfold cmB at hR
 have c0:=fun h=>qAv (x:=x) (k:=k) (s:=0) h ho hk hsg.1
 obtain ⟨o0,ho0⟩: ∃o0,o0=clT x k 0:=⟨_,rfl⟩
 rw [←ho0]at hR c0
 have ez:((0:Nat):Int)=0:=rfl
 rw [ez]at c0
 have zl: ∀g,valL g .len [strs x.sig]= .int .i64 x.sig.length:=fun _=>rfl
 have zo: ∀g,okL g .len [strs x.sig]=True:=fun _=>eq_true trivial
 unfold coC at c0
 refine acO qx7 ?_
 simp (disch:=omega) only [qws,coC,zl,zo,go_sem]
 repeat' first
  |((first|refine cA (c0 _) ?_ ?_|refine cG (fun e=>c0 _) ?_ ?_|refine cU (fun _=>c0 _) ?_ ?_);exact flk;simp (disch:=omega) only [coC,zl,zo,go_sem])
  |((first|apply qd|apply qb);exact rvk;simp only [go_sem];first|exact ql|apply qe|apply qa|apply qf|skip)
  |with_reducible first|intro _|apply aiA
 all_goals try exact clz
 refine qu (T:=fun i:Nat=>qT 41 [(1,.int .i64 (k:Int)),(2,.op h.length 1 0),(5,.str (o0.getD [])),(6,.bool o0.isSome),(18,.int .i64 x.sig.length),(19,.int .i64 i)]) (H:=fun _=>h++ [.mem 1 26 (coC x)])
  (inv:=fun i=>i≤x.sig.length∧ ∀j,j<i→(decide (clT x k j=none)|| !decide (clT x k j=o0))=false) (m:=fun i=>x.sig.length-i) 0 ⟨Nat.zero_le _,fun j hj=>absurd hj (Nat.not_lt_zero j)⟩ (Wk.temps ?_) ?_
 ·(simp only [go_sem,qk,qh,qg,qj];try (repeat' first|(with_reducible apply aiA)|(apply qe;omega)|(apply qa;rfl)|exact ql))
 rintro i ⟨i1,i2⟩ K hK
 by_cases hi:i<x.sig.length
 ·have k1:((i:Int)<x.sig.length)=True:=eq_true (by omega)
  have c1:=fun h=>qAv (x:=x) (k:=k) (s:=i) h ho hk hi
  have hno:(decide (clT x k i=none)|| !decide (clT x k i=o0))=true→R=false:=fun hx=>by rw [hR,qG.2 ⟨i,hi,hx⟩];rfl
  have hS:(decide (clT x k i=none)|| !decide (clT x k i=o0))=false→ ∀j,j<i+1→(decide (clT x k j=none)|| !decide (clT x k j=o0))=false:=fun hx j hj=>by
   by_cases e:j=i
   ·subst e;exact hx
   ·exact i2 j (by omega)
  obtain ⟨o,hox⟩: ∃o,o=clT x k i:=⟨_,rfl⟩
  rw [←hox]at hno hS
  rw [←hox]at c1
  unfold coC at c1
  cases o0 with
  |none=>
   have hV:R=false:=hno (by cases o<;>simp)
   rw [hV]
   simp (disch:=omega) only [coC,k1,Option.isSome_none,Option.getD_none,go_sem]
   repeat' first
    |((first|refine cA (c1 _) ?_ ?_|refine cG (fun e=>c1 _) ?_ ?_|refine cU (fun _=>c1 _) ?_ ?_);exact flk;simp (disch:=omega) only [coC,k1,Option.isSome_none,Option.getD_none,go_sem])
    |((first|apply qd|apply qb);exact rvk;simp only [go_sem];first|exact ql|apply qe|apply qa|apply qf|skip)
    |with_reducible first|intro _|apply aiA
   all_goals try exact clz
  |some w0=>
  cases o with
  |none=>
   rw [hno rfl]
   simp (disch:=omega) only [coC,k1,Option.isSome_none,Option.getD_none,Option.isSome_some,Option.getD_some,go_sem]
   repeat' first
    |((first|refine cA (c1 _) ?_ ?_|refine cG (fun e=>c1 _) ?_ ?_|refine cU (fun _=>c1 _) ?_ ?_);exact flk;simp (disch:=omega) only [coC,k1,Option.isSome_none,Option.getD_none,Option.isSome_some,Option.getD_some,go_sem])
    |((first|apply qd|apply qb);exact rvk;simp only [go_sem];first|exact ql|apply qe|apply qa|apply qf|skip)
    |with_reducible first|intro _|apply aiA
   all_goals try exact clz
  |some w=>
  by_cases g:w=w0
  ·have q1:(w=w0)=True:=eq_true g
   simp (disch:=omega) only [coC,k1,q1,Option.isSome_some,Option.getD_some,go_sem]
   repeat' first
    |((first|refine cA (c1 _) ?_ ?_|refine cG (fun e=>c1 _) ?_ ?_|refine cU (fun _=>c1 _) ?_ ?_);exact flk;simp (disch:=omega) only [coC,k1,q1,Option.isSome_some,Option.getD_some,go_sem])
    |((first|apply qd|apply qb);exact rvk;simp only [go_sem];first|exact ql|apply qe|apply qa|apply qf|skip)
    |with_reducible first|intro _|apply aiA
   all_goals try exact clz
   refine hK _ _ (i+1) ⟨hi,hS (by rw [g];simp)⟩ (by omega) (Wk.temps ?_)
   (simp only [go_sem,qk,qh,qg,qj];try (repeat' first|(with_reducible apply aiA)|(apply qe;omega)|(apply qa;rfl)|exact ql))
  ·have q1:(w=w0)=False:=eq_false g
   rw [hno (by simp [g])]
   simp (disch:=omega) only [coC,k1,q1,Option.isSome_some,Option.getD_some,go_sem]
   repeat' first
    |((first|refine cA (c1 _) ?_ ?_|refine cG (fun e=>c1 _) ?_ ?_|refine cU (fun _=>c1 _) ?_ ?_);exact flk;simp (disch:=omega) only [coC,k1,q1,Option.isSome_some,Option.getD_some,go_sem])
    |((first|apply qd|apply qb);exact rvk;simp only [go_sem];first|exact ql|apply qe|apply qa|apply qf|skip)
    |with_reducible first|intro _|apply aiA
   all_goals try exact clz
 ·have k1:((i:Int)<x.sig.length)=False:=eq_false (by omega)
  have hV:R=true:=by rw [hR,qo.2 fun j hj=>i2 j (by omega)];rfl
  rw [hV]
  simp (disch:=omega) only [coC,k1,go_sem]
  repeat' first
   |((first|apply qd|apply qb);exact rvk;simp only [go_sem];first|exact ql|apply qe|apply qa|apply qf|skip)
   |with_reducible first|intro _|apply aiA
  all_goals try exact clz
end
theorem rdP (x:Co) (f t s:Nat) (h:List AObj) (ho:CoOk x) (ht:t≤x.col.length) (hs:s<x.sig.length) (hn:x.col.length≤1000000000):ACalls Tryz.prog 274 [.agg (coC x),.int .i64 (f:Int),.int .i64 (t:Int),.int .i64 (s:Int)] h (strs (rdG x s f (t-f))) h:=by
 refine acO qx3 ?_
 simp (disch:=omega) only [qwo,coC,go_sem]
 repeat' first
  |((first|apply qd|apply qb);exact rvk;simp only [go_sem];first|exact ql|apply qe|apply qa|apply qf|skip)
  |with_reducible first|intro _|apply aiA
 all_goals try exact clz
 refine qu (T:=fun i:Nat×Nat×AObj=>qT 32 [(2,.int .i64 (t:Int)),(3,.int .i64 (s:Int)),(4,.op h.length 1 0),(9,.osl (h.length+2) i.2.1 1 0 (rdG x s f i.1).length),(10,.int .i64 ((f+i.1:Nat):Int))])
  (H:=fun i=>h++ [.mem 1 26 (coC x),.emp 1,zM i.2.1 9 (jj (rdG x s f i.1)),i.2.2,.emp 0])
  (inv:=fun i=>i.1≤t-f∧qP [i.2.2] 0=true) (m:=fun i=>t-f-i.1) (0,1,.emp 0) ⟨Nat.zero_le _,rfl⟩ (Wk.temps ?_) ?_
 ·(simp only [rdG,List.length_nil,Nat.add_zero,go_sem,qk,qh,qg,qj];try (repeat' first|(with_reducible apply aiA)|(apply qe;omega)|(apply qa;rfl)|exact ql))
 rintro ⟨d,v,O⟩ ⟨i1,i2⟩ K hK
 simp only at i1 i2 hK
 have i2': ∀m,qP (O::m) 0=true:=fun _=>i2
 have hln:=qdX x s f d
 have hst:rdG x s f (d+1)=rdG x s f d++(clT x (f+d) s).toList:=rfl
 obtain ⟨L,hL⟩: ∃L,L=rdG x s f d:=⟨_,rfl⟩
 rw [←hL]at hln hst
 have eL:=hL.symm
 have eC:=jL L
 by_cases hi:f+d<t
 ·have k1:(((f+d:Nat):Int)<t)=True:=eq_true (by omega)
  have c1:=fun h=>qAv (x:=x) (k:=f+d) (s:=s) h ho (by omega) hs
  obtain ⟨o,hox⟩: ∃o,o=clT x (f+d) s:=⟨_,rfl⟩
  rw [←hox]at hst c1
  unfold coC at c1
  have eTk:List.take L.length (jj L)=jj L:=List.take_of_length_le (by omega)
  cases o with
  |none=>
   have hst:rdG x s f (d+1)=L:=by rw [hst];simp
   simp (disch:=omega) only [coC,k1,i2',eL,Option.isSome_none,Option.getD_none,go_sem]
   repeat' first
    |((first|refine cA (c1 _) ?_ ?_|refine cG (fun e=>c1 _) ?_ ?_|refine cU (fun _=>c1 _) ?_ ?_);exact flk;simp (disch:=omega) only [coC,k1,i2',eL,Option.isSome_none,Option.getD_none,go_sem])
    |((first|apply qd|apply qb);exact rvk;simp only [go_sem];first|exact ql|apply qe|apply qa|apply qf|skip)
    |with_reducible first|intro _|apply aiA
   all_goals try exact clz
   refine hK _ _ (d+1,v,O) ⟨by omega,i2⟩ (by simp only;omega) ?_
   simp only [hst]
   refine Wk.temps ?_
   (simp only [go_sem,qk,qh,qg,qj];try (repeat' first|(with_reducible apply aiA)|(apply qe;omega)|(apply qa;rfl)|exact ql))
  |some w=>
   have hst:rdG x s f (d+1)=L++ [w]:=hst
   simp (disch:=omega) only [coC,k1,i2',eL,Nat.mul_one,eC,eTk,Option.isSome_some,Option.getD_some,go_sem]
   repeat' first
    |((first|refine cA (c1 _) ?_ ?_|refine cG (fun e=>c1 _) ?_ ?_|refine cU (fun _=>c1 _) ?_ ?_);exact flk;simp (disch:=omega) only [coC,k1,i2',eL,eC,eTk,Nat.mul_one,Option.isSome_some,Option.getD_some,go_sem])
    |((first|apply qd|apply qb);exact rvk;simp only [go_sem];first|exact ql|apply qe|apply qa|apply qf|skip)
    |with_reducible first|intro _|apply aiA
   all_goals try exact clz
   have eA:jj L++ [AV.str w]=jj (rdG x s f (d+1)):=by rw [hst,qco];rfl
   try rw [eA]
   refine hK _ _ (d+1,v+1,.mem (qx (some O)+1) 9 [.str w]) ⟨by omega,rfl⟩ (by simp only;omega) ?_
   simp only [hst,List.length_append,List.length_cons,List.length_nil]
   refine Wk.temps ?_
   (simp only [go_sem,qk,qh,qg,qj];try (repeat' first|(with_reducible apply aiA)|(apply qe;omega)|(apply qa;rfl)|exact ql))
 ·have k1:(((f+d:Nat):Int)<t)=False:=eq_false (by omega)
  obtain rfl:d=t-f:=by omega
  rw [eL]
  simp (disch:=omega) only [k1,eL,eC,go_sem]
  repeat' first
   |((first|apply qd|apply qb);exact rvk;simp only [go_sem];first|exact ql|apply qe|apply qa|apply qf|skip)
   |with_reducible first|intro _|apply aiA
  all_goals try exact clz
  exact qcn (fun _=>rfl) rfl
end RC
end
