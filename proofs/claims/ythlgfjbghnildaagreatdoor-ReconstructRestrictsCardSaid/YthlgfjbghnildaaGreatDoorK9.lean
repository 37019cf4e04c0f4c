import Derived.Test.YthlgfjbghnildaaGreatDoorK8
import Derived.Test.YthlgfjbghnildaaGreatDoorK1
import Derived.Test.YthlgfjbghnildaaGreatDoorK3
import Derived.Test.YthlgfjbghnildaaGreatDoorK6
import Derived.Test.YthlgfjbghnildaaGreatDoorProg
set_option linter.all false
set_option linter.unusedSimpArgs false
set_option linter.unusedVariables false
set_option linter.unusedSectionVars false
set_option maxRecDepth 100000
section
open Go Go.Proofs AF HY LN
namespace RC
set_option maxHeartbeats 8000000
theorem _root_.AF.Wk.kill3 {t:List AV} {h l:List AObj} {a b c:AObj} {v:Nat} {ty:TypeId} {cs:List AV}:Wk t (h++a::b::c:: .mem v ty cs::l) t (h++a::b::c:: .emp (v+1)::l):=by
 have:=Wk.kill0 (t:=t) (h:=h++ [a,b,c]) (l:=l) (v:=v) (ty:=ty) (cs:=cs)
 simpa using this
theorem qzw (names:List Str) (gs:List Gr) (t:List Str) (e:En) (h:List AObj) (hz:Szs names gs) (ht:TSz t) (he:ESz e) (hp:qaF SG h):
  qm Tryz.prog 78 [strs names,qv gs,strs t,.agg (enC e)] h (.int .i64 (qcr names gs t e)) h:=by
 have c59:=fun h=>sgP names gs h hz
 have cw:=fun l=>qzm t (h++l) ht.n ht.s (hp.app l)
 have t1:=ht.n
 obtain ⟨R,hR⟩: ∃R,R=qcr names gs t e:=⟨_,rfl⟩
 rw [←hR]
 unfold qcr at hR
 obtain ⟨s,hs⟩: ∃s,s=sgE names gs:=⟨_,rfl⟩
 rw [←hs]at c59 hR
 obtain ⟨w,hw⟩: ∃w,w=qaD t:=⟨_,rfl⟩
 rw [←hw]at cw hR
 by_cases g0:s≠0
 ·have k0:(s=0)=False:=eq_false g0
  rw [if_pos g0]at hR
  rw [hR]
  refine acO qbn ?_
  simp (disch:=omega) only [qgx,List.replicate,enC,go_sem]
  repeat' first
   |((first|refine cA (c59 _) ?_ ?_|refine cG (fun e=>c59 _) ?_ ?_|refine cU (fun _=>c59 _) ?_ ?_);(next=>exact flk);simp (disch:=omega) only [k0,go_sem])
   |((first|apply qc|apply qb);exact rvk;simp only [go_sem];first|exact VLe.refl _|apply qd|apply qa|apply qe|skip)
   |with_reducible first|refine And.intro ?_ ?_|intro _
  all_goals try exact clz
 have g0:s=0:=Classical.not_not.1 g0
 have k0:(s=0)=True:=eq_true g0
 rw [if_neg (fun hc=>hc g0)]at hR
 by_cases g1:4096<t.length
 ·have k1:((4096:Int)<t.length)=True:=eq_true (by omega)
  rw [if_pos g1]at hR
  rw [hR]
  refine acO qbn ?_
  simp (disch:=omega) only [qgx,List.replicate,enC,strs,go_sem]
  unfold strs at c59
  repeat' first
   |((first|refine cA (c59 _) ?_ ?_|refine cG (fun e=>c59 _) ?_ ?_|refine cU (fun _=>c59 _) ?_ ?_);(next=>exact flk);simp (disch:=omega) only [k0,k1,strs,go_sem])
   |((first|apply qc|apply qb);exact rvk;simp only [go_sem];first|exact VLe.refl _|apply qd|apply qa|apply qe|skip)
   |with_reducible first|refine And.intro ?_ ?_|intro _
  all_goals try exact clz
 have k1:((4096:Int)<t.length)=False:=eq_false (by omega)
 rw [if_neg g1]at hR
 unfold strs at c59 cw
 by_cases g2:w≠0
 ·have k2:(w=0)=False:=eq_false g2
  rw [if_pos g2]at hR
  rw [hR]
  refine acO qbn ?_
  simp (disch:=omega) only [qgx,List.replicate,enC,strs,go_sem]
  repeat' first
   |((first|refine cA (c59 _) ?_ ?_|refine cG (fun e=>c59 _) ?_ ?_|refine cA (cw _) ?_ ?_|refine cG (fun e=>cw _) ?_ ?_|refine cU (fun _=>c59 _) ?_ ?_|refine cU (fun _=>cw _) ?_ ?_);(next=>exact flk);simp (disch:=omega) only [k0,k1,k2,strs,go_sem])
   |((first|apply qc|apply qb);exact rvk;simp only [go_sem];first|exact VLe.refl _|apply qd|apply qa|apply qe|skip)
   |with_reducible first|refine And.intro ?_ ?_|intro _
  all_goals try exact clz
 have g2:w=0:=Classical.not_not.1 g2
 have k2:(w=0)=True:=eq_true g2
 rw [if_neg (fun hc=>hc g2)]at hR
 by_cases g3:qoq t e
 ·rw [if_pos g3]at hR
  rw [hR]
  by_cases a1:e.layer<0
  ·have q1:(e.layer<0)=True:=eq_true a1
   refine acO qbn ?_
   simp (disch:=omega) only [qgx,List.replicate,enC,strs,go_sem]
   repeat' first
    |((first|refine cA (c59 _) ?_ ?_|refine cG (fun e=>c59 _) ?_ ?_|refine cA (cw _) ?_ ?_|refine cG (fun e=>cw _) ?_ ?_|refine cU (fun _=>c59 _) ?_ ?_|refine cU (fun _=>cw _) ?_ ?_);(next=>exact flk);simp (disch:=omega) only [k0,k1,k2,strs,q1,go_sem])
    |((first|apply qc|apply qb);exact rvk;simp only [go_sem];first|exact VLe.refl _|apply qd|apply qa|apply qe|skip)
    |with_reducible first|refine And.intro ?_ ?_|intro _
   all_goals try exact clz
  have q1:(e.layer<0)=False:=eq_false a1
  by_cases a2:16≤e.layer
  ·have q2:(16≤e.layer)=True:=eq_true a2
   refine acO qbn ?_
   simp (disch:=omega) only [qgx,List.replicate,enC,strs,go_sem]
   repeat' first
    |((first|refine cA (c59 _) ?_ ?_|refine cG (fun e=>c59 _) ?_ ?_|refine cA (cw _) ?_ ?_|refine cG (fun e=>cw _) ?_ ?_|refine cU (fun _=>c59 _) ?_ ?_|refine cU (fun _=>cw _) ?_ ?_);(next=>exact flk);simp (disch:=omega) only [k0,k1,k2,strs,q1,q2,go_sem])
    |((first|apply qc|apply qb);exact rvk;simp only [go_sem];first|exact VLe.refl _|apply qd|apply qa|apply qe|skip)
    |with_reducible first|refine And.intro ?_ ?_|intro _
   all_goals try exact clz
  have q2:(16≤e.layer)=False:=eq_false a2
  by_cases a3:e.frm<0
  ·have q3:(e.frm<0)=True:=eq_true a3
   refine acO qbn ?_
   simp (disch:=omega) only [qgx,List.replicate,enC,strs,go_sem]
   repeat' first
    |((first|refine cA (c59 _) ?_ ?_|refine cG (fun e=>c59 _) ?_ ?_|refine cA (cw _) ?_ ?_|refine cG (fun e=>cw _) ?_ ?_|refine cU (fun _=>c59 _) ?_ ?_|refine cU (fun _=>cw _) ?_ ?_);(next=>exact flk);simp (disch:=omega) only [k0,k1,k2,strs,q1,q2,q3,go_sem])
    |((first|apply qc|apply qb);exact rvk;simp only [go_sem];first|exact VLe.refl _|apply qd|apply qa|apply qe|skip)
    |with_reducible first|refine And.intro ?_ ?_|intro _
   all_goals try exact clz
  have q3:(e.frm<0)=False:=eq_false a3
  by_cases a4:e.to<e.frm
  ·have q4:(e.to<e.frm)=True:=eq_true a4
   refine acO qbn ?_
   simp (disch:=omega) only [qgx,List.replicate,enC,strs,go_sem]
   repeat' first
    |((first|refine cA (c59 _) ?_ ?_|refine cG (fun e=>c59 _) ?_ ?_|refine cA (cw _) ?_ ?_|refine cG (fun e=>cw _) ?_ ?_|refine cU (fun _=>c59 _) ?_ ?_|refine cU (fun _=>cw _) ?_ ?_);(next=>exact flk);simp (disch:=omega) only [k0,k1,k2,strs,q1,q2,q3,q4,go_sem])
    |((first|apply qc|apply qb);exact rvk;simp only [go_sem];first|exact VLe.refl _|apply qd|apply qa|apply qe|skip)
    |with_reducible first|refine And.intro ?_ ?_|intro _
   all_goals try exact clz
  have q4:(e.to<e.frm)=False:=eq_false a4
  have q5:((t.length:Int)<e.to)=True:=eq_true (by unfold qoq at g3;omega)
  refine acO qbn ?_
  simp (disch:=omega) only [qgx,List.replicate,enC,strs,go_sem]
  repeat' first
   |((first|refine cA (c59 _) ?_ ?_|refine cG (fun e=>c59 _) ?_ ?_|refine cA (cw _) ?_ ?_|refine cG (fun e=>cw _) ?_ ?_|refine cU (fun _=>c59 _) ?_ ?_|refine cU (fun _=>cw _) ?_ ?_);(next=>exact flk);simp (disch:=omega) only [k0,k1,k2,strs,q1,q2,q3,q4,q5,go_sem])
   |((first|apply qc|apply qb);exact rvk;simp only [go_sem];first|exact VLe.refl _|apply qd|apply qa|apply qe|skip)
   |with_reducible first|refine And.intro ?_ ?_|intro _
  all_goals try exact clz
 rw [if_neg g3]at hR
 unfold qoq at g3
 have q1:(e.layer<0)=False:=eq_false (by omega)
 have q2:(16≤e.layer)=False:=eq_false (by omega)
 have q3:(e.frm<0)=False:=eq_false (by omega)
 have q4:(e.to<e.frm)=False:=eq_false (by omega)
 have q5:((t.length:Int)<e.to)=False:=eq_false (by omega)
 by_cases g4:0<e.sup.length∧e.pos=false
 ·have q6:((0:Int)<e.sup.length)=True:=eq_true (by omega)
  have q7:=g4.2
  rw [if_pos g4]at hR
  rw [hR]
  refine acO qbn ?_
  simp (disch:=omega) only [qgx,List.replicate,enC,strs,q7,go_sem]
  repeat' first
   |((first|refine cA (c59 _) ?_ ?_|refine cG (fun e=>c59 _) ?_ ?_|refine cA (cw _) ?_ ?_|refine cG (fun e=>cw _) ?_ ?_|refine cU (fun _=>c59 _) ?_ ?_|refine cU (fun _=>cw _) ?_ ?_);(next=>exact flk);simp (disch:=omega) only [k0,k1,k2,strs,q1,q2,q3,q4,q5,q6,q7,go_sem])
   |((first|apply qc|apply qb);exact rvk;simp only [go_sem];first|exact VLe.refl _|apply qd|apply qa|apply qe|skip)
   |with_reducible first|refine And.intro ?_ ?_|intro _
  all_goals try exact clz
 rw [if_neg g4]at hR
 by_cases g5:e.vars.length=0
 ·have q8:((e.vars.length:Int)=0)=True:=eq_true (by omega)
  rw [if_pos g5]at hR
  rw [hR]
  by_cases g6:0<e.sup.length
  ·have q6:((0:Int)<e.sup.length)=True:=eq_true (by omega)
   have q7:e.pos=true:=by
    cases hq:e.pos with
    |true=>rfl
    |false=>exact absurd ⟨g6,hq⟩ g4
   refine acO qbn ?_
   simp (disch:=omega) only [qgx,List.replicate,enC,strs,qS,q7,go_sem]
   repeat' first
    |((first|refine cA (c59 _) ?_ ?_|refine cG (fun e=>c59 _) ?_ ?_|refine cA (cw _) ?_ ?_|refine cG (fun e=>cw _) ?_ ?_|refine cU (fun _=>c59 _) ?_ ?_|refine cU (fun _=>cw _) ?_ ?_);(next=>exact flk);simp (disch:=omega) only [k0,k1,k2,strs,qS,q1,q2,q3,q4,q5,q6,q7,q8,go_sem])
    |((first|apply qc|apply qb);exact rvk;simp only [go_sem];first|exact VLe.refl _|apply qd|apply qa|apply qe|skip)
    |with_reducible first|refine And.intro ?_ ?_|intro _
   all_goals try exact clz
  ·have q6:((0:Int)<e.sup.length)=False:=eq_false (by omega)
   refine acO qbn ?_
   simp (disch:=omega) only [qgx,List.replicate,enC,strs,qS,go_sem]
   repeat' first
    |((first|refine cA (c59 _) ?_ ?_|refine cG (fun e=>c59 _) ?_ ?_|refine cA (cw _) ?_ ?_|refine cG (fun e=>cw _) ?_ ?_|refine cU (fun _=>c59 _) ?_ ?_|refine cU (fun _=>cw _) ?_ ?_);(next=>exact flk);simp (disch:=omega) only [k0,k1,k2,strs,qS,q1,q2,q3,q4,q5,q6,q8,go_sem])
    |((first|apply qc|apply qb);exact rvk;simp only [go_sem];first|exact VLe.refl _|apply qd|apply qa|apply qe|skip)
    |with_reducible first|refine And.intro ?_ ?_|intro _
   all_goals try exact clz
 have q8:((e.vars.length:Int)=0)=False:=eq_false (by omega)
 rw [if_neg g5]at hR
 obtain ⟨C0,hC0⟩: ∃C0:List AV,C0= [.int .i64 e.layer,.int .i64 e.frm,.int .i64 e.to,.bool e.pos,strs e.sup,qS e.vars]:=⟨_,rfl⟩
 obtain ⟨fr,hfr⟩: ∃fr:Nat,e.frm=fr:=⟨e.frm.toNat,by omega⟩
 obtain ⟨tt,htt⟩: ∃tt:Nat,e.to=tt:=⟨e.to.toNat,by omega⟩
 obtain ⟨E1,hE1⟩: ∃E1:AObj,E1= .mem 1 49 [.int .i64 e.layer,.int .i64 e.frm,.int .i64 e.to,.bool e.pos,strs e.sup,qS e.vars]:=⟨_,rfl⟩
 refine acO qbn ?_
 simp (disch:=omega) only [qgx,List.replicate,enC,strs,qS,go_sem]
 repeat' first
  |((first|refine cA (c59 _) ?_ ?_|refine cG (fun e=>c59 _) ?_ ?_|refine cA (cw _) ?_ ?_|refine cG (fun e=>cw _) ?_ ?_|refine cU (fun _=>c59 _) ?_ ?_|refine cU (fun _=>cw _) ?_ ?_);(next=>exact flk);simp (disch:=omega) only [k0,k1,k2,strs,qS,q1,q2,q3,q4,q5,q8,go_sem])
  |((first|apply qc|apply qb);exact rvk;simp only [go_sem];first|exact VLe.refl _|apply qd|apply qa|apply qe|skip)
  |with_reducible first|refine And.intro ?_ ?_|intro _
 all_goals try exact clz
 ·rename_i hx;exact absurd ⟨by omega,hx.2⟩ g4
 refine qo (T:=fun i:Nat×Nat=>qI 134 [(0,strs names),(1,qv gs),(2,strs t),(7,.op h.length 1 0),(73,qS e.vars),(74,.int .i64 e.vars.length),(75,.int .i64 i.1)])
  (H:=fun i=>h++ [.mem 1 49 [.int .i64 e.layer,.int .i64 e.frm,.int .i64 e.to,.bool e.pos,strs e.sup,qS e.vars],.emp i.2,.emp 0,.emp 0])
  (inv:=fun i=>i.1≤e.vars.length∧ ∀j,j<i.1→qen t e j=0) (m:=fun i=>e.vars.length-i.1) (0,0) ⟨Nat.zero_le _,fun j hj=>absurd hj (Nat.not_lt_zero j)⟩ (Wk.temps ?_) ?_
 ·(simp only [strs,qS,List.replicate,go_sem,qj,qh,qg,qi];try (repeat' first|(with_reducible refine And.intro ?_ ?_)|(apply qd;omega)|(apply qa;rfl)|exact VLe.refl _))
 rintro ⟨i,v⟩ ⟨i1,i2⟩ K hK
 simp only at i1 i2 hK
 have z2:=he.vs
 by_cases hi:i<e.vars.length
 ·have r1:((i:Int)<e.vars.length)=True:=eq_true (by omega)
  have r2:((i:Int)≤e.vars.length)=True:=eq_true (by omega)
  have r3:(0≤(fr:Int))=True:=eq_true (by omega)
  have r4:((fr:Int)≤tt)=True:=eq_true (by omega)
  have r5:((tt:Int)≤t.length)=True:=eq_true (by omega)
  have hE:=qU (f:=qen t e) hi i2
  have hv:qen t e i=if qaD (e.vars.getD i default).words≠0 then 11 else if (e.vars.getD i default).words=j6 t e.frm.toNat e.to.toNat then 9 else
   if jp (fun j=>decide ((e.vars.getD i default).words=(e.vars.getD j default).words)) i=true then 7 else if (e.vars.getD i default).sigla.length=0 then 5 else 0:=rfl
  have zw:=he.w i
  have zs:=he.sg i
  have zv:=fun j=>(he.w j).n
  obtain ⟨x,hx⟩: ∃x,x=e.vars.getD i default:=⟨_,rfl⟩
  have ex:=hx.symm
  simp only [ex]at hv zw zs
  rw [hfr,htt,Int.toNat_natCast,Int.toNat_natCast]at hv
  have zn:=zw.n
  have c116:=fun l=>qzm x.words (h++l) zw.n zw.s (hp.app l)
  have c117:=fun h=>qvQ x.words (tt-fr) (fun j=>t.getD (fr+j) []) h zw.n (by omega)
  rw [qou (by omega) (by omega)]at c117
  have c118:=qzu i e.vars x.words (h.length+1) (v+1) (strs x.sigla) (h++ [.mem 1 49 [.int .i64 e.layer,.int .i64 e.frm,.int .i64 e.to,.bool e.pos,strs e.sup,qS e.vars],.mem (v+1) 51 [strs x.words,strs x.sigla],.emp 0,.emp 0]) (by rw [getO_app];rfl) (by omega) z2 zw.n zv
  obtain ⟨u,hu⟩: ∃u,u=qaD x.words:=⟨_,rfl⟩
  rw [←hu]at c116 hv
  unfold strs qS at c118
  unfold strs at c116 c117
  by_cases a1:u≠0
  ·have p1:(u=0)=False:=eq_false a1
   rw [if_pos a1]at hv
   have hE:=hE (by rw [hv];decide)
   rw [hE,hv,if_pos (by decide)]at hR
   rw [hR]
   simp (disch:=omega) only [List.replicate,strs,qS,vaC,r1,r2,ex,go_sem]
   repeat' first
    |((first|refine cA (c116 _) ?_ ?_|refine cG (fun e=>c116 _) ?_ ?_|refine cU (fun _=>c116 _) ?_ ?_);(next=>exact flk);simp (disch:=omega) only [strs,qS,vaC,r1,r2,ex,p1,go_sem])
    |((first|apply qc|apply qb);exact rvk;simp only [go_sem];first|exact VLe.refl _|apply qd|apply qa|apply qe|skip)
    |with_reducible first|refine And.intro ?_ ?_|intro _
   all_goals try exact clz
  have a1:u=0:=Classical.not_not.1 a1
  have p1:(u=0)=True:=eq_true a1
  rw [if_neg (fun hc=>hc a1)]at hv
  by_cases a2:x.words=j6 t fr tt
  ·rw [decide_eq_true a2]at c117
   rw [if_pos a2]at hv
   have hE:=hE (by rw [hv];decide)
   rw [hE,hv,if_pos (by decide)]at hR
   rw [hR]
   simp (disch:=omega) only [List.replicate,strs,qS,vaC,r1,r2,ex,go_sem]
   repeat' first
    |((first|refine cA (c116 _) ?_ ?_|refine cG (fun e=>c116 _) ?_ ?_|refine cA (c117 _) ?_ ?_|refine cG (fun e=>c117 _) ?_ ?_|refine cU (fun _=>c116 _) ?_ ?_|refine cU (fun _=>c117 _) ?_ ?_);(next=>exact flk);simp (disch:=omega) only [strs,qS,vaC,r1,r2,ex,p1,hfr,htt,r3,r4,r5,go_sem])
    |((first|apply qc|apply qb);exact rvk;simp only [go_sem];first|exact VLe.refl _|apply qd|apply qa|apply qe|skip)
    |with_reducible first|refine And.intro ?_ ?_|intro _
   all_goals try exact clz
  rw [decide_eq_false a2]at c117
  rw [if_neg a2]at hv
  cases a3:jp (fun j=>decide (x.words=(e.vars.getD j default).words)) i with
  |true=>
   rw [a3]at c118
   rw [if_pos a3]at hv
   have hE:=hE (by rw [hv];decide)
   rw [hE,hv,if_pos (by decide)]at hR
   rw [hR]
   simp only [hfr,htt]at c118
   simp (disch:=omega) only [List.replicate,strs,qS,vaC,r1,r2,ex,hfr,htt,go_sem]
   repeat' first
    |((first|refine cA (c116 _) ?_ ?_|refine cG (fun e=>c116 _) ?_ ?_|refine cA (c117 _) ?_ ?_|refine cG (fun e=>c117 _) ?_ ?_|refine cA (c118) ?_ ?_|refine cG (fun e=>c118) ?_ ?_|refine cU (fun _=>c116 _) ?_ ?_|refine cU (fun _=>c117 _) ?_ ?_);(next=>exact flk);simp (disch:=omega) only [strs,qS,vaC,r1,r2,ex,p1,hfr,htt,r3,r4,r5,Nat.sub_zero,Nat.zero_add,go_sem])
    |((first|apply qc|apply qb);exact rvk;simp only [go_sem];first|exact VLe.refl _|apply qd|apply qa|apply qe|skip)
    |with_reducible first|refine And.intro ?_ ?_|intro _
   all_goals try exact clz
  |false=>
  rw [a3]at c118
  rw [if_neg (by rw [a3];simp)]at hv
  simp only [hfr,htt]at c118
  by_cases a4:x.sigla.length=0
  ·have p4:((x.sigla.length:Int)=0)=True:=eq_true (by omega)
   rw [if_pos a4]at hv
   have hE:=hE (by rw [hv];decide)
   rw [hE,hv,if_pos (by decide)]at hR
   rw [hR]
   simp (disch:=omega) only [List.replicate,strs,qS,vaC,r1,r2,ex,hfr,htt,go_sem]
   repeat' first
    |((first|refine cA (c116 _) ?_ ?_|refine cG (fun e=>c116 _) ?_ ?_|refine cA (c117 _) ?_ ?_|refine cG (fun e=>c117 _) ?_ ?_|refine cA (c118) ?_ ?_|refine cG (fun e=>c118) ?_ ?_|refine cU (fun _=>c116 _) ?_ ?_|refine cU (fun _=>c117 _) ?_ ?_);(next=>exact flk);simp (disch:=omega) only [strs,qS,vaC,r1,r2,ex,p1,p4,hfr,htt,r3,r4,r5,Nat.sub_zero,Nat.zero_add,go_sem])
    |((first|apply qc|apply qb);exact rvk;simp only [go_sem];first|exact VLe.refl _|apply qd|apply qa|apply qe|skip)
    |with_reducible first|refine And.intro ?_ ?_|intro _
   all_goals try exact clz
  ·have p4:((x.sigla.length:Int)=0)=False:=eq_false (by omega)
   rw [if_neg a4]at hv
   simp (disch:=omega) only [List.replicate,strs,qS,vaC,r1,r2,ex,hfr,htt,go_sem]
   repeat' first
    |((first|refine cA (c116 _) ?_ ?_|refine cG (fun e=>c116 _) ?_ ?_|refine cA (c117 _) ?_ ?_|refine cG (fun e=>c117 _) ?_ ?_|refine cA (c118) ?_ ?_|refine cG (fun e=>c118) ?_ ?_|refine cU (fun _=>c116 _) ?_ ?_|refine cU (fun _=>c117 _) ?_ ?_);(next=>exact flk);simp (disch:=omega) only [strs,qS,vaC,r1,r2,ex,p1,p4,hfr,htt,r3,r4,r5,Nat.sub_zero,Nat.zero_add,go_sem])
    |((first|apply qc|apply qb);exact rvk;simp only [go_sem];first|exact VLe.refl _|apply qd|apply qa|apply qe|skip)
    |with_reducible first|refine And.intro ?_ ?_|intro _
   all_goals try exact clz
   simp only [hfr,htt]at hK
   refine hK _ _ (i+1,v+1+1) ⟨hi,fun j hj=> ?_⟩ (by simp only;omega) (Wk.trans Wk.kill1 (Wk.temps ?_))
   ·by_cases e':j=i
    ·subst e';exact hv
    ·exact i2 j (by simp only at hj;omega)
   ·(simp only [strs,qS,List.replicate,go_sem,qj,qh,qg,qi];try (repeat' first|(with_reducible refine And.intro ?_ ?_)|(apply qd;omega)|(apply qa;rfl)|exact VLe.refl _))
 have r1:((i:Int)<e.vars.length)=False:=eq_false (by omega)
 rw [if_neg (fun hc=>hc (qE (f:=qen t e) (fun j hj=>i2 j (by omega))))]at hR
 simp (disch:=omega) only [List.replicate,strs,qS,r1,go_sem]
 repeat' first
  |((first|apply qc|apply qb);exact rvk;simp only [go_sem];first|exact VLe.refl _|apply qd|apply qa|apply qe|skip)
  |with_reducible first|refine And.intro ?_ ?_|intro _
 all_goals try exact clz
 refine cE (qxc names gs e.sup (List.replicate 32 0) (h.length+2) 1 117 _ hz he.sup (by rw [getO_app];rfl) (by simp) 0 (by decide) (fun i=>by
  rw [gdqA,List.getElem?_replicate]
  split<;>simp)) (by exact flk) ?_
 have c0:qbQ (List.replicate 32 0) (zI names gs e.sup)=cnt names gs e 0:=rfl
 rw [c0]
 obtain ⟨y,hy⟩: ∃y,y=jR names gs e.sup:=⟨_,rfl⟩
 rw [←hy]at hR ⊢
 by_cases b1:y≠0
 ·have p1:(y=0)=False:=eq_false b1
  rw [if_pos b1]at hR
  rw [hR]
  simp (disch:=omega) only [List.replicate,strs,qS,p1,go_sem]
  repeat' first
   |((first|apply qc|apply qb);exact rvk;simp only [go_sem];first|exact VLe.refl _|apply qd|apply qa|apply qe|skip)
   |with_reducible first|refine And.intro ?_ ?_|intro _
  all_goals try exact clz
 have b1:y=0:=Classical.not_not.1 b1
 have p1:(y=0)=True:=eq_true b1
 rw [if_neg (fun hc=>hc b1)]at hR
 simp (disch:=omega) only [List.replicate,strs,qS,p1,go_sem]
 repeat' first
  |((first|apply qc|apply qb);exact rvk;simp only [go_sem];first|exact VLe.refl _|apply qd|apply qa|apply qe|skip)
  |with_reducible first|refine And.intro ?_ ?_|intro _
 all_goals try exact clz
 refine qo (T:=fun i:Nat×Nat=>qI 134 [(0,strs names),(1,qv gs),(11,.op (h.length+2) 1 0),(117,qS e.vars),(118,.int .i64 e.vars.length),(119,.int .i64 i.1)])
  (H:=fun i=>h++ [.mem 1 49 [.int .i64 e.layer,.int .i64 e.frm,.int .i64 e.to,.bool e.pos,strs e.sup,qS e.vars],.emp v,.mem 1 117 (qn (cnt names gs e i.1)),.emp i.2])
  (inv:=fun i=>i.1≤e.vars.length∧ ∀j,j<i.1→jR names gs (e.vars.getD j default).sigla=0) (m:=fun i=>e.vars.length-i.1) (0,0) ⟨Nat.zero_le _,fun j hj=>absurd hj (Nat.not_lt_zero j)⟩ (Wk.temps ?_) ?_
 ·(simp only [strs,qS,List.replicate,go_sem,qj,qh,qg,qi];try (repeat' first|(with_reducible refine And.intro ?_ ?_)|(apply qd;omega)|(apply qa;rfl)|exact VLe.refl _))
 clear hK
 rintro ⟨n,w'⟩ ⟨n1,n2⟩ K hK
 simp only at n1 n2 hK
 by_cases hn:n<e.vars.length
 ·have r2:((n:Int)<e.vars.length)=True:=eq_true (by omega)
  have hE:=qU (f:=fun i=>jR names gs (e.vars.getD i default).sigla) hn n2
  have zs:=he.sg n
  have hcs:cnt names gs e (n+1)=qbQ (cnt names gs e n) (zI names gs (e.vars.getD n default).sigla):=rfl
  have hbn:=qjn names gs e n
  have hln:=qcP names gs e n
  obtain ⟨D,hD⟩: ∃D,D=cnt names gs e n:=⟨_,rfl⟩
  have eD:=hD.symm
  rw [eD]at hcs hbn hln
  obtain ⟨x,hx⟩: ∃x,x=e.vars.getD n default:=⟨_,rfl⟩
  have ex:=hx.symm
  simp only [ex]at hE hcs zs
  simp (disch:=omega) only [List.replicate,strs,qS,vaC,r2,ex,eD,go_sem]
  repeat' first
   |((first|apply qc|apply qb);exact rvk;simp only [go_sem];first|exact VLe.refl _|apply qd|apply qa|apply qe|skip)
   |with_reducible first|refine And.intro ?_ ?_|intro _
  all_goals try exact clz
  refine cE (qxc names gs x.sigla D (h.length+2) 1 117 _ hz zs (by rw [getO_app];rfl) hln (64*((n:Int)+1)) (by omega) hbn) (by exact flk) ?_
  rw [←hcs]
  obtain ⟨q,hq⟩: ∃q,q=jR names gs x.sigla:=⟨_,rfl⟩
  rw [←hq]at hE ⊢
  by_cases b2:q≠0
  ·have p2:(q=0)=False:=eq_false b2
   rw [hE b2,if_pos b2]at hR
   rw [hR]
   simp (disch:=omega) only [List.replicate,strs,qS,p2,go_sem]
   repeat' first
    |((first|apply qc|apply qb);exact rvk;simp only [go_sem];first|exact VLe.refl _|apply qd|apply qa|apply qe|skip)
    |with_reducible first|refine And.intro ?_ ?_|intro _
   all_goals try exact clz
  ·have b2:q=0:=Classical.not_not.1 b2
   have p2:(q=0)=True:=eq_true b2
   simp (disch:=omega) only [List.replicate,strs,qS,p2,go_sem]
   repeat' first
    |((first|apply qc|apply qb);exact rvk;simp only [go_sem];first|exact VLe.refl _|apply qd|apply qa|apply qe|skip)
    |with_reducible first|refine And.intro ?_ ?_|intro _
   all_goals try exact clz
   refine hK _ _ (n+1,w'+1+1) ⟨hn,fun j hj=> ?_⟩ (by simp only;omega) (Wk.trans (Wk.kill3 ) (Wk.temps ?_))
   ·by_cases e':j=n
    ·subst e';rw [ex,←hq,b2]
    ·exact n2 j (by simp only at hj;omega)
   ·(simp only [strs,qS,List.replicate,go_sem,qj,qh,qg,qi];try (repeat' first|(with_reducible refine And.intro ?_ ?_)|(apply qd;omega)|(apply qa;rfl)|exact VLe.refl _))
 ·have r2:((n:Int)<e.vars.length)=False:=eq_false (by omega)
  have e':n=e.vars.length:=by omega
  subst e'
  rw [if_neg (fun hc=>hc (qE (f:=fun i=>jR names gs (e.vars.getD i default).sigla) (fun j hj=>n2 j hj)))]at hR
  have hln:=qcP names gs e e.vars.length
  unfold qhM at hR
  rw [hln]at hR
  have c94:=fun h=>twP (cnt names gs e e.vars.length) h hln
  rw [hln]at c94
  obtain ⟨D,hD⟩: ∃D,D=cnt names gs e e.vars.length:=⟨_,rfl⟩
  have eD:=hD.symm
  simp only [eD]at hR hln c94
  have fT:List.take 32 (qn D)=List.map (fun n=>AV.int .i64 n) D:=List.take_of_length_le (by rw [qt];omega)
  have fL:=qt D
  rw [hln]at fL
  cases b3:jp (fun i=>decide (1<D.getD i 0)) 32 with
  |true=>
   rw [b3]at c94 hR
   rw [if_pos rfl]at hR
   rw [hR]
   simp (disch:=omega) only [List.replicate,strs,qS,r2,eD,fT,fL,go_sem]
   repeat' first
    |((first|refine cA (c94 _) ?_ ?_|refine cG (fun e=>c94 _) ?_ ?_|refine cU (fun _=>c94 _) ?_ ?_);(next=>exact flk);simp (disch:=omega) only [strs,qS,r2,eD,fT,fL,go_sem])
    |((first|apply qc|apply qb);exact rvk;simp only [go_sem];first|exact VLe.refl _|apply qd|apply qa|apply qe|skip)
    |with_reducible first|refine And.intro ?_ ?_|intro _
   all_goals try exact clz
  |false=>
   rw [b3]at c94 hR
   rw [if_neg (by simp)]at hR
   rw [hR]
   simp (disch:=omega) only [List.replicate,strs,qS,r2,eD,fT,fL,go_sem]
   repeat' first
    |((first|refine cA (c94 _) ?_ ?_|refine cG (fun e=>c94 _) ?_ ?_|refine cU (fun _=>c94 _) ?_ ?_);(next=>exact flk);simp (disch:=omega) only [strs,qS,r2,eD,fT,fL,go_sem])
    |((first|apply qc|apply qb);exact rvk;simp only [go_sem];first|exact VLe.refl _|apply qd|apply qa|apply qe|skip)
    |with_reducible first|refine And.intro ?_ ?_|intro _
   all_goals try exact clz
end RC
end
section
open Go Go.Proofs AF HY LN
namespace RC
def tC (gs:List Gr) (i:Nat):List AV:=(List.range i).map fun j=> .str (gs.getD j default).name
theorem qso (gs:List Gr) (i:Nat):tC gs (i+1)=tC gs i++ [.str (gs.getD i default).name]:=by unfold tC;rw [List.range_succ,List.map_append];rfl
theorem qpW (gs:List Gr) (i:Nat):(tC gs i).length=i:=by simp [tC]
theorem qyf {gs:List Gr} {n j:Nat} (h:j<n):((tC gs n).drop j).take 1= [.str (gs.getD j default).name]:=by
 rw [List.drop_eq_getElem_cons (by rw [qpW];exact h),List.take_succ_cons,List.take_zero]
 simp [tC]
set_option maxHeartbeats 2000000 in
theorem qzj (n:Nat) (gs:List Gr) (h:List AObj) (hn:n≤1000000000):qm Tryz.prog 55 [.sl n fun j=>grC (gs.getD j default)] h (.sl n fun j=> [.str (gs.getD j default).name]) h:=by
 refine acO qxz ?_
 simp (disch:=omega) only [qyJ,List.replicate,go_sem]
 repeat' first
  |((first|apply qc|apply qb);exact rvk;simp only [go_sem];first|exact VLe.refl _|apply qd|apply qa|apply qe|skip)
  |with_reducible first|refine And.intro ?_ ?_|intro _
 all_goals try exact clz
 have eM:za [AV.str []] 0=tC gs 0:=rfl
 rw [eM]
 refine qo (T:=fun i:Nat×Nat×Nat=>qI 21 [(0,.sl n fun j=>grC (gs.getD j default)),(3,.osl (h.length+1) i.2.1 1 0 i.1),(4,.int .i64 i.1)]) (H:=fun i=>h++ [.emp 1,AObj.mem i.2.1 9 (tC gs i.1),.emp i.2.2,.emp 0])
  (inv:=fun i=>i.1≤n) (m:=fun i=>n-i.1) (0,1,0) (Nat.zero_le _) (Wk.temps ?_) ?_
 ·(simp only [tC,List.range_zero,List.map_nil,List.replicate,go_sem,qj,qh,qg,qi];try (repeat' first|(with_reducible refine And.intro ?_ ?_)|(apply qd;omega)|(apply qa;rfl)|exact VLe.refl _))
 rintro ⟨i,v,w⟩ i1 K hK
 simp only at i1 hK
 have hst:=qso gs i
 have hln:=qpW gs i
 obtain ⟨L,hL⟩: ∃L,L=tC gs i:=⟨_,rfl⟩
 rw [←hL]at hst hln
 have eL:=hL.symm
 by_cases hi:i<n
 ·have k1:((i:Int)<n)=True:=eq_true (by omega)
  obtain ⟨g,hg⟩: ∃g,g=gs.getD i default:=⟨_,rfl⟩
  have eg:=hg.symm
  rw [eg]at hst
  have eT:List.take i L=L:=List.take_of_length_le (by omega)
  simp (disch:=omega) only [List.replicate,grC,k1,eL,eg,Nat.mul_one,go_sem]
  repeat' first
   |((first|apply qc|apply qb);exact rvk;simp only [go_sem];first|exact VLe.refl _|apply qd|apply qa|apply qe|skip)
   |with_reducible first|refine And.intro ?_ ?_|intro _
  all_goals try exact clz
  rw [eT,←hst]
  refine hK _ _ (i+1,v+1,w+1+1) hi (by simp only;omega) (Wk.trans Wk.kill2 ?_)
  refine Wk.temps ?_
  (simp only [List.length_append,List.replicate,go_sem,qj,qh,qg,qi];try (repeat' first|(with_reducible refine And.intro ?_ ?_)|(apply qd;omega)|(apply qa;rfl)|exact VLe.refl _))
 ·have k1:((i:Int)<n)=False:=eq_false (by omega)
  obtain rfl:i=n:=by omega
  simp (disch:=omega) only [List.replicate,k1,eL,go_sem]
  repeat' first
   |((first|apply qc|apply qb);exact rvk;simp only [go_sem];first|exact VLe.refl _|apply qd|apply qa|apply qe|skip)
   |with_reducible first|refine And.intro ?_ ?_|intro _
  all_goals try exact clz
  rw [if_pos (by omega)]
  refine VLe.sl_eq rfl (fun j hj=> ?_)
  rw [hL,qyf hj]
  rfl
theorem qfZ (p:Nat→Bool) (n:Nat):(jp p n=true∧ ∃k:Int,0≤k∧qbo p n 0=k)∨(jp p n=false∧qbo p n 0= -1):=by
 rcases jI p n with ⟨i,h1,h2,_,h4⟩|⟨h1,h2⟩
 ·exact .inl ⟨zH.2 ⟨i,h1,h2⟩,_,by omega,h4⟩
 ·exact .inr ⟨qQ.2 h1,h2⟩
set_option maxHeartbeats 4000000 in
theorem sgR (names:List Str) (gs:List Gr) (h:List AObj) (hz:Szs names gs):qm Tryz.prog 49 [strs names,qv gs] h (.int .i64 (sgE names gs)) h:=by
 obtain ⟨z1,z2,z3,z4,z5⟩:=hz
 obtain ⟨R,hR⟩: ∃R,R=sgE names gs:=⟨_,rfl⟩
 rw [←hR]
 unfold sgE at hR
 by_cases g0:32<names.length
 ·have k0:((32:Int)<names.length)=True:=eq_true (by omega)
  rw [if_pos g0]at hR
  rw [hR]
  refine acO quX ?_
  simp (disch:=omega) only [qwW,List.replicate,strs,qv,k0,go_sem]
  repeat' first
   |((first|apply qc|apply qb);exact rvk;simp only [go_sem];first|exact VLe.refl _|apply qd|apply qa|apply qe|skip)
   |with_reducible first|refine And.intro ?_ ?_|intro _
  all_goals try exact clz
 have k0:((32:Int)<names.length)=False:=eq_false (by omega)
 rw [if_neg g0]at hR
 refine acO quX ?_
 simp (disch:=omega) only [qwW,List.replicate,strs,qv,k0,go_sem]
 repeat' first
  |((first|apply qc|apply qb);exact rvk;simp only [go_sem];first|exact VLe.refl _|apply qd|apply qa|apply qe|skip)
  |with_reducible first|refine And.intro ?_ ?_|intro _
 all_goals try exact clz
 refine qo (T:=fun i:Nat=>qI 87 [(0,strs names),(1,qv gs),(5,.int .i64 i)]) (H:=fun _=>h) (inv:=fun i=>i≤names.length∧ ∀j,j<i→ku names j=0) (m:=fun i=>names.length-i) 0 ⟨Nat.zero_le _,fun j hj=>by omega⟩ (Wk.temps ?_) ?_
 ·(simp only [strs,qv,List.replicate,go_sem,qj,qh,qg,qi];try (repeat' first|(with_reducible refine And.intro ?_ ?_)|(apply qd;omega)|(apply qa;rfl)|exact VLe.refl _))
 rintro i ⟨i1,i2⟩ K hK
 by_cases hi:i<names.length
 ·have k1:((i:Int)<names.length)=True:=eq_true (by omega)
  have k2:((i:Int)≤names.length)=True:=eq_true (by omega)
  have hE:=qU (f:=ku names) hi i2
  have hs:ku names i=if qoz (names.getD i [])=false then 14 else if jp (fun j=>decide (names.getD i []=names.getD j [])) i=true then 7 else 0:=rfl
  have c87:=fun h=>qyb (names.getD i []) h (z3 i)
  have c88:=fun h=>qhi i (fun j=>names.getD j []) (names.getD i []) h (by omega)
  obtain ⟨s,hsx⟩: ∃s,s=names.getD i []:=⟨_,rfl⟩
  have es:=hsx.symm
  rw [es]at hs c87
  simp only [es]at hs c88
  cases g1:qoz s with
  |false=>
   rw [g1]at c87
   rw [if_pos g1]at hs
   have hV:R=14:=by rw [hR,hE (by rw [hs];decide),hs];rfl
   rw [hV]
   simp (disch:=omega) only [List.replicate,strs,qv,k1,k2,es,go_sem]
   repeat' first
    |((first|refine cA (c87 _) ?_ ?_|refine cG (fun e=>c87 _) ?_ ?_|refine cU (fun _=>c87 _) ?_ ?_);(next=>exact flk);simp (disch:=omega) only [strs,qv,k1,k2,es,go_sem])
    |((first|apply qc|apply qb);exact rvk;simp only [go_sem];first|exact VLe.refl _|apply qd|apply qa|apply qe|skip)
    |with_reducible first|refine And.intro ?_ ?_|intro _
   all_goals try exact clz
  |true=>
  rw [g1]at c87
  rw [if_neg (by rw [g1];simp)]at hs
  rcases qfZ (fun j=>decide (s=names.getD j [])) i with ⟨g2,n,hn0,g3⟩|⟨g2,g3⟩
  ·rw [g3]at c88
   rw [if_pos g2]at hs
   have k3:((0:Int)≤n)=True:=eq_true hn0
   have hV:R=7:=by rw [hR,hE (by rw [hs];decide),hs];rfl
   rw [hV]
   simp (disch:=omega) only [List.replicate,strs,qv,k1,k2,es,Nat.sub_zero,go_sem]
   repeat' first
    |((first|refine cA (c87 _) ?_ ?_|refine cG (fun e=>c87 _) ?_ ?_|refine cA (c88 _) ?_ ?_|refine cG (fun e=>c88 _) ?_ ?_|refine cU (fun _=>c87 _) ?_ ?_|refine cU (fun _=>c88 _) ?_ ?_);(next=>exact flk);simp (disch:=omega) only [strs,qv,k1,k2,es,Nat.sub_zero,k3,go_sem])
    |((first|apply qc|apply qb);exact rvk;simp only [go_sem];first|exact VLe.refl _|apply qd|apply qa|apply qe|skip)
    |with_reducible first|refine And.intro ?_ ?_|intro _
   all_goals try exact clz
  ·rw [g3]at c88
   rw [if_neg (by rw [g2];simp)]at hs
   simp (disch:=omega) only [List.replicate,strs,qv,k1,k2,es,Nat.sub_zero,go_sem]
   repeat' first
    |((first|refine cA (c87 _) ?_ ?_|refine cG (fun e=>c87 _) ?_ ?_|refine cA (c88 _) ?_ ?_|refine cG (fun e=>c88 _) ?_ ?_|refine cU (fun _=>c87 _) ?_ ?_|refine cU (fun _=>c88 _) ?_ ?_);(next=>exact flk);simp (disch:=omega) only [strs,qv,k1,k2,es,Nat.sub_zero,go_sem])
    |((first|apply qc|apply qb);exact rvk;simp only [go_sem];first|exact VLe.refl _|apply qd|apply qa|apply qe|skip)
    |with_reducible first|refine And.intro ?_ ?_|intro _
   all_goals try exact clz
   refine hK _ _ (i+1) ⟨hi,fun j hj=> ?_⟩ (by omega) (Wk.temps ?_)
   ·by_cases e:j=i
    ·subst e;exact hs
    ·exact i2 j (by omega)
   ·(simp only [strs,qv,List.replicate,go_sem,qj,qh,qg,qi];try (repeat' first|(with_reducible refine And.intro ?_ ?_)|(apply qd;omega)|(apply qa;rfl)|exact VLe.refl _))
 have k1:((i:Int)<names.length)=False:=eq_false (by omega)
 have hn0:=qE (f:=ku names) (fun j (hj:j<names.length)=>i2 j (by omega))
 rw [if_neg (fun hc=>hc hn0)]at hR
 by_cases g1:16<gs.length
 ·have k2:((16:Int)<gs.length)=True:=eq_true (by omega)
  rw [if_pos g1]at hR
  rw [hR]
  simp (disch:=omega) only [List.replicate,strs,qv,k1,k2,go_sem]
  repeat' first
   |((first|apply qc|apply qb);exact rvk;simp only [go_sem];first|exact VLe.refl _|apply qd|apply qa|apply qe|skip)
   |with_reducible first|refine And.intro ?_ ?_|intro _
  all_goals try exact clz
 have k2:((16:Int)<gs.length)=False:=eq_false (by omega)
 rw [if_neg g1]at hR
 simp (disch:=omega) only [List.replicate,strs,qv,k1,k2,go_sem]
 repeat' first
  |((first|apply qc|apply qb);exact rvk;simp only [go_sem];first|exact VLe.refl _|apply qd|apply qa|apply qe|skip)
  |with_reducible first|refine And.intro ?_ ?_|intro _
 all_goals try exact clz
 refine qo (T:=fun i:Nat=>qI 87 [(0,strs names),(1,qv gs),(6,.int .i64 i)]) (H:=fun i=>h) (inv:=fun i=>i≤gs.length∧ ∀j,j<i→qcU names gs j=0) (m:=fun i=>gs.length-i) 0 ⟨Nat.zero_le _,fun j hj=>absurd hj (Nat.not_lt_zero j)⟩ (Wk.temps ?_) ?_
 ·(simp only [strs,qv,List.replicate,go_sem,qj,qh,qg,qi];try (repeat' first|(with_reducible refine And.intro ?_ ?_)|(apply qd;omega)|(apply qa;rfl)|exact VLe.refl _))
 rintro i ⟨i1,i2⟩ K hK
 by_cases hi:i<gs.length
 ·have k3:((i:Int)<gs.length)=True:=eq_true (by omega)
  have k4:((i:Int)≤gs.length)=True:=eq_true (by omega)
  have hE:=qU (f:=qcU names gs) hi i2
  have hs:qcU names gs i=if jJ (gs.getD i default).name=false then 14 else if jp (fun j=>decide ((gs.getD i default).name=names.getD j [])) names.length=true then 7 else
   if jp (fun j=>decide ((gs.getD i default).name=(gs.getD j default).name)) i=true then 7 else if (gs.getD i default).mem.length=0 then 5 else kL names.length (gs.getD i default).mem:=rfl
  have z4i:=z4 i
  have z5i:=z5 i
  obtain ⟨g,hg⟩: ∃g,g=gs.getD i default:=⟨_,rfl⟩
  have eg:=hg.symm
  simp only [eg]at hs z4i z5i
  have c89:=fun h=>t53 g.name h z4i
  have c88:=fun h=>qhi names.length (fun j=>names.getD j []) g.name h z1
  have c90:=fun h=>qzj i gs h (by omega)
  have c91:=fun h=>qhi i (fun j=>(gs.getD j default).name) g.name h (by omega)
  have c92:=fun h=>qzc g.mem names.length h z5i
  cases g2:jJ g.name with
  |false=>
   rw [g2]at c89
   rw [if_pos g2]at hs
   have hV:R=14:=by rw [hR,hE (by rw [hs];decide),hs]
   rw [hV]
   simp (disch:=omega) only [List.replicate,strs,qv,grC,ql,k3,k4,eg,go_sem]
   repeat' first
    |((first|refine cA (c89 _) ?_ ?_|refine cG (fun e=>c89 _) ?_ ?_|refine cU (fun _=>c89 _) ?_ ?_);(next=>exact flk);simp (disch:=omega) only [strs,qv,grC,ql,k3,k4,eg,go_sem])
    |((first|apply qc|apply qb);exact rvk;simp only [go_sem];first|exact VLe.refl _|apply qd|apply qa|apply qe|skip)
    |with_reducible first|refine And.intro ?_ ?_|intro _
   all_goals try exact clz
  |true=>
  rw [g2]at c89
  rw [if_neg (by rw [g2];simp)]at hs
  rcases qfZ (fun j=>decide (g.name=names.getD j [])) names.length with ⟨g3,n,hn0,g3'⟩|⟨g3,g3'⟩
  ·rw [g3']at c88
   rw [if_pos g3]at hs
   have k5:((0:Int)≤n)=True:=eq_true hn0
   have hV:R=7:=by rw [hR,hE (by rw [hs];decide),hs]
   rw [hV]
   simp (disch:=omega) only [List.replicate,strs,qv,grC,ql,k3,k4,eg,go_sem]
   repeat' first
    |(refine qu ( .nl) ?_;simp (disch:=omega) only [strs,qv,grC,ql,k3,k4,eg,k5,go_sem])
    |(refine qu ( .int .i64 0) ?_;simp (disch:=omega) only [strs,qv,grC,ql,k3,k4,eg,k5,go_sem])
    |((first|refine cA (c89 _) ?_ ?_|refine cG (fun e=>c89 _) ?_ ?_|refine cA (c88 _) ?_ ?_|refine cG (fun e=>c88 _) ?_ ?_|refine cU (fun _=>c89 _) ?_ ?_|refine cU (fun _=>c88 _) ?_ ?_);(next=>exact flk);simp (disch:=omega) only [strs,qv,grC,ql,k3,k4,eg,k5,go_sem])
    |((first|apply qc|apply qb);exact rvk;simp only [go_sem];first|exact VLe.refl _|apply qd|apply qa|apply qe|skip)
    |with_reducible first|refine And.intro ?_ ?_|intro _
   all_goals try exact clz
  rw [g3']at c88
  rw [if_neg (by rw [g3];simp)]at hs
  rcases qfZ (fun j=>decide (g.name=(gs.getD j default).name)) i with ⟨g4,n,hn0,g4'⟩|⟨g4,g4'⟩
  ·rw [g4']at c91
   rw [if_pos g4]at hs
   have k5:((0:Int)≤n)=True:=eq_true hn0
   have hV:R=7:=by rw [hR,hE (by rw [hs];decide),hs]
   rw [hV]
   simp only [grC,ql]at c90
   simp (disch:=omega) only [List.replicate,strs,qv,grC,ql,k3,k4,eg,Nat.sub_zero,go_sem]
   repeat' first
    |((first|refine cA (c89 _) ?_ ?_|refine cG (fun e=>c89 _) ?_ ?_|refine cA (c88 _) ?_ ?_|refine cG (fun e=>c88 _) ?_ ?_|refine cA (c90 _) ?_ ?_|refine cG (fun e=>c90 _) ?_ ?_|refine cA (c91 _) ?_ ?_|refine cG (fun e=>c91 _) ?_ ?_|refine cU (fun _=>c89 _) ?_ ?_|refine cU (fun _=>c88 _) ?_ ?_|refine cU (fun _=>c90 _) ?_ ?_|refine cU (fun _=>c91 _) ?_ ?_);(next=>exact flk);simp (disch:=omega) only [strs,qv,grC,ql,k3,k4,eg,Nat.sub_zero,k5,go_sem])
    |((first|apply qc|apply qb);exact rvk;simp only [go_sem];first|exact VLe.refl _|apply qd|apply qa|apply qe|skip)
    |with_reducible first|refine And.intro ?_ ?_|intro _
   all_goals try exact clz
  rw [g4']at c91
  rw [if_neg (by rw [g4];simp)]at hs
  simp only [grC,ql]at c90
  by_cases g5:g.mem.length=0
  ·have k5:((g.mem.length:Int)=0)=True:=eq_true (by omega)
   rw [if_pos g5]at hs
   have hV:R=5:=by rw [hR,hE (by rw [hs];decide),hs]
   rw [hV]
   simp (disch:=omega) only [List.replicate,strs,qv,grC,ql,k3,k4,eg,Nat.sub_zero,go_sem]
   repeat' first
    |((first|refine cA (c89 _) ?_ ?_|refine cG (fun e=>c89 _) ?_ ?_|refine cA (c88 _) ?_ ?_|refine cG (fun e=>c88 _) ?_ ?_|refine cA (c90 _) ?_ ?_|refine cG (fun e=>c90 _) ?_ ?_|refine cA (c91 _) ?_ ?_|refine cG (fun e=>c91 _) ?_ ?_|refine cU (fun _=>c89 _) ?_ ?_|refine cU (fun _=>c88 _) ?_ ?_|refine cU (fun _=>c90 _) ?_ ?_|refine cU (fun _=>c91 _) ?_ ?_);(next=>exact flk);simp (disch:=omega) only [strs,qv,grC,ql,k3,k4,eg,Nat.sub_zero,k5,go_sem])
    |((first|apply qc|apply qb);exact rvk;simp only [go_sem];first|exact VLe.refl _|apply qd|apply qa|apply qe|skip)
    |with_reducible first|refine And.intro ?_ ?_|intro _
   all_goals try exact clz
  have k5:((g.mem.length:Int)=0)=False:=eq_false (by omega)
  rw [if_neg g5]at hs
  unfold ql at c92
  obtain ⟨e,he⟩: ∃e,e=kL names.length g.mem:=⟨_,rfl⟩
  rw [←he]at c92 hs
  by_cases g6:e=0
  ·have k6:(e=0)=True:=eq_true g6
   simp (disch:=omega) only [List.replicate,strs,qv,grC,ql,k3,k4,eg,Nat.sub_zero,go_sem]
   repeat' first
    |((first|refine cA (c89 _) ?_ ?_|refine cG (fun e=>c89 _) ?_ ?_|refine cA (c88 _) ?_ ?_|refine cG (fun e=>c88 _) ?_ ?_|refine cA (c90 _) ?_ ?_|refine cG (fun e=>c90 _) ?_ ?_|refine cA (c91 _) ?_ ?_|refine cG (fun e=>c91 _) ?_ ?_|refine cA (c92 _) ?_ ?_|refine cG (fun e=>c92 _) ?_ ?_|refine cU (fun _=>c89 _) ?_ ?_|refine cU (fun _=>c88 _) ?_ ?_|refine cU (fun _=>c90 _) ?_ ?_|refine cU (fun _=>c91 _) ?_ ?_|refine cU (fun _=>c92 _) ?_ ?_);(next=>exact flk);simp (disch:=omega) only [strs,qv,grC,ql,k3,k4,eg,Nat.sub_zero,k5,k6,go_sem])
    |((first|apply qc|apply qb);exact rvk;simp only [go_sem];first|exact VLe.refl _|apply qd|apply qa|apply qe|skip)
    |with_reducible first|refine And.intro ?_ ?_|intro _
   all_goals try exact clz
   refine hK _ _ (i+1) ⟨hi,fun j hj=> ?_⟩ (by omega) (Wk.temps ?_)
   ·by_cases e':j=i
    ·subst e';rw [hs,g6]
    ·exact i2 j (by omega)
   ·(simp only [strs,qv,List.replicate,go_sem,qj,qh,qg,qi];try (repeat' first|(with_reducible refine And.intro ?_ ?_)|(apply qd;omega)|(apply qa;rfl)|exact VLe.refl _))
  ·have k6:(e=0)=False:=eq_false g6
   have hV:R=e:=by rw [hR,hE (by rw [hs];exact g6),hs]
   rw [hV]
   simp (disch:=omega) only [List.replicate,strs,qv,grC,ql,k3,k4,eg,Nat.sub_zero,go_sem]
   repeat' first
    |((first|refine cA (c89 _) ?_ ?_|refine cG (fun e=>c89 _) ?_ ?_|refine cA (c88 _) ?_ ?_|refine cG (fun e=>c88 _) ?_ ?_|refine cA (c90 _) ?_ ?_|refine cG (fun e=>c90 _) ?_ ?_|refine cA (c91 _) ?_ ?_|refine cG (fun e=>c91 _) ?_ ?_|refine cA (c92 _) ?_ ?_|refine cG (fun e=>c92 _) ?_ ?_|refine cU (fun _=>c89 _) ?_ ?_|refine cU (fun _=>c88 _) ?_ ?_|refine cU (fun _=>c90 _) ?_ ?_|refine cU (fun _=>c91 _) ?_ ?_|refine cU (fun _=>c92 _) ?_ ?_);(next=>exact flk);simp (disch:=omega) only [strs,qv,grC,ql,k3,k4,eg,Nat.sub_zero,k5,k6,go_sem])
    |((first|apply qc|apply qb);exact rvk;simp only [go_sem];first|exact VLe.refl _|apply qd|apply qa|apply qe|skip)
    |with_reducible first|refine And.intro ?_ ?_|intro _
   all_goals try exact clz
 ·have k3:((i:Int)<gs.length)=False:=eq_false (by omega)
  rw [qE (fun j (hj:j<gs.length)=>i2 j (by omega))]at hR
  rw [hR]
  simp (disch:=omega) only [List.replicate,strs,qv,k3,go_sem]
  repeat' first
   |((first|apply qc|apply qb);exact rvk;simp only [go_sem];first|exact VLe.refl _|apply qd|apply qa|apply qe|skip)
   |with_reducible first|refine And.intro ?_ ?_|intro _
  all_goals try exact clz
end RC
end
section
open Go Go.Proofs AF HY LN
namespace RC
theorem qrl (l:List Int) (x:Int) (h:List AObj) (hn:l.length≤1000000000):qm Tryz.prog 56 [ql l,.int .i64 x] h (.bool (decide (x∈l))) h:=by
 have hmem: ∀i,i<l.length→(∀j,j<i→l.getD j 0≠x)→l.getD i 0=x→decide (x∈l)=true:=fun i hi _ e=>by
  refine decide_eq_true ?_
  rw [←e,gdqA,q9 hi]
  exact List.getElem_mem hi
 have hno:(∀j,j<l.length→l.getD j 0≠x)→decide (x∈l)=false:=fun hh=>by
  refine decide_eq_false fun hm=> ?_
  obtain ⟨i,hi,e⟩:=List.getElem_of_mem hm
  refine hh i hi ?_
  rw [gdqA,q9 hi]
  exact e
 obtain ⟨R,hR⟩: ∃R,R=decide (x∈l):=⟨_,rfl⟩
 rw [←hR]at hmem hno ⊢
 refine acO qxA ?_
 simp (disch:=omega) only [qyK,List.replicate,ql,go_sem]
 repeat' first
  |((first|apply qc|apply qb);exact rvk;simp only [go_sem];first|exact VLe.refl _|apply qd|apply qa|apply qe|skip)
  |with_reducible first|refine And.intro ?_ ?_|intro _
 all_goals try exact clz
 refine qo (T:=fun i:Nat=>qI 18 [(0,ql l),(1,.int .i64 x),(5,.int .i64 i)]) (H:=fun _=>h) (inv:=fun i=>i≤l.length∧ ∀j,j<i→l.getD j 0≠x) (m:=fun i=>l.length-i) 0 ⟨Nat.zero_le _,fun j hj=>by omega⟩ (Wk.temps ?_) ?_
 ·(simp only [ql,List.replicate,go_sem,qj,qh,qg,qi];try (repeat' first|(with_reducible refine And.intro ?_ ?_)|(apply qd;omega)|(apply qa;rfl)|exact VLe.refl _))
 rintro i ⟨i1,i2⟩ K hK
 by_cases hi:i<l.length
 ·have k1:((i:Int)<l.length)=True:=eq_true (by omega)
  have hm:=hmem i hi i2
  obtain ⟨v,hv⟩: ∃v,v=l.getD i 0:=⟨_,rfl⟩
  have ev:=hv.symm
  rw [ev]at hm
  by_cases g0:v=x
  ·have k2:(v=x)=True:=eq_true g0
   rw [hm g0]
   simp (disch:=omega) only [List.replicate,ql,k1,k2,ev,go_sem]
   repeat' first
    |((first|apply qc|apply qb);exact rvk;simp only [go_sem];first|exact VLe.refl _|apply qd|apply qa|apply qe|skip)
    |with_reducible first|refine And.intro ?_ ?_|intro _
   all_goals try exact clz
  ·have k2:(v=x)=False:=eq_false g0
   simp (disch:=omega) only [List.replicate,ql,k1,k2,ev,go_sem]
   repeat' first
    |((first|apply qc|apply qb);exact rvk;simp only [go_sem];first|exact VLe.refl _|apply qd|apply qa|apply qe|skip)
    |with_reducible first|refine And.intro ?_ ?_|intro _
   all_goals try exact clz
   refine hK _ _ (i+1) ⟨hi,fun j hj=> ?_⟩ (by omega) (Wk.temps ?_)
   ·by_cases e:j=i
    ·subst e;rw [ev];exact g0
    ·exact i2 j (by omega)
   ·(simp only [ql,List.replicate,go_sem,qj,qh,qg,qi];try (repeat' first|(with_reducible refine And.intro ?_ ?_)|(apply qd;omega)|(apply qa;rfl)|exact VLe.refl _))
 ·have k1:((i:Int)<l.length)=False:=eq_false (by omega)
  rw [hno (fun j hj=>i2 j (by omega))]
  simp (disch:=omega) only [List.replicate,ql,k1,go_sem]
  repeat' first
   |((first|apply qc|apply qb);exact rvk;simp only [go_sem];first|exact VLe.refl _|apply qd|apply qa|apply qe|skip)
   |with_reducible first|refine And.intro ?_ ?_|intro _
  all_goals try exact clz
theorem qvj (k v:Nat) (ty:TypeId) (L:List Int) (x:Int) (h:List AObj) (hk:qA k h=some (.mem v ty (qn L))) (hn:L.length≤1000000000):qm Tryz.prog 56 [.osl k v 1 0 L.length,.int .i64 x] h (.bool (decide (x∈L))) h:=by
 refine qm.borrow ?_ rfl
 have e:([AV.osl k v 1 0 L.length,.int .i64 x]).map (rei (fun _=>true) h 8)= [AV.sl L.length (fun i=>(((qn L).drop i).take 1).map (rei (fun _=>true) h 7)),.int .i64 x]:=by
  simp only [List.map_cons,List.map_nil,rei_osl,if_true,hk,slOf_mem,qt,Nat.zero_add,Nat.mul_one,Nat.le_refl,and_self,rei_int]
 rw [e]
 exact (qrl L x [] hn).le (qp2 (zr _ (fun n=>rfl) rfl) (qp2 (VLe.refl _) ke.nil)) (VLe.refl _)
theorem fmI (l:List Int):List.flatMap (fun i=> [AV.int .i64 (l.getD i 0)]) (List.range l.length)=qn l:=by
 induction l with
 |nil=>rfl
 |cons a l ih=>
  rw [List.length_cons,List.range_succ_eq_map,List.flatMap_cons,List.flatMap_map]
  show AV.int .i64 a::List.flatMap (fun i=> [AV.int .i64 (l.getD i 0)]) (List.range l.length)=_
  rw [ih]
  rfl
def qfF (names:List Str) (gs:List Gr) (sg:List Str) (i:Nat):List Int:=((List.range i).map fun j=>els names gs (sg.getD j [])).flatten
theorem qh4 (names:List Str) (gs:List Gr) (sg:List Str) (i:Nat):qfF names gs sg (i+1)=qfF names gs sg i++els names gs (sg.getD i []):=by unfold qfF;rw [List.range_succ,List.map_append,List.flatten_append];simp
theorem qfG {names:List Str} {gs:List Gr} {sg:List Str} {i:Nat} {x:Int}:x∈qfF names gs sg i↔ ∃j,j<i∧x∈els names gs (sg.getD j []):=by
 unfold qfF
 rw [List.mem_flatten]
 constructor
 ·rintro ⟨l,hl,hx⟩
  obtain ⟨j,hj,rfl⟩:=List.mem_map.1 hl
  exact ⟨j,List.mem_range.1 hj,hx⟩
 ·rintro ⟨j,hj,hx⟩
  exact ⟨_,List.mem_map.2 ⟨j,List.mem_range.2 hj,rfl⟩,hx⟩
theorem kD {p q:Nat→Bool} {n:Nat} (h: ∀k,k<n→p k=q k):qP p n=qP q n:=by
 unfold qP
 congr 1
 refine List.filter_congr fun k hk=>h k (List.mem_range.1 hk)
theorem qf4 {p:Nat→Bool} {n:Nat}: ∀m,n≤m→(∀k,n≤k→k<m→p k=false)→qP p m=qP p n:=by
 intro m
 induction m with
 |zero=>
  intro h _
  have:n=0:=by omega
  subst this;rfl
 |succ m ih=>
  intro h1 h2
  by_cases e:n=m+1
  ·subst e;rfl
  ·rw [zC,h2 m (by omega) (by omega),if_neg (by simp),List.append_nil,ih (by omega) (fun k a b=>h2 k a (by omega))]
theorem qqW (names:List Str) (gs:List Gr) (s:Str) (M:Nat) (h1:1≤M) (hg: ∀i,(gs.getD i default).mem.length≤M):(els names gs s).length≤M:=by
 unfold els
 split
 ·simpa using h1
 ·exact hg _
theorem qq1 {names:List Str} {gs:List Gr} {sg:List Str} (h:qs8 names gs) (hz: ∀j,j<sg.length→qaY names gs sg j=0):
  qP (qdu names gs sg sg.length).testBit 64=qP (fun k=>decide ((k:Int)∈qfF names gs sg sg.length)) names.length:=by
 obtain ⟨_,h2⟩:=qet h hz
 have e:qP (qdu names gs sg sg.length).testBit 64=qP (fun k=>decide ((k:Int)∈qfF names gs sg sg.length)) 64:=kD fun k _=>by
  rw [h2 k]
  exact decide_eq_decide.2 qfG.symm
 rw [e]
 refine qf4 64 (by have:=h.n32;omega) (fun k h1 _=>decide_eq_false fun hm=> ?_)
 obtain ⟨j,hj,hm⟩:=qfG.1 hm
 have h3: ¬(nIx names (sg.getD j [])<0∧gIx gs (sg.getD j [])<0):=by
  intro hc
  have:=hz j hj
  unfold qaY at this
  rw [if_pos hc]at this
  cases this
 have:=(zJ (qeJ h h3) _ hm).2
 omega
end RC
end
section
open Go Go.Proofs AF HY LN
namespace RC
set_option maxHeartbeats 8000000
theorem _root_.AF.Wk.kill6 {t:List AV} {h l:List AObj} {a b c d e f:AObj} {v:Nat} {ty:TypeId} {cs:List AV}:Wk t (h++a::b::c::d::e::f:: .mem v ty cs::l) t (h++a::b::c::d::e::f:: .emp (v+1)::l):=by
 have:=Wk.kill0 (t:=t) (h:=h++ [a,b,c,d,e,f]) (l:=l) (v:=v) (ty:=ty) (cs:=cs)
 simpa using this
theorem qq0 (names:List Str) (gs:List Gr) (sg:List Str) (h:List AObj) (hz:Szs names gs) (hs:sg.length≤1000000) (hgm: ∀i,(gs.getD i default).mem.length≤1000):
  qm Tryz.prog 28 [strs names,qv gs,strs sg] h (.tup [ql (zI names gs sg),.int .i64 (jR names gs sg)]) h:=by
 have c49:=fun h=>sgR names gs h hz
 obtain ⟨z1,z2,z3,z4,z5⟩:=hz
 obtain ⟨R,hR⟩: ∃R,R=jR names gs sg:=⟨_,rfl⟩
 obtain ⟨Q,hQ⟩: ∃Q,Q=zI names gs sg:=⟨_,rfl⟩
 rw [←hR,←hQ]
 unfold zI at hQ
 rw [←hR]at hQ
 unfold jR at hR
 obtain ⟨e,he⟩: ∃e,e=sgE names gs:=⟨_,rfl⟩
 rw [←he]at c49 hR
 by_cases g0: ¬e=0
 ·have k0:(e=0)=False:=eq_false g0
  rw [if_pos g0]at hR
  rw [if_neg (by omega)]at hQ
  rw [hR,hQ]
  refine acO quQ ?_
  simp (disch:=omega) only [qwP,List.replicate,strs,qv,k0,go_sem]
  unfold strs qv at c49
  repeat' first
   |((first|refine cA (c49 _) ?_ ?_|refine cG (fun e=>c49 _) ?_ ?_|refine cU (fun _=>c49 _) ?_ ?_);(next=>exact flk);simp (disch:=omega) only [strs,qv,k0,go_sem])
   |((first|apply qc|apply qb);exact rvk;simp only [go_sem];first|exact VLe.refl _|apply qd|apply qa|apply qe|skip)
   |with_reducible first|refine And.intro ?_ ?_|intro _
  all_goals try exact clz
  exact zb
 have g0:e=0:=Classical.not_not.1 g0
 have k0:(e=0)=True:=eq_true g0
 rw [if_neg (fun hc=>hc g0)]at hR
 have hok:=qcH (he.symm.trans g0)
 have h32:=hok.n32
 unfold strs qv at c49
 refine acO quQ ?_
 simp (disch:=omega) only [qwP,List.replicate,strs,qv,go_sem]
 repeat' first
  |((first|refine cA (c49 _) ?_ ?_|refine cG (fun e=>c49 _) ?_ ?_|refine cU (fun _=>c49 _) ?_ ?_);(next=>exact flk);simp (disch:=omega) only [strs,qv,k0,go_sem])
  |((first|apply qc|apply qb);exact rvk;simp only [go_sem];first|exact VLe.refl _|apply qd|apply qa|apply qe|skip)
  |with_reducible first|refine And.intro ?_ ?_|intro _
 all_goals try exact clz
 have eM:za [AV.int .i64 0] 0=qn (qfF names gs sg 0):=rfl
 rw [eM]
 refine qo (T:=fun i:Nat×Nat×Nat=>qI 81 [(0,strs names),(1,qv gs),(2,strs sg),(8,.osl (h.length+1) i.2.1 1 0 (qfF names gs sg i.1).length),(9,.int .i64 i.1)]) (H:=fun i=>h++ [.emp 1,.mem i.2.1 3 (qn (qfF names gs sg i.1)),.emp i.2.2,.emp 0,.emp 0,.emp 0,.emp 0,.emp 0])
  (inv:=fun i=>i.1≤sg.length∧(∀j,j<i.1→qaY names gs sg j=0)∧(qfF names gs sg i.1).length≤1000*i.1) (m:=fun i=>sg.length-i.1) (0,1,0) ⟨Nat.zero_le _,fun j hj=>absurd hj (Nat.not_lt_zero j),by simp [qfF]⟩ (Wk.temps ?_) ?_
 ·(simp only [strs,qv,qfF,List.range_zero,List.map_nil,List.flatten_nil,List.length_nil,List.replicate,go_sem,qj,qh,qg,qi];try (repeat' first|(with_reducible refine And.intro ?_ ?_)|(apply qd;omega)|(apply qa;rfl)|exact VLe.refl _))
 rintro ⟨i,v,w⟩ ⟨i1,i2,i3⟩ K hK
 simp only at i1 i2 i3 hK
 have hst:=qh4 names gs sg i
 have hel:=qqW names gs (sg.getD i []) 1000 (by omega) hgm
 obtain ⟨L,hL⟩: ∃L,L=qfF names gs sg i:=⟨_,rfl⟩
 have eL:=hL.symm
 have eC:=qt L
 rw [eL]at hst i3
 by_cases hi:i<sg.length
 ·have k1:((i:Int)<sg.length)=True:=eq_true (by omega)
  have k2:((i:Int)≤sg.length)=True:=eq_true (by omega)
  have hE:=qU (f:=qaY names gs sg) hi i2
  have hs:qaY names gs sg i=if nIx names (sg.getD i [])<0∧gIx gs (sg.getD i [])<0 then 6 else if jp (fun j=>decide (sg.getD i []=sg.getD j [])) i=true then 7 else 0:=rfl
  obtain ⟨s,hsx⟩: ∃s,s=sg.getD i []:=⟨_,rfl⟩
  have es:=hsx.symm
  simp only [es]at hs hst hel
  have c54:=fun h=>qhi names.length (fun j=>names.getD j []) s h z1
  have c55:=fun h=>qzj gs.length gs h (by omega)
  have c54b:=fun h=>qhi gs.length (fun j=>(gs.getD j default).name) s h (by omega)
  have c54c:=fun h=>qhi i (fun j=>sg.getD j []) s h (by omega)
  have hn:=qb4 names s
  have hg:=qbV gs s
  obtain ⟨n,hnx⟩: ∃n,n=nIx names s:=⟨_,rfl⟩
  obtain ⟨g,hgx⟩: ∃g,g=gIx gs s:=⟨_,rfl⟩
  have hnx':qbo (fun j=>decide (s=names.getD j [])) names.length 0=n:=hnx.symm
  have hgx':qbo (fun j=>decide (s=(gs.getD j default).name)) gs.length 0=g:=hgx.symm
  rw [hnx']at c54
  rw [hgx']at c54b
  rw [←hnx]at hn hs
  rw [←hgx]at hg hs
  simp only [grC,ql]at c55
  by_cases g1:n<0∧g<0
  ·have q1:(n<0)=True:=eq_true g1.1
   have q2:(g<0)=True:=eq_true g1.2
   rw [if_pos g1]at hs
   have hV:R=6:=by rw [hR,hE (by rw [hs];decide),hs]
   rw [hV,if_neg (by decide)]at hQ
   rw [hV,hQ]
   simp (disch:=omega) only [List.replicate,strs,qv,grC,ql,k1,k2,es,eL,go_sem]
   repeat' first
    |((first|refine cA (c54 _) ?_ ?_|refine cG (fun e=>c54 _) ?_ ?_|refine cA (c55 _) ?_ ?_|refine cG (fun e=>c55 _) ?_ ?_|refine cA (c54b _) ?_ ?_|refine cG (fun e=>c54b _) ?_ ?_|refine cU (fun _=>c54 _) ?_ ?_|refine cU (fun _=>c55 _) ?_ ?_|refine cU (fun _=>c54b _) ?_ ?_);(next=>exact flk);simp (disch:=omega) only [strs,qv,grC,ql,k1,k2,es,q1,q2,go_sem])
    |((first|apply qc|apply qb);exact rvk;simp only [go_sem];first|exact VLe.refl _|apply qd|apply qa|apply qe|skip)
    |with_reducible first|refine And.intro ?_ ?_|intro _
   all_goals try exact clz
   exact zb
  rw [if_neg g1]at hs
  have qf:((if n<0 then decide (g<0) else false)=true)=False:=eq_false (by
   split
   ·rename_i a;simp;exact Int.not_lt.1 (fun b=>g1 ⟨a,b⟩)
   ·simp)
  rcases qfZ (fun j=>decide (s=sg.getD j [])) i with ⟨g2,m,hm0,g2'⟩|⟨g2,g2'⟩
  ·rw [g2']at c54c
   rw [if_pos g2]at hs
   have k3:((0:Int)≤m)=True:=eq_true hm0
   have hV:R=7:=by rw [hR,hE (by rw [hs];decide),hs]
   rw [hV,if_neg (by decide)]at hQ
   rw [hV,hQ]
   by_cases g3:n<0
   ·have q1:(n<0)=True:=eq_true g3
    have q2:(g<0)=False:=eq_false (fun hc=>g1 ⟨g3,hc⟩)
    simp (disch:=omega) only [List.replicate,strs,qv,grC,ql,k1,k2,es,eL,Nat.sub_zero,go_sem]
    repeat' first
     |((first|refine cA (c54 _) ?_ ?_|refine cG (fun e=>c54 _) ?_ ?_|refine cA (c55 _) ?_ ?_|refine cG (fun e=>c55 _) ?_ ?_|refine cA (c54b _) ?_ ?_|refine cG (fun e=>c54b _) ?_ ?_|refine cA (c54c _) ?_ ?_|refine cG (fun e=>c54c _) ?_ ?_|refine cU (fun _=>c54 _) ?_ ?_|refine cU (fun _=>c55 _) ?_ ?_|refine cU (fun _=>c54b _) ?_ ?_|refine cU (fun _=>c54c _) ?_ ?_);(next=>exact flk);simp (disch:=omega) only [strs,qv,grC,ql,k1,k2,es,q1,q2,k3,Nat.sub_zero,go_sem])
     |((first|apply qc|apply qb);exact rvk;simp only [go_sem];first|exact VLe.refl _|apply qd|apply qa|apply qe|skip)
     |with_reducible first|refine And.intro ?_ ?_|intro _
    all_goals try exact clz
    exact zb
   ·have q1:(n<0)=False:=eq_false g3
    simp (disch:=omega) only [List.replicate,strs,qv,grC,ql,k1,k2,es,eL,Nat.sub_zero,go_sem]
    repeat' first
     |((first|refine cA (c54 _) ?_ ?_|refine cG (fun e=>c54 _) ?_ ?_|refine cA (c55 _) ?_ ?_|refine cG (fun e=>c55 _) ?_ ?_|refine cA (c54b _) ?_ ?_|refine cG (fun e=>c54b _) ?_ ?_|refine cA (c54c _) ?_ ?_|refine cG (fun e=>c54c _) ?_ ?_|refine cU (fun _=>c54 _) ?_ ?_|refine cU (fun _=>c55 _) ?_ ?_|refine cU (fun _=>c54b _) ?_ ?_|refine cU (fun _=>c54c _) ?_ ?_);(next=>exact flk);simp (disch:=omega) only [strs,qv,grC,ql,k1,k2,es,q1,k3,Nat.sub_zero,go_sem])
     |((first|apply qc|apply qb);exact rvk;simp only [go_sem];first|exact VLe.refl _|apply qd|apply qa|apply qe|skip)
     |with_reducible first|refine And.intro ?_ ?_|intro _
    all_goals try exact clz
    exact zb
  rw [g2']at c54c
  rw [if_neg (by rw [g2];simp)]at hs
  have hi2: ∀j,j<i+1→qaY names gs sg j=0:=fun j hj=>by
   by_cases e':j=i
   ·subst e';exact hs
   ·exact i2 j (by omega)
  have eT:List.take L.length (qn L)=qn L:=List.take_of_length_le (by omega)
  by_cases g3:n<0
  ·have q1:(n<0)=True:=eq_true g3
   have q2:(g<0)=False:=eq_false (fun hc=>g1 ⟨g3,hc⟩)
   have q3:(0≤n)=False:=eq_false (by omega)
   have eE:els names gs s=(gs.getD g.toNat default).mem:=by unfold els;rw [←hnx,←hgx,if_neg (by omega)]
   rcases hg with ⟨k,p1,p2,rfl⟩|⟨_,p2⟩
   ·rw [Int.toNat_natCast]at eE
    obtain ⟨y,hw⟩: ∃y,y=gs.getD k default:=⟨_,rfl⟩
    have ew:=hw.symm
    rw [ew]at eE
    rw [eE]at hst hel
    have q4:((k:Int)<gs.length)=True:=eq_true (by omega)
    have q5:(0≤(k:Int))=True:=eq_true (by omega)
    simp (disch:=omega) only [List.replicate,strs,qv,grC,ql,k1,k2,es,eL,Nat.sub_zero,Nat.mul_one,go_sem]
    repeat' first
     |((first|refine cA (c54 _) ?_ ?_|refine cG (fun e=>c54 _) ?_ ?_|refine cA (c55 _) ?_ ?_|refine cG (fun e=>c55 _) ?_ ?_|refine cA (c54b _) ?_ ?_|refine cG (fun e=>c54b _) ?_ ?_|refine cA (c54c _) ?_ ?_|refine cG (fun e=>c54c _) ?_ ?_|refine cU (fun _=>c54 _) ?_ ?_|refine cU (fun _=>c55 _) ?_ ?_|refine cU (fun _=>c54b _) ?_ ?_|refine cU (fun _=>c54c _) ?_ ?_);(next=>exact flk);simp (disch:=omega) only [strs,qv,grC,ql,k1,k2,es,eL,ew,q1,q2,q3,q4,q5,eC,eT,Nat.sub_zero,Nat.mul_one,go_sem])
     |((first|apply qc|apply qb);exact rvk;simp only [go_sem];first|exact VLe.refl _|apply qd|apply qa|apply qe|skip)
     |with_reducible first|refine And.intro ?_ ?_|intro _
    all_goals try exact clz
    ·rw [fmI];exact qt _
    rw [fmI,←qG,←List.length_append,←hst]
    refine hK _ _ (i+1,v+1,w) ⟨hi,hi2,by simp only;rw [hst,List.length_append];omega⟩ (by simp only;omega) (Wk.temps ?_)
    (simp only [strs,qv,grC,ql,List.replicate,go_sem,qj,qh,qg,qi];try (repeat' first|(with_reducible refine And.intro ?_ ?_)|(apply qd;omega)|(apply qa;rfl)|exact VLe.refl _))
   ·exact absurd ⟨g3,by omega⟩ g1
  ·have q1:(n<0)=False:=eq_false g3
   have q3:(0≤n)=True:=eq_true (by omega)
   have eE:els names gs s= [n]:=by unfold els;rw [←hnx,if_pos (by omega)]
   rw [eE]at hst hel
   simp (disch:=omega) only [List.replicate,strs,qv,grC,ql,k1,k2,es,eL,Nat.sub_zero,Nat.mul_one,go_sem]
   repeat' first
    |((first|refine cA (c54 _) ?_ ?_|refine cG (fun e=>c54 _) ?_ ?_|refine cA (c55 _) ?_ ?_|refine cG (fun e=>c55 _) ?_ ?_|refine cA (c54b _) ?_ ?_|refine cG (fun e=>c54b _) ?_ ?_|refine cA (c54c _) ?_ ?_|refine cG (fun e=>c54c _) ?_ ?_|refine cU (fun _=>c54 _) ?_ ?_|refine cU (fun _=>c55 _) ?_ ?_|refine cU (fun _=>c54b _) ?_ ?_|refine cU (fun _=>c54c _) ?_ ?_);(next=>exact flk);simp (disch:=omega) only [strs,qv,grC,ql,k1,k2,es,eL,q1,q3,eC,eT,Nat.sub_zero,Nat.mul_one,go_sem])
    |((first|apply qc|apply qb);exact rvk;simp only [go_sem];first|exact VLe.refl _|apply qd|apply qa|apply qe|skip)
    |with_reducible first|refine And.intro ?_ ?_|intro _
   all_goals try exact clz
   have eA:qn L++ [AV.int .i64 n]=qn (L++ [n]):=by rw [qG];rfl
   have eN:L.length+1=(L++ [n]).length:=by simp
   rw [eA,eN,←hst]
   refine hK _ _ (i+1,v+1,w+1+1) ⟨hi,hi2,by simp only;rw [hst,List.length_append,List.length_singleton];omega⟩ (by simp only;omega) (Wk.trans Wk.kill2 ?_)
   refine Wk.temps ?_
   (simp only [strs,qv,List.replicate,go_sem,qj,qh,qg,qi];try (repeat' first|(with_reducible refine And.intro ?_ ?_)|(apply qd;omega)|(apply qa;rfl)|exact VLe.refl _))
 have k1:((i:Int)<sg.length)=False:=eq_false (by omega)
 obtain rfl:i=sg.length:=by omega
 have hV:R=0:=by rw [hR];exact qE i2
 rw [if_pos hV,qq1 hok i2,eL]at hQ
 rw [hV]
 simp (disch:=omega) only [List.replicate,strs,qv,k1,eL,go_sem]
 repeat' first
  |((first|apply qc|apply qb);exact rvk;simp only [go_sem];first|exact VLe.refl _|apply qd|apply qa|apply qe|skip)
  |with_reducible first|refine And.intro ?_ ?_|intro _
 all_goals try exact clz
 have eM2:za [AV.int .i64 0] 0=qn (qP (fun k=>decide ((k:Int)∈L)) 0):=rfl
 rw [eM2]
 obtain ⟨p,hp⟩: ∃p:Nat→Bool,p=fun k:Nat=>decide ((k:Int)∈L):=⟨_,rfl⟩
 have ep: ∀k:Nat,decide ((k:Int)∈L)=p k:=fun k=>by rw [hp]
 rw [←hp]at hQ ⊢
 refine qo (T:=fun i:Nat×Nat×Nat=>qI 81 [(0,strs names),(8,.osl (h.length+1) v 1 0 L.length),(12,.osl (h.length+5) i.2.1 1 0 (qP p i.1).length),(13,.int .i64 i.1)]) (H:=fun i=>h++ [.emp 1,.mem v 3 (qn L),.emp w,.emp 0,.emp 0,.mem i.2.1 3 (qn (qP p i.1)),.emp i.2.2,.emp 0])
  (inv:=fun i=>i.1≤names.length) (m:=fun i=>names.length-i.1) (0,1,0) (Nat.zero_le _) (Wk.temps ?_) ?_
 ·(simp only [strs,qP,List.range_zero,List.filter_nil,List.map_nil,List.length_nil,List.replicate,go_sem,qj,qh,qg,qi];try (repeat' first|(with_reducible refine And.intro ?_ ?_)|(apply qd;omega)|(apply qa;rfl)|exact VLe.refl _))
 rintro ⟨k,v2,w2⟩ j1 K2 hK2
 simp only at j1 hK2
 have hst2:=zC p k
 have hln2:=qF p k
 obtain ⟨M,hM⟩: ∃M,M=qP p k:=⟨_,rfl⟩
 have eM:=hM.symm
 have eC2:=qt M
 rw [eM]at hst2 hln2
 by_cases hk:k<names.length
 ·have y1:((k:Int)<names.length)=True:=eq_true (by omega)
  have c56:=qvj (h.length+1) v 3 L k (h++ [.emp 1,.mem v 3 (qn L),.emp w,.emp 0,.emp 0,.mem v2 3 (qn M),.emp w2,.emp 0]) (by rw [getO_app];rfl) (by omega)
  rw [ep]at c56
  cases hb:p k with
  |true=>
   rw [hb]at c56 hst2
   have eT2:List.take M.length (qn M)=qn M:=List.take_of_length_le (by omega)
   simp (disch:=omega) only [List.replicate,strs,y1,eM,Nat.mul_one,go_sem]
   repeat' first
    |((first|refine cA (c56) ?_ ?_|refine cG (fun e=>c56) ?_ ?_);(next=>exact flk);simp (disch:=omega) only [strs,y1,eM,eC2,eT2,Nat.mul_one,go_sem])
    |((first|apply qc|apply qb);exact rvk;simp only [go_sem];first|exact VLe.refl _|apply qd|apply qa|apply qe|skip)
    |with_reducible first|refine And.intro ?_ ?_|intro _
   all_goals try exact clz
   rw [if_pos rfl]at hst2
   have eA:qn M++ [AV.int .i64 (k:Int)]=qn (M++ [(k:Int)]):=by rw [qG];rfl
   have eN:M.length+1=(M++ [(k:Int)]).length:=by simp
   rw [eA,eN,←hst2]
   refine hK2 _ _ (k+1,v2+1,w2+1+1) hk (by simp only;omega) (Wk.trans Wk.kill6 (Wk.temps ?_))
   (simp only [strs,List.replicate,go_sem,qj,qh,qg,qi];try (repeat' first|(with_reducible refine And.intro ?_ ?_)|(apply qd;omega)|(apply qa;rfl)|exact VLe.refl _))
  |false=>
   rw [hb]at c56 hst2
   rw [if_neg (by simp),List.append_nil]at hst2
   simp (disch:=omega) only [List.replicate,strs,y1,eM,Nat.mul_one,go_sem]
   repeat' first
    |((first|refine cA (c56) ?_ ?_|refine cG (fun e=>c56) ?_ ?_);(next=>exact flk);simp (disch:=omega) only [strs,y1,eM,Nat.mul_one,go_sem])
    |((first|apply qc|apply qb);exact rvk;simp only [go_sem];first|exact VLe.refl _|apply qd|apply qa|apply qe|skip)
    |with_reducible first|refine And.intro ?_ ?_|intro _
   all_goals try exact clz
   refine hK2 _ _ (k+1,v2,w2) hk (by simp only;omega) ?_
   simp only [hst2]
   refine Wk.temps ?_
   (simp only [strs,List.replicate,go_sem,qj,qh,qg,qi];try (repeat' first|(with_reducible refine And.intro ?_ ?_)|(apply qd;omega)|(apply qa;rfl)|exact VLe.refl _))
 have y1:((k:Int)<names.length)=False:=eq_false (by omega)
 obtain rfl:k=names.length:=by omega
 rw [hQ,eM]
 simp (disch:=omega) only [List.replicate,strs,y1,eM,go_sem]
 repeat' first
  |((first|apply qc|apply qb);exact rvk;simp only [go_sem];first|exact VLe.refl _|apply qd|apply qa|apply qe|skip)
  |with_reducible first|refine And.intro ?_ ?_|intro _
 all_goals try exact clz
 rw [if_pos (by omega)]
 refine qK ⟨zr _ (fun n=>rfl) rfl,VLe.refl _,trivial⟩
end RC
end
section
open Go Go.Proofs AF HY LN
namespace RC
set_option maxHeartbeats 4000000
theorem qrk (l:List Int) (x:Int) (h:List AObj) (hn:l.length≤1000000000):qm Tryz.prog 111 [ql l,.int .i64 x] h (.bool (decide (x∈l))) h:=by
 have hmem: ∀i,i<l.length→(∀j,j<i→l.getD j 0≠x)→l.getD i 0=x→decide (x∈l)=true:=fun i hi _ e=>by
  refine decide_eq_true ?_
  rw [←e,gdqA,q9 hi]
  exact List.getElem_mem hi
 have hno:(∀j,j<l.length→l.getD j 0≠x)→decide (x∈l)=false:=fun hh=>by
  refine decide_eq_false fun hm=> ?_
  obtain ⟨i,hi,e⟩:=List.getElem_of_mem hm
  refine hh i hi ?_
  rw [gdqA,q9 hi]
  exact e
 obtain ⟨R,hR⟩: ∃R,R=decide (x∈l):=⟨_,rfl⟩
 rw [←hR]at hmem hno ⊢
 refine acO qui ?_
 simp (disch:=omega) only [qtk,List.replicate,ql,go_sem]
 repeat' first
  |((first|apply qc|apply qb);exact rvk;simp only [go_sem];first|exact VLe.refl _|apply qd|apply qa|apply qe|skip)
  |with_reducible first|refine And.intro ?_ ?_|intro _
 all_goals try exact clz
 refine qo (T:=fun i:Nat=>qI 18 [(0,ql l),(1,.int .i64 x),(5,.int .i64 i)]) (H:=fun _=>h) (inv:=fun i=>i≤l.length∧ ∀j,j<i→l.getD j 0≠x) (m:=fun i=>l.length-i) 0 ⟨Nat.zero_le _,fun j hj=>by omega⟩ (Wk.temps ?_) ?_
 ·(simp only [ql,List.replicate,go_sem,qj,qh,qg,qi];try (repeat' first|(with_reducible refine And.intro ?_ ?_)|(apply qd;omega)|(apply qa;rfl)|exact VLe.refl _))
 rintro i ⟨i1,i2⟩ K hK
 by_cases hi:i<l.length
 ·have k1:((i:Int)<l.length)=True:=eq_true (by omega)
  have hm:=hmem i hi i2
  obtain ⟨v,hv⟩: ∃v,v=l.getD i 0:=⟨_,rfl⟩
  have ev:=hv.symm
  rw [ev]at hm
  by_cases g0:v=x
  ·have k2:(v=x)=True:=eq_true g0
   rw [hm g0]
   simp (disch:=omega) only [List.replicate,ql,k1,k2,ev,go_sem]
   repeat' first
    |((first|apply qc|apply qb);exact rvk;simp only [go_sem];first|exact VLe.refl _|apply qd|apply qa|apply qe|skip)
    |with_reducible first|refine And.intro ?_ ?_|intro _
   all_goals try exact clz
  ·have k2:(v=x)=False:=eq_false g0
   simp (disch:=omega) only [List.replicate,ql,k1,k2,ev,go_sem]
   repeat' first
    |((first|apply qc|apply qb);exact rvk;simp only [go_sem];first|exact VLe.refl _|apply qd|apply qa|apply qe|skip)
    |with_reducible first|refine And.intro ?_ ?_|intro _
   all_goals try exact clz
   refine hK _ _ (i+1) ⟨hi,fun j hj=> ?_⟩ (by omega) (Wk.temps ?_)
   ·by_cases e:j=i
    ·subst e;rw [ev];exact g0
    ·exact i2 j (by omega)
   ·(simp only [ql,List.replicate,go_sem,qj,qh,qg,qi];try (repeat' first|(with_reducible refine And.intro ?_ ?_)|(apply qd;omega)|(apply qa;rfl)|exact VLe.refl _))
 ·have k1:((i:Int)<l.length)=False:=eq_false (by omega)
  rw [hno (fun j hj=>i2 j (by omega))]
  simp (disch:=omega) only [List.replicate,ql,k1,go_sem]
  repeat' first
   |((first|apply qc|apply qb);exact rvk;simp only [go_sem];first|exact VLe.refl _|apply qd|apply qa|apply qe|skip)
   |with_reducible first|refine And.intro ?_ ?_|intro _
  all_goals try exact clz
theorem qtR (l:List Int) (h:List AObj) (hl:l.length≤1000000000) (hs:kL 64 l=0):qm Tryz.prog 143 [ql l] h (.int .i64 0) h:=by
 have hz:=kp.1 hs
 refine acO quy ?_
 simp (disch:=omega) only [qtx,List.replicate,ql,go_sem]
 repeat' first
  |((first|apply qc|apply qb);exact rvk;simp only [go_sem];first|exact VLe.refl _|apply qd|apply qa|apply qe|skip)
  |with_reducible first|refine And.intro ?_ ?_|intro _
 all_goals try exact clz
 refine qo (T:=fun i:Nat=>qI 36 [(0,ql l),(3,.int .i64 i)]) (H:=fun _=>h) (inv:=fun i=>i≤l.length) (m:=fun i=>l.length-i) 0 (Nat.zero_le _) (Wk.temps ?_) ?_
 ·(simp only [ql,List.replicate,go_sem,qj,qh,qg,qi];try (repeat' first|(with_reducible refine And.intro ?_ ?_)|(apply qd;omega)|(apply qa;rfl)|exact VLe.refl _))
 rintro i i1 K hK
 by_cases hi:i<l.length
 ·have k1:((i:Int)<l.length)=True:=eq_true (by omega)
  have hs:=hz i hi
  unfold qbq at hs
  obtain ⟨v,hv⟩: ∃v,v=l.getD i 0:=⟨_,rfl⟩
  obtain ⟨u,hu⟩: ∃u,u=l.getD (i-1) 0:=⟨_,rfl⟩
  have ev:=hv.symm
  have eu:=hu.symm
  rw [ev,eu]at hs
  have hb: ¬(v<0∨64≤v):=fun hc=>by rw [if_pos hc]at hs;cases hs
  rw [if_neg hb]at hs
  have q1:(v<0)=False:=eq_false (by omega)
  have q2:((63:Int)<v)=False:=eq_false (by omega)
  by_cases g3:0<i
  ·have q3:((0:Int)<i)=True:=eq_true (by omega)
   have q4:((i:Int)-1).toNat=i-1:=by omega
   have q5:(0≤(i:Int)-1)=True:=eq_true (by omega)
   have q6:((i:Int)-1<l.length)=True:=eq_true (by omega)
   have q7:(v≤u)=False:=eq_false fun hc=>by rw [if_pos ⟨g3,hc⟩]at hs;cases hs
   simp (disch:=omega) only [List.replicate,ql,k1,ev,eu,q1,q2,q3,q4,q5,q6,q7,go_sem]
   repeat' first
    |((first|apply qc|apply qb);exact rvk;simp only [go_sem];first|exact VLe.refl _|apply qd|apply qa|apply qe|skip)
    |with_reducible first|refine And.intro ?_ ?_|intro _
   all_goals try exact clz
   refine hK _ _ (i+1) hi (by omega) (Wk.temps ?_)
   (simp only [ql,List.replicate,go_sem,qj,qh,qg,qi];try (repeat' first|(with_reducible refine And.intro ?_ ?_)|(apply qd;omega)|(apply qa;rfl)|exact VLe.refl _))
  ·have q3:((0:Int)<i)=False:=eq_false (by omega)
   simp (disch:=omega) only [List.replicate,ql,k1,ev,q1,q2,q3,go_sem]
   repeat' first
    |(refine qu ( .bool false) ?_;simp (disch:=omega) only [ql,k1,ev,q1,q2,q3,go_sem])
    |((first|apply qc|apply qb);exact rvk;simp only [go_sem];first|exact VLe.refl _|apply qd|apply qa|apply qe|skip)
    |with_reducible first|refine And.intro ?_ ?_|intro _
   all_goals try exact clz
   refine hK _ _ (i+1) hi (by omega) (Wk.temps ?_)
   (simp only [ql,List.replicate,go_sem,qj,qh,qg,qi];try (repeat' first|(with_reducible refine And.intro ?_ ?_)|(apply qd;omega)|(apply qa;rfl)|exact VLe.refl _))
 ·have k1:((i:Int)<l.length)=False:=eq_false (by omega)
  simp (disch:=omega) only [List.replicate,ql,k1,go_sem]
  repeat' first
   |((first|apply qc|apply qb);exact rvk;simp only [go_sem];first|exact VLe.refl _|apply qd|apply qa|apply qe|skip)
   |with_reducible first|refine And.intro ?_ ?_|intro _
  all_goals try exact clz
theorem qte (a b:List Int) (h:List AObj) (ha:a.length≤1000000000) (hb:b.length≤1000000000) (sa:kL 64 a=0) (sb:kL 64 b=0):qm Tryz.prog 110 [ql a,ql b] h (.bool false) h:=by
 have c1:=fun h=>qtR a h ha sa
 have c2:=fun h=>qtR b h hb sb
 unfold ql at c1 c2
 refine acO quh ?_
 simp (disch:=omega) only [qtj,List.replicate,ql,go_sem]
 repeat' first
  |((first|refine cA (c1 _) ?_ ?_|refine cG (fun e=>c1 _) ?_ ?_|refine cA (c2 _) ?_ ?_|refine cG (fun e=>c2 _) ?_ ?_|refine cU (fun _=>c1 _) ?_ ?_|refine cU (fun _=>c2 _) ?_ ?_);(next=>exact flk);simp (disch:=omega) only [ql,go_sem])
  |((first|apply qc|apply qb);exact rvk;simp only [go_sem];first|exact VLe.refl _|apply qd|apply qa|apply qe|skip)
  |with_reducible first|refine And.intro ?_ ?_|intro _
 all_goals try exact clz
theorem qAo (a b:List Int) (h:List AObj) (ha:a.length≤1000000000) (hb:b.length≤1000000000) (sa:kL 64 a=0) (sb:kL 64 b=0):
  qm Tryz.prog 71 [ql a,ql b] h (.tup [ql (qP (fun k=>decide ((k:Int)∈a)||decide ((k:Int)∈b)) 64),.int .i64 0]) h:=by
 have c0:=fun h=>qte a b h ha hb sa sb
 unfold ql at c0
 obtain ⟨p,hp⟩: ∃p:Nat→Bool,p=fun k:Nat=>decide ((k:Int)∈a)||decide ((k:Int)∈b):=⟨_,rfl⟩
 have ep: ∀k:Nat,p k=(decide ((k:Int)∈a)||decide ((k:Int)∈b)):=fun k=>by rw [hp]
 rw [←hp]
 refine acO qxF ?_
 simp (disch:=omega) only [qyP,List.replicate,ql,go_sem]
 repeat' first
  |((first|refine cA (c0 _) ?_ ?_|refine cG (fun e=>c0 _) ?_ ?_|refine cU (fun _=>c0 _) ?_ ?_);(next=>exact flk);simp (disch:=omega) only [ql,go_sem])
  |((first|apply qc|apply qb);exact rvk;simp only [go_sem];first|exact VLe.refl _|apply qd|apply qa|apply qe|skip)
  |with_reducible first|refine And.intro ?_ ?_|intro _
 all_goals try exact clz
 have eM2:za [AV.int .i64 0] 0=qn (qP p 0):=rfl
 rw [eM2]
 refine qo (T:=fun i:Nat×Nat×Nat=>qI 29 [(0,ql a),(1,ql b),(6,.osl (h.length+1) i.2.1 1 0 (qP p i.1).length),(7,.int .i64 i.1)]) (H:=fun i=>h++ [.emp 1,.mem i.2.1 3 (qn (qP p i.1)),.emp i.2.2,.emp 0])
  (inv:=fun i=>i.1≤64) (m:=fun i=>64-i.1) (0,1,0) (Nat.zero_le _) (Wk.temps ?_) ?_
 ·(simp only [ql,qP,List.range_zero,List.filter_nil,List.map_nil,List.length_nil,List.replicate,go_sem,qj,qh,qg,qi];try (repeat' first|(with_reducible refine And.intro ?_ ?_)|(apply qd;omega)|(apply qa;rfl)|exact VLe.refl _))
 rintro ⟨k,v2,w2⟩ j1 K2 hK2
 simp only at j1 hK2
 have hst2:=zC p k
 have hln2:=qF p k
 obtain ⟨M,hM⟩: ∃M,M=qP p k:=⟨_,rfl⟩
 have eM:=hM.symm
 have eC2:=qt M
 rw [eM]at hst2 hln2
 by_cases hk:k<64
 ·have y1:((k:Int)<64)=True:=eq_true (by omega)
  have c1:=fun h=>qrk a k h ha
  have c2:=fun h=>qrk b k h hb
  have epk:=ep k
  unfold ql at c1 c2
  cases hb1:decide ((k:Int)∈a)with
  |true=>
   rw [hb1]at c1 epk
   rw [Bool.true_or]at epk
   rw [epk,if_pos rfl]at hst2
   have eT2:List.take M.length (qn M)=qn M:=List.take_of_length_le (by omega)
   simp (disch:=omega) only [List.replicate,ql,y1,eM,Nat.mul_one,go_sem]
   repeat' first
    |(refine qu ( .bool false) ?_;simp (disch:=omega) only [ql,y1,eM,eC2,eT2,Nat.mul_one,go_sem])
    |((first|refine cA (c1 _) ?_ ?_|refine cG (fun e=>c1 _) ?_ ?_|refine cU (fun _=>c1 _) ?_ ?_);(next=>exact flk);simp (disch:=omega) only [ql,y1,eM,eC2,eT2,Nat.mul_one,go_sem])
    |((first|apply qc|apply qb);exact rvk;simp only [go_sem];first|exact VLe.refl _|apply qd|apply qa|apply qe|skip)
    |with_reducible first|refine And.intro ?_ ?_|intro _
   all_goals try exact clz
   have eA:qn M++ [AV.int .i64 (k:Int)]=qn (M++ [(k:Int)]):=by rw [qG];rfl
   have eN:M.length+1=(M++ [(k:Int)]).length:=by simp
   rw [eA,eN,←hst2]
   refine hK2 _ _ (k+1,v2+1,w2+1+1) hk (by simp only;omega) (Wk.trans Wk.kill2 (Wk.temps ?_))
   (simp only [ql,List.replicate,go_sem,qj,qh,qg,qi];try (repeat' first|(with_reducible refine And.intro ?_ ?_)|(apply qd;omega)|(apply qa;rfl)|exact VLe.refl _))
  |false=>
   rw [hb1]at c1 epk
   rw [Bool.false_or]at epk
   cases hb2:decide ((k:Int)∈b)with
   |true=>
    rw [hb2]at c2 epk
    rw [epk,if_pos rfl]at hst2
    have eT2:List.take M.length (qn M)=qn M:=List.take_of_length_le (by omega)
    simp (disch:=omega) only [List.replicate,ql,y1,eM,Nat.mul_one,go_sem]
    repeat' first
     |((first|refine cA (c1 _) ?_ ?_|refine cG (fun e=>c1 _) ?_ ?_|refine cA (c2 _) ?_ ?_|refine cG (fun e=>c2 _) ?_ ?_|refine cU (fun _=>c1 _) ?_ ?_|refine cU (fun _=>c2 _) ?_ ?_);(next=>exact flk);simp (disch:=omega) only [ql,y1,eM,eC2,eT2,Nat.mul_one,go_sem])
     |((first|apply qc|apply qb);exact rvk;simp only [go_sem];first|exact VLe.refl _|apply qd|apply qa|apply qe|skip)
     |with_reducible first|refine And.intro ?_ ?_|intro _
    all_goals try exact clz
    have eA:qn M++ [AV.int .i64 (k:Int)]=qn (M++ [(k:Int)]):=by rw [qG];rfl
    have eN:M.length+1=(M++ [(k:Int)]).length:=by simp
    rw [eA,eN,←hst2]
    refine hK2 _ _ (k+1,v2+1,w2+1+1) hk (by simp only;omega) (Wk.trans Wk.kill2 (Wk.temps ?_))
    (simp only [ql,List.replicate,go_sem,qj,qh,qg,qi];try (repeat' first|(with_reducible refine And.intro ?_ ?_)|(apply qd;omega)|(apply qa;rfl)|exact VLe.refl _))
   |false=>
    rw [hb2]at c2 epk
    rw [epk,if_neg (by simp),List.append_nil]at hst2
    simp (disch:=omega) only [List.replicate,ql,y1,eM,Nat.mul_one,go_sem]
    repeat' first
     |((first|refine cA (c1 _) ?_ ?_|refine cG (fun e=>c1 _) ?_ ?_|refine cA (c2 _) ?_ ?_|refine cG (fun e=>c2 _) ?_ ?_|refine cU (fun _=>c1 _) ?_ ?_|refine cU (fun _=>c2 _) ?_ ?_);(next=>exact flk);simp (disch:=omega) only [ql,y1,eM,Nat.mul_one,go_sem])
     |((first|apply qc|apply qb);exact rvk;simp only [go_sem];first|exact VLe.refl _|apply qd|apply qa|apply qe|skip)
     |with_reducible first|refine And.intro ?_ ?_|intro _
    all_goals try exact clz
    refine hK2 _ _ (k+1,v2,w2) hk (by simp only;omega) ?_
    simp only [hst2]
    refine Wk.temps ?_
    (simp only [ql,List.replicate,go_sem,qj,qh,qg,qi];try (repeat' first|(with_reducible refine And.intro ?_ ?_)|(apply qd;omega)|(apply qa;rfl)|exact VLe.refl _))
 have y1:((k:Int)<64)=False:=eq_false (by omega)
 obtain rfl:k=64:=by omega
 rw [eM]
 simp (disch:=omega) only [List.replicate,ql,y1,eM,go_sem]
 repeat' first
  |((first|apply qc|apply qb);exact rvk;simp only [go_sem];first|exact VLe.refl _|apply qd|apply qa|apply qe|skip)
  |with_reducible first|refine And.intro ?_ ?_|intro _
 all_goals try exact clz
 rw [if_pos (by omega)]
 refine qK ⟨zr _ (fun n=>rfl) rfl,VLe.refl _,trivial⟩
end RC
end
section
open Go Go.Proofs AF HY LN
namespace RC
set_option maxHeartbeats 4000000
def qfR (a b:List Int) (i:Nat):List Int:=(a.take i).filter fun x=>decide (x∈b)
theorem qjz {a b:List Int} {i:Nat} (hi:i<a.length):qfR a b (i+1)=qfR a b i++if decide (a.getD i 0∈b)=true then [a.getD i 0] else []:=by
 unfold qfR
 rw [List.take_add_one,q9 hi,gdqA,q9 hi,List.filter_append]
 congr 1
 show List.filter _ [a[i]]=if decide (a[i]∈b)=true then [a[i]] else []
 rw [List.filter_cons]
 split<;>rfl
theorem qnc (a b:List Int) (i:Nat):(qfR a b i).length≤i:=by
 unfold qfR
 have h1:=List.length_filter_le (fun x=>decide (x∈b)) (a.take i)
 have h2:=List.length_take_le i a
 omega
theorem qzX (a b:List Int) (h:List AObj) (ha:a.length≤1000000) (hb:b.length≤1000000000) (sa:kL 64 a=0) (sb:kL 64 b=0):
  qm Tryz.prog 70 [ql a,ql b] h (.tup [ql (qfR a b a.length),.int .i64 0]) h:=by
 have c0:=fun h=>qte a b h (by omega) hb sa sb
 unfold ql at c0
 refine acO qxE ?_
 simp (disch:=omega) only [qyO,List.replicate,ql,go_sem]
 repeat' first
  |((first|refine cA (c0 _) ?_ ?_|refine cG (fun e=>c0 _) ?_ ?_|refine cU (fun _=>c0 _) ?_ ?_);(next=>exact flk);simp (disch:=omega) only [ql,go_sem])
  |((first|apply qc|apply qb);exact rvk;simp only [go_sem];first|exact VLe.refl _|apply qd|apply qa|apply qe|skip)
  |with_reducible first|refine And.intro ?_ ?_|intro _
 all_goals try exact clz
 have eM2:za [AV.int .i64 0] 0=qn (qfR a b 0):=rfl
 rw [eM2]
 refine qo (T:=fun i:Nat×Nat×Nat=>qI 32 [(0,ql a),(1,ql b),(6,.osl (h.length+1) i.2.1 1 0 (qfR a b i.1).length),(7,.int .i64 i.1)]) (H:=fun i=>h++ [.emp 1,.mem i.2.1 3 (qn (qfR a b i.1)),.emp i.2.2,.emp 0])
  (inv:=fun i=>i.1≤a.length) (m:=fun i=>a.length-i.1) (0,1,0) (Nat.zero_le _) (Wk.temps ?_) ?_
 ·(simp only [ql,qfR,List.take_zero,List.filter_nil,List.length_nil,List.replicate,go_sem,qj,qh,qg,qi];try (repeat' first|(with_reducible refine And.intro ?_ ?_)|(apply qd;omega)|(apply qa;rfl)|exact VLe.refl _))
 rintro ⟨k,v2,w2⟩ j1 K2 hK2
 simp only at j1 hK2
 have hst2:= @qjz a b k
 have hln2:=qnc a b k
 obtain ⟨M,hM⟩: ∃M,M=qfR a b k:=⟨_,rfl⟩
 have eM:=hM.symm
 have eC2:=qt M
 rw [eM]at hst2 hln2
 by_cases hk:k<a.length
 ·have y1:((k:Int)<a.length)=True:=eq_true (by omega)
  have hst2:=hst2 hk
  obtain ⟨x,hx⟩: ∃x,x=a.getD k 0:=⟨_,rfl⟩
  have ex:=hx.symm
  rw [ex]at hst2
  have c1:=fun h=>qrk b x h hb
  unfold ql at c1
  cases hb1:decide (x∈b)with
  |true=>
   rw [hb1]at c1 hst2
   rw [if_pos rfl]at hst2
   have eT2:List.take M.length (qn M)=qn M:=List.take_of_length_le (by omega)
   simp (disch:=omega) only [List.replicate,ql,y1,eM,ex,Nat.mul_one,go_sem]
   repeat' first
    |((first|refine cA (c1 _) ?_ ?_|refine cG (fun e=>c1 _) ?_ ?_|refine cU (fun _=>c1 _) ?_ ?_);(next=>exact flk);simp (disch:=omega) only [ql,y1,eM,ex,eC2,eT2,Nat.mul_one,go_sem])
    |((first|apply qc|apply qb);exact rvk;simp only [go_sem];first|exact VLe.refl _|apply qd|apply qa|apply qe|skip)
    |with_reducible first|refine And.intro ?_ ?_|intro _
   all_goals try exact clz
   have eA:qn M++ [AV.int .i64 x]=qn (M++ [x]):=by rw [qG];rfl
   have eN:M.length+1=(M++ [x]).length:=by simp
   rw [eA,eN,←hst2]
   refine hK2 _ _ (k+1,v2+1,w2+1+1) hk (by simp only;omega) (Wk.trans Wk.kill2 (Wk.temps ?_))
   (simp only [ql,List.replicate,go_sem,qj,qh,qg,qi];try (repeat' first|(with_reducible refine And.intro ?_ ?_)|(apply qd;omega)|(apply qa;rfl)|exact VLe.refl _))
  |false=>
   rw [hb1]at c1 hst2
   rw [if_neg (by simp),List.append_nil]at hst2
   simp (disch:=omega) only [List.replicate,ql,y1,eM,ex,Nat.mul_one,go_sem]
   repeat' first
    |((first|refine cA (c1 _) ?_ ?_|refine cG (fun e=>c1 _) ?_ ?_|refine cU (fun _=>c1 _) ?_ ?_);(next=>exact flk);simp (disch:=omega) only [ql,y1,eM,ex,Nat.mul_one,go_sem])
    |((first|apply qc|apply qb);exact rvk;simp only [go_sem];first|exact VLe.refl _|apply qd|apply qa|apply qe|skip)
    |with_reducible first|refine And.intro ?_ ?_|intro _
   all_goals try exact clz
   refine hK2 _ _ (k+1,v2,w2) hk (by simp only;omega) ?_
   simp only [hst2]
   refine Wk.temps ?_
   (simp only [ql,List.replicate,go_sem,qj,qh,qg,qi];try (repeat' first|(with_reducible refine And.intro ?_ ?_)|(apply qd;omega)|(apply qa;rfl)|exact VLe.refl _))
 have y1:((k:Int)<a.length)=False:=eq_false (by omega)
 obtain rfl:k=a.length:=by omega
 rw [eM]
 simp (disch:=omega) only [List.replicate,ql,y1,eM,go_sem]
 repeat' first
  |((first|apply qc|apply qb);exact rvk;simp only [go_sem];first|exact VLe.refl _|apply qd|apply qa|apply qe|skip)
  |with_reducible first|refine And.intro ?_ ?_|intro _
 all_goals try exact clz
 rw [if_pos (by omega)]
 refine qK ⟨zr _ (fun n=>rfl) rfl,VLe.refl _,trivial⟩
theorem qq3 (a b:List Int):decide (0<(qfR a b a.length).length)=a.any fun x=>decide (x∈b):=by
 unfold qfR
 rw [List.take_length]
 cases h:a.any fun x=>decide (x∈b)with
 |true=>
  obtain ⟨x,h1,h2⟩:=List.any_eq_true.1 h
  exact decide_eq_true (List.length_pos_of_mem (List.mem_filter.2 ⟨h1,h2⟩))
 |false=>
  refine decide_eq_false ?_
  rw [List.filter_eq_nil_iff.2 fun x hx=>by simpa using List.any_eq_false.1 h x hx]
  simp
theorem qas {p:Nat→Bool} {n:Nat} {x:Int}:x∈qP p n↔ ∃k:Nat,k<n∧p k=true∧x=k:=by
 unfold qP
 constructor
 ·intro h
  obtain ⟨k,hk,rfl⟩:=List.mem_map.1 h
  obtain ⟨h1,h2⟩:=List.mem_filter.1 hk
  exact ⟨k,List.mem_range.1 h1,h2,rfl⟩
 ·rintro ⟨k,h1,h2,rfl⟩
  exact List.mem_map.2 ⟨k,List.mem_filter.2 ⟨List.mem_range.2 h1,h2⟩,rfl⟩
theorem qf5 {p:Nat→Bool} {n:Nat} (hn:n≤64):kL 64 (qP p n)=0:=by
 unfold kL
 refine qE fun i hi=> ?_
 have hpw:(qP p n).Pairwise (· < ·):=by
  unfold qP
  rw [List.pairwise_map]
  refine List.Pairwise.imp ?_ (List.Pairwise.filter _ List.pairwise_lt_range)
  intro a b hab
  show (a:Int)<(b:Int)
  omega
 have g: ∀j (hj:j<(qP p n).length),(qP p n).getD j 0=(qP p n)[j]:=fun j hj=>by rw [gdqA,q9 hj];rfl
 unfold qbq
 obtain ⟨k,h1,h2,h3⟩:=qas.1 (List.getElem_mem hi)
 rw [g i hi,if_neg (by rw [h3];omega)]
 split
 ·rename_i hc
  obtain ⟨h4,h5⟩:=hc
  rw [g (i-1) (by omega)]at h5
  have:=List.pairwise_iff_getElem.1 hpw (i-1) i (by omega) hi (by omega)
  omega
 ·rfl
end RC
end
section
open Go Go.Proofs AF HY LN
namespace RC
set_option maxHeartbeats 4000000
theorem smw (ws:List Str) (m:Nat) (k:Nat→Str) (h:List AObj) (h1:ws.length≤1000000000) (h2:m≤1000000000):
  qm Tryz.prog 85 [strs ws,.sl m (fun j=> [.str (k j)])] h (.bool (decide (ws.length=m∧ ∀i,i<ws.length→ws.getD i []=k i))) h:=by
 obtain ⟨R,hR⟩: ∃R,R=decide (ws.length=m∧ ∀i,i<ws.length→ws.getD i []=k i):=⟨_,rfl⟩
 rw [←hR]
 by_cases g:ws.length=m
 ·have k0:((ws.length:Int)=m)=True:=eq_true (by omega)
  refine acO qu5 ?_
  simp (disch:=omega) only [qw4,List.replicate,strs,k0,go_sem]
  repeat' first
   |((first|apply qc|apply qb);exact rvk;simp only [go_sem];first|exact VLe.refl _|apply qd|apply qa|apply qe|skip)
   |with_reducible first|refine And.intro ?_ ?_|intro _
  all_goals try exact clz
  refine qo (T:=fun i:Nat=>qI 26 [(0,strs ws),(1,.sl m (fun j=> [.str (k j)])),(5,.int .i64 i)]) (H:=fun _=>h) (inv:=fun i=>i≤ws.length∧ ∀j,j<i→ws.getD j []=k j) (m:=fun i=>ws.length-i) 0 ⟨Nat.zero_le _,fun j hj=>by omega⟩ (Wk.temps ?_) ?_
  ·(simp only [strs,List.replicate,go_sem,qj,qh,qg,qi];try (repeat' first|(with_reducible refine And.intro ?_ ?_)|(apply qd;omega)|(apply qa;rfl)|exact VLe.refl _))
  rintro i ⟨i1,i2⟩ K hK
  by_cases hi:i<ws.length
  ·have k1:((i:Int)<ws.length)=True:=eq_true (by omega)
   have k3:((i:Int)<m)=True:=eq_true (by omega)
   obtain ⟨x,hx⟩: ∃x,x=ws.getD i []:=⟨_,rfl⟩
   have ex:=hx.symm
   by_cases e:x=k i
   ·have k2:(x=k i)=True:=eq_true e
    simp (disch:=omega) only [List.replicate,strs,k1,k2,k3,ex,go_sem]
    repeat' first
     |((first|apply qc|apply qb);exact rvk;simp only [go_sem];first|exact VLe.refl _|apply qd|apply qa|apply qe|skip)
     |with_reducible first|refine And.intro ?_ ?_|intro _
    all_goals try exact clz
    refine hK _ _ (i+1) ⟨hi,fun j hj=> ?_⟩ (by omega) (Wk.temps ?_)
    ·by_cases e':j=i
     ·subst e';rw [ex];exact e
     ·exact i2 j (by omega)
    ·(simp only [strs,List.replicate,go_sem,qj,qh,qg,qi];try (repeat' first|(with_reducible refine And.intro ?_ ?_)|(apply qd;omega)|(apply qa;rfl)|exact VLe.refl _))
   ·have k2:(x=k i)=False:=eq_false e
    have hV:R=false:=by rw [hR];exact decide_eq_false fun hc=>e (by rw [←ex];exact hc.2 i hi)
    rw [hV]
    simp (disch:=omega) only [List.replicate,strs,k1,k2,k3,ex,go_sem]
    repeat' first
     |((first|apply qc|apply qb);exact rvk;simp only [go_sem];first|exact VLe.refl _|apply qd|apply qa|apply qe|skip)
     |with_reducible first|refine And.intro ?_ ?_|intro _
    all_goals try exact clz
  ·have k1:((i:Int)<ws.length)=False:=eq_false (by omega)
   have hV:R=true:=by rw [hR];exact decide_eq_true ⟨g,fun j hj=>i2 j (by omega)⟩
   rw [hV]
   simp (disch:=omega) only [List.replicate,strs,k1,go_sem]
   repeat' first
    |((first|apply qc|apply qb);exact rvk;simp only [go_sem];first|exact VLe.refl _|apply qd|apply qa|apply qe|skip)
    |with_reducible first|refine And.intro ?_ ?_|intro _
   all_goals try exact clz
 ·have k0:((ws.length:Int)=m)=False:=eq_false (by omega)
  have hV:R=false:=by rw [hR];exact decide_eq_false fun hc=>g hc.1
  rw [hV]
  refine acO qu5 ?_
  simp (disch:=omega) only [qw4,List.replicate,strs,k0,go_sem]
  repeat' first
   |((first|apply qc|apply qb);exact rvk;simp only [go_sem];first|exact VLe.refl _|apply qd|apply qa|apply qe|skip)
   |with_reducible first|refine And.intro ?_ ?_|intro _
  all_goals try exact clz
theorem qyc (a b:List Str) (h:List AObj) (h1:a.length≤1000000000) (h2:b.length≤1000000000):
  qm Tryz.prog 85 [strs a,strs b] h (.bool (decide (a=b))) h:=by
 have c:=smw a b.length (fun j=>b.getD j []) h h1 h2
 have e:decide (a.length=b.length∧ ∀i,i<a.length→a.getD i []=b.getD i [])=decide (a=b):=decide_eq_decide.2 (kW ([]:Str)).symm
 rw [e]at c
 exact c
end RC
end
section
open Go Go.Proofs AF HY LN
namespace RC
def kf (names:List Str) (gs:List Gr) (e:En):Nat→List Int×Bool
 |0=>(zI names gs e.sup,false)
 |i+1=>(qP (fun k=>decide ((k:Int)∈(kf names gs e i).1)||decide ((k:Int)∈zI names gs (e.vars.getD i default).sigla)) 64,(kf names gs e i).2||(kf names gs e i).1.any fun x=>decide (x∈zI names gs (e.vars.getD i default).sigla))
theorem k9 (names:List Str) (gs:List Gr) (e:En) (i:Nat):kf names gs e (i+1)=(qP (fun k=>decide ((k:Int)∈(kf names gs e i).1)||decide ((k:Int)∈zI names gs (e.vars.getD i default).sigla)) 64,(kf names gs e i).2||(kf names gs e i).1.any fun x=>decide (x∈zI names gs (e.vars.getD i default).sigla)):=rfl
theorem qbB (names:List Str) (gs:List Gr) (sg:List Str):kL 64 (zI names gs sg)=0∧(zI names gs sg).length≤64:=by
 unfold zI
 split
 ·exact ⟨qf5 (by omega),qF _ _⟩
 ·exact ⟨rfl,Nat.zero_le _⟩
theorem qh3 (names:List Str) (gs:List Gr) (e:En) (i:Nat):kL 64 (kf names gs e i).1=0∧(kf names gs e i).1.length≤64:=by
 cases i with
 |zero=>exact qbB _ _ _
 |succ i=>rw [k9];exact ⟨qf5 (by omega),qF _ _⟩
theorem qmF (L:List Int): ∀(C:List Int) (j:Nat),L.Nodup→(∀x∈L,0≤x∧x<C.length)→j<C.length→(qbQ C L).getD j 0=C.getD j 0+if (j:Int)∈L then 1 else 0:=by
 induction L with
 |nil=>intro C j _ _ _;simp [qbQ]
 |cons n L ih=>
  intro C j hn hL hj
  obtain ⟨h1,h2⟩:=List.nodup_cons.1 hn
  have hb:=hL n (by simp)
  show (qbQ (C.set n.toNat (C.getD n.toNat 0+1)) L).getD j 0=_
  rw [ih _ j h2 (fun x hx=>by rw [List.length_set];exact hL x (by simp [hx])) (by rw [List.length_set];exact hj)]
  by_cases e:(j:Int)=n
  ·have e2:n.toNat=j:=by omega
   have e3: ¬(j:Int)∈L:=by rw [e];exact h1
   rw [if_neg e3,if_pos (by rw [e];simp),e2]
   have:(C.set j (C.getD j 0+1)).getD j 0=C.getD j 0+1:=by
    rw [gdqA,List.getElem?_set_self hj];rfl
   rw [this]
   omega
  ·have e2: ¬n.toNat=j:=by omega
   have:(C.set n.toNat (C.getD n.toNat 0+1)).getD j 0=C.getD j 0:=by
    rw [gdqA,List.getElem?_set_ne e2,←gdqA]
   rw [this]
   congr 1
   simp [e]
theorem qg4 (p:Nat→Bool) (n:Nat):(qP p n).Nodup:=by
 unfold qP
 rw [List.Nodup,List.pairwise_map]
 refine List.Pairwise.imp ?_ (List.Pairwise.filter _ List.nodup_range)
 intro a b hab hc
 exact hab (by have hx:(a:Int)=(b:Int):=hc;omega)
theorem qcw (names:List Str) (gs:List Gr) (sg:List Str):(zI names gs sg).Nodup:=by
 unfold zI
 split
 ·exact qg4 _ _
 ·exact List.nodup_nil
structure qwy (A:List Int) (B:Bool) (C:List Int):Prop where
 len:C.length=32
 rng: ∀x∈A,0≤x∧x<32
 mem: ∀k:Nat,k<32→((k:Int)∈A↔1≤C.getD k 0)
 nn: ∀k:Nat,k<32→0≤C.getD k 0
 tw:B=true↔ ∃k:Nat,k<32∧1<C.getD k 0
theorem qfY {A O A' C:List Int} {B:Bool} (h:qwy A B C) (ho:O.Nodup) (hr: ∀x∈O,0≤x∧x<32) (hA: ∀x,x∈A'↔x∈A∨x∈O):qwy A' (B||A.any fun x=>decide (x∈O)) (qbQ C O):=by
 have hl:=h.len
 have hg:=fun (k:Nat) (hk:k<32)=>qmF O C k ho (fun x hx=>by have:=hr x hx;omega) (by omega)
 refine ⟨by rw [qbv,hl],fun x hx=> ?_,fun k hk=> ?_,fun k hk=> ?_,?_⟩
 ·rcases (hA x).1 hx with hx|hx
  ·exact h.rng x hx
  ·exact hr x hx
 ·rw [hA,h.mem k hk,hg k hk]
  have:=h.nn k hk
  by_cases e:(k:Int)∈O
  ·rw [if_pos e]
   exact ⟨fun _=>by omega,fun _=> .inr e⟩
  ·rw [if_neg e]
   constructor
   ·rintro (h1|h1)
    ·omega
    ·exact absurd h1 e
   ·intro h1;exact .inl (by omega)
 ·rw [hg k hk]
  have:=h.nn k hk
  split<;>omega
 ·rw [Bool.or_eq_true,h.tw,List.any_eq_true]
  constructor
  ·rintro (⟨k,hk,h1⟩|⟨x,hx,h1⟩)
   ·refine ⟨k,hk,?_⟩
    rw [hg k hk]
    split<;>omega
   ·have h1:=of_decide_eq_true h1
    have hx2:=h.rng x hx
    have e:((x.toNat:Nat):Int)=x:=by omega
    refine ⟨x.toNat,by omega,?_⟩
    rw [hg _ (by omega),e,if_pos h1]
    have:=(h.mem x.toNat (by omega)).1 (by rw [e];exact hx)
    omega
  ·rintro ⟨k,hk,h1⟩
   rw [hg k hk]at h1
   by_cases e:(k:Int)∈O
   ·rw [if_pos e]at h1
    exact .inr ⟨(k:Int),(h.mem k hk).2 (by omega),decide_eq_true e⟩
   ·rw [if_neg e]at h1
    exact .inl ⟨k,hk,by omega⟩
theorem qrw:qwy [] false (List.replicate 32 0):=by
 have g: ∀k:Nat,k<32→(List.replicate 32 (0:Int)).getD k 0=0:=fun k hk=>by
  rw [gdqA,List.getElem?_replicate,if_pos hk];rfl
 refine ⟨by simp,fun x hx=>by simp at hx,fun k hk=> ?_,fun k hk=> ?_,?_⟩
 ·rw [g k hk];simp
 ·rw [g k hk];omega
 ·constructor
  ·intro h;cases h
  ·rintro ⟨k,hk,h1⟩;rw [g k hk]at h1;omega
theorem qh2 (names:List Str) (gs:List Gr) (e:En): ∀i,qwy (kf names gs e i).1 (kf names gs e i).2 (cnt names gs e i):=by
 have hO:=fun sg=>zJ (@qfQ names gs sg)
 intro i
 induction i with
 |zero=>
  have:=qfY (A':=zI names gs e.sup) qrw (qcw names gs e.sup) (hO e.sup) (fun x=>by simp)
  exact this
 |succ i ih=>
  rw [k9]
  unfold cnt
  refine qfY ih (qcw _ _ _) (hO _) (fun x=> ?_)
  rw [qas]
  constructor
  ·rintro ⟨k,hk,h1,rfl⟩
   simpa using h1
  ·intro hx
   have hb:0≤x∧x<32:=by
    rcases hx with hx|hx
    ·exact ih.rng x hx
    ·exact hO _ x hx
   have e:((x.toNat:Nat):Int)=x:=by omega
   refine ⟨x.toNat,by omega,?_,e.symm⟩
   simp only [e]
   simpa using hx
theorem qaa (names:List Str) (gs:List Gr) (e:En) (i:Nat):qhM (cnt names gs e i)=(kf names gs e i).2:=by
 have h:=qh2 names gs e i
 unfold qhM
 rw [h.len,Bool.eq_iff_iff,h.tw,zH]
 simp only [decide_eq_true_eq]
end RC
end
section
open Go Go.Proofs AF HY LN
namespace RC
set_option maxHeartbeats 16000000
end RC
end
section
open Go Go.Proofs AF HY LN
namespace RC
set_option maxHeartbeats 8000000
def inV (names:List Str) (gs:List Gr) (e:En) (src:Int) (i:Nat):Bool:=decide (src∈zI names gs (e.vars.getD i default).sigla)
def vIx (names:List Str) (gs:List Gr) (e:En) (src:Int):Int:=qbo (inV names gs e src) e.vars.length 0
def qce (a b:En):Bool:=decide (a.frm<b.frm)||decide (a.frm=b.frm)&&decide (a.to<b.to)
end RC
end
section
open Go Go.Proofs AF
def qeR:List Nat:= [93,74,79,120,147,148,161,170,63,105,131,64,31,32,57,58,29,30]
def qwQ:C:=
 ((C.ops [ON 2 (.nilo 0 6 49) []]).seq (((C.ops [MV 3 0,O1 4 (.isnil .slice false) 3]).seq (C.cond (.t 4) ((C.ops [ON 2 (.nilo 0 6 49) []]).seq C.ret) C.skip)).seq ((C.ops [⟨some
 5,none,.bslc 1 6 0 49 [i6 0,i6 0,i6 0,.bool false,.nl,.nl] [],[]⟩,MV 6 0,O2 7 (.app 2 6 49 80) 5 6,MV 2 7]).seq
 C.ret)))
theorem quR:qM Tryz.prog 31 8 3 [RV.tmp 2] qwQ:=fi Tryz.f31 [2,5,7] qeR [] (by kernel_rfl) (by kernel_rfl) (by kernel_rfl) (by kernel_rfl)
def qyV:C:=
 ((C.ops [MC 2 (.bool false)]).seq ((C.ops [MV 3 0,MV 4 0,BI 5 .neq 3 4,MV 2 5]).seq
 C.ret))
theorem qxL:qM Tryz.prog 86 6 0 [RV.tmp 2] qyV:=fi Tryz.f86 [] qeR [] (by kernel_rfl) (by kernel_rfl) (by kernel_rfl) (by kernel_rfl)
def qqo:C:=
 ((C.ops [MV 10 1,BC 11 .add 10 (i6 1),MV 8 11]).seq (C.block 0 (((C.ops [MV 12 8,MV 13 2,BI 14 .lss 12 13]).seq (C.cond (.t 14) C.skip (C.exit 0))).seq ((C.block 1 ((C.ops [MV
 17 8,MV 9 17]).seq (C.block 2 (((C.ops [MV 18 9,MV 19 1,BI 20 .gtr 18 19,MV 21 20,MG 22 21 true 3,MG 23 21 true 0,MG 24 21 true 9,P2 25 21 true (.idxA 6) 23 24,P1 26 21
 true (.load (some 6)) 25,MG 27 21 true 0,MG 28 21 true 9,PC 29 21 true (.bin .sub) 28 (i6 1),P2 30 21 true (.idxA 6) 27 29,P1 31 21 true (.load (some 6)) 30,PN 32 21 true
 .callv [.t 22,.t 26,.t 31],PC 33 21 true (.bin .lss) 32 (i6 0),PF 34 21 33]).seq (C.cond (.t 34) C.skip (C.exit 2))).seq ((C.block 3 (C.ops [MV 37 0,MV 38 9,MV 39 0,MV 40 9,
 BC 41 .sub 40 (i6 1),MV 42 0,MV 43 9,BC 44 .sub 43 (i6 1),O2 45 (.idxA 6) 42 44,O1 46 (.load (some 6)) 45,MV 47 0,MV 48 9,O2 49 (.idxA 6) 47 48,O1 50 (.load (some 6)) 49,
 O2 51 (.idxA 6) 37 38,ST 6 51 46,O2 52 (.idxA 6) 39 41,ST 6 52 50])).seq (C.ops [MV 35 9,BC 36 .sub 35 (i6 1),MV 9 36]))).loop))).seq (C.ops [MV 15 8,BC 16 .add 15 (i6 1),MV
 8
 16]))).loop))
theorem qpA:qM Tryz.prog 147 53 0 [] qqo:=fi Tryz.f147 [] qeR [] (by kernel_rfl) (by kernel_rfl) (by kernel_rfl) (by kernel_rfl)
end
section
open Go Go.Proofs AF HY LN
namespace RC
set_option maxHeartbeats 8000000
def qbk (a b:Int):Int:=if a<b then-1 else if b<a then 1 else 0
def qqx (a b:En):Int:=if qbk a.frm b.frm≠0 then qbk a.frm b.frm else qbk a.to b.to
theorem qy9 (a:Int) (h:List AObj):qm Tryz.prog 86 [.int .i64 a] h (.bool false) h:=by
 have k:(a=a)=True:=eq_true rfl
 refine acO qxL ?_
 simp (disch:=omega) only [qyV,List.replicate,k,go_sem]
 repeat' first
  |((first|apply qc|apply qb);exact rvk;simp only [go_sem];first|exact VLe.refl _|apply qd|apply qa|apply qe|skip)
  |with_reducible first|refine And.intro ?_ ?_|intro _
 all_goals try exact clz
theorem qxb (a b:Int) (h:List AObj):qm Tryz.prog 122 [.int .i64 a,.int .i64 b] h (.int .i64 (qbk a b)) h:=by
 have c1:=fun h=>qy9 a h
 have c2:=fun h=>qy9 b h
 unfold qbk
 by_cases g1:a<b
 ·have k1:(a<b)=True:=eq_true g1
  rw [if_pos g1]
  refine acO qjO ?_
  simp (disch:=omega) only [qmH,List.replicate,k1,go_sem]
  repeat' first
   |((first|refine cA (c1 _) ?_ ?_|refine cG (fun e=>c1 _) ?_ ?_|refine cA (c2 _) ?_ ?_|refine cG (fun e=>c2 _) ?_ ?_|refine cU (fun _=>c1 _) ?_ ?_|refine cU (fun _=>c2 _) ?_ ?_);(next=>exact flk);simp (disch:=omega) only [k1,go_sem])
   |((first|apply qc|apply qb);exact rvk;simp only [go_sem];first|exact VLe.refl _|apply qd|apply qa|apply qe|skip)
   |with_reducible first|refine And.intro ?_ ?_|intro _
  all_goals try exact clz
 have k1:(a<b)=False:=eq_false g1
 rw [if_neg g1]
 by_cases g2:b<a
 ·have k2:(b<a)=True:=eq_true g2
  rw [if_pos g2]
  refine acO qjO ?_
  simp (disch:=omega) only [qmH,List.replicate,k1,k2,go_sem]
  repeat' first
   |((first|refine cA (c1 _) ?_ ?_|refine cG (fun e=>c1 _) ?_ ?_|refine cA (c2 _) ?_ ?_|refine cG (fun e=>c2 _) ?_ ?_|refine cU (fun _=>c1 _) ?_ ?_|refine cU (fun _=>c2 _) ?_ ?_);(next=>exact flk);simp (disch:=omega) only [k1,k2,go_sem])
   |((first|apply qc|apply qb);exact rvk;simp only [go_sem];first|exact VLe.refl _|apply qd|apply qa|apply qe|skip)
   |with_reducible first|refine And.intro ?_ ?_|intro _
  all_goals try exact clz
 ·have k2:(b<a)=False:=eq_false g2
  rw [if_neg g2]
  refine acO qjO ?_
  simp (disch:=omega) only [qmH,List.replicate,k1,k2,go_sem]
  repeat' first
   |((first|refine cA (c1 _) ?_ ?_|refine cG (fun e=>c1 _) ?_ ?_|refine cA (c2 _) ?_ ?_|refine cG (fun e=>c2 _) ?_ ?_|refine cU (fun _=>c1 _) ?_ ?_|refine cU (fun _=>c2 _) ?_ ?_);(next=>exact flk);simp (disch:=omega) only [k1,k2,go_sem])
   |((first|apply qc|apply qb);exact rvk;simp only [go_sem];first|exact VLe.refl _|apply qd|apply qa|apply qe|skip)
   |with_reducible first|refine And.intro ?_ ?_|intro _
  all_goals try exact clz
theorem orP (l:List Int) (h:List AObj) (hl:l.length≤1000000000):qm Tryz.prog 121 [ql l] h (.int .i64 (kQ (fun i=>l.getD i 0) 0 l.length)) h:=by
 obtain ⟨R,hR⟩: ∃R,R=kQ (fun i=>l.getD i 0) 0 l.length:=⟨_,rfl⟩
 rw [←hR]
 refine acO qur ?_
 simp (disch:=omega) only [qtq,List.replicate,ql,go_sem]
 repeat' first
  |((first|apply qc|apply qb);exact rvk;simp only [go_sem];first|exact VLe.refl _|apply qd|apply qa|apply qe|skip)
  |with_reducible first|refine And.intro ?_ ?_|intro _
 all_goals try exact clz
 refine qo (T:=fun i:Nat=>qI 18 [(3,.int .i64 0),(6,ql l),(7,.int .i64 l.length),(8,.int .i64 i)]) (H:=fun _=>h) (inv:=fun i=>i≤l.length∧ ∀j,j<i→l.getD j 0=0) (m:=fun i=>l.length-i) 0 ⟨Nat.zero_le _,fun j hj=>by omega⟩ (Wk.temps ?_) ?_
 ·(simp only [ql,List.replicate,go_sem,qj,qh,qg,qi];try (repeat' first|(with_reducible refine And.intro ?_ ?_)|(apply qd;omega)|(apply qa;rfl)|exact VLe.refl _))
 rintro i ⟨i1,i2⟩ K hK
 by_cases hi:i<l.length
 ·have k1:((i:Int)<l.length)=True:=eq_true (by omega)
  have hE:=qU (f:=fun i=>l.getD i 0) hi i2
  rw [←hR]at hE
  obtain ⟨v,hv⟩: ∃v,v=l.getD i 0:=⟨_,rfl⟩
  have ev:=hv.symm
  simp only [ev]at hE
  by_cases g:v=0
  ·have k2:(v=0)=True:=eq_true g
   simp (disch:=omega) only [List.replicate,ql,k1,ev,go_sem]
   repeat' first
    |((first|apply qc|apply qb);exact rvk;simp only [go_sem];first|exact VLe.refl _|apply qd|apply qa|apply qe|skip)
    |with_reducible first|refine And.intro ?_ ?_|intro _
   all_goals try exact clz
   refine hK _ _ (i+1) ⟨hi,fun j hj=> ?_⟩ (by omega) (Wk.temps ?_)
   ·by_cases e:j=i
    ·subst e;rw [ev];exact g
    ·exact i2 j (by omega)
   ·(simp only [ql,List.replicate,go_sem,qj,qh,qg,qi];try (repeat' first|(with_reducible refine And.intro ?_ ?_)|(apply qd;omega)|(apply qa;rfl)|exact VLe.refl _))
  ·have k2:(v=0)=False:=eq_false g
   rw [hE g]
   simp (disch:=omega) only [List.replicate,ql,k1,ev,go_sem]
   repeat' first
    |((first|apply qc|apply qb);exact rvk;simp only [go_sem];first|exact VLe.refl _|apply qd|apply qa|apply qe|skip)
    |with_reducible first|refine And.intro ?_ ?_|intro _
   all_goals try exact clz
 ·have k1:((i:Int)<l.length)=False:=eq_false (by omega)
  rw [show R=0 by rw [hR];exact qE (fun j hj=>i2 j (by omega))]
  simp (disch:=omega) only [List.replicate,ql,k1,go_sem]
  repeat' first
   |((first|apply qc|apply qb);exact rvk;simp only [go_sem];first|exact VLe.refl _|apply qd|apply qa|apply qe|skip)
   |with_reducible first|refine And.intro ?_ ?_|intro _
  all_goals try exact clz
theorem qz3 (k v:Nat) (ty:TypeId) (L:List Int) (h:List AObj) (n:Nat) (hn0:n=L.length) (hk:qA k h=some (.mem v ty (qn L))) (hn:L.length≤1000000000):qm Tryz.prog 121 [.osl k v 1 0 n] h (.int .i64 (kQ (fun i=>L.getD i 0) 0 L.length)) h:=by
 subst hn0
 refine qm.borrow ?_ rfl
 have e:([AV.osl k v 1 0 L.length]).map (rei (fun _=>true) h 8)= [AV.sl L.length (fun i=>(((qn L).drop i).take 1).map (rei (fun _=>true) h 7))]:=by
  simp only [List.map_cons,List.map_nil,rei_osl,if_true,hk,slOf_mem,qt,Nat.zero_add,Nat.mul_one,Nat.le_refl,and_self]
 rw [e]
 exact (orP L [] hn).le (qp2 (zr _ (fun n=>rfl) rfl) ke.nil) (VLe.refl _)
theorem qxa (a b:En) (h:List AObj):qm Tryz.prog 80 [.agg (enC a),.agg (enC b)] h (.int .i64 (qqx a b)) h:=by
 have c1:=fun h=>qxb a.frm b.frm h
 have c2:=fun h=>qxb a.to b.to h
 have e:qqx a b=kQ (fun i=> [qbk a.frm b.frm,qbk a.to b.to].getD i 0) 0 [qbk a.frm b.frm,qbk a.to b.to].length:=by
  unfold qqx
  simp only [List.length_cons,List.length_nil,kQ,List.getD_cons_zero,List.getD_cons_succ]
  split
  ·rfl
  ·split
   ·rfl
   ·rename_i g;exact Classical.not_not.1 g
 rw [e]
 obtain ⟨x,hx⟩: ∃x,x=qbk a.frm b.frm:=⟨_,rfl⟩
 obtain ⟨y,hy⟩: ∃y,y=qbk a.to b.to:=⟨_,rfl⟩
 rw [←hx,←hy]
 rw [←hx]at c1
 rw [←hy]at c2
 refine acO qxJ ?_
 simp (disch:=omega) only [qyT,List.replicate,enC,go_sem]
 repeat' first
  |((first|refine cA (c1 _) ?_ ?_|refine cG (fun e=>c1 _) ?_ ?_|refine cA (c2 _) ?_ ?_|refine cG (fun e=>c2 _) ?_ ?_|refine cU (fun _=>c1 _) ?_ ?_|refine cU (fun _=>c2 _) ?_ ?_);(next=>exact flk);simp (disch:=omega) only [enC,go_sem])
  |((first|apply qc|apply qb);exact rvk;simp only [go_sem];first|exact VLe.refl _|apply qd|apply qa|apply qe|skip)
  |with_reducible first|refine And.intro ?_ ?_|intro _
 all_goals try exact clz
 have eC:AV.int .i64 x::AV.int .i64 y::List.drop 1 (List.drop 1 (za [i6 0] 2))=qn [x,y]:=rfl
 rw [eC]
 have c3:=qz3 (h.length+2) 1 3 [x,y] (h++ [.mem 1 49 (enC a),.mem 1 49 (enC b),.mem 1 3 (qn [x,y])]) 2 rfl (by rw [getO_app];rfl) (by simp)
 unfold enC at c3
 repeat' first
  |((first|refine cA (c3) ?_ ?_|refine cG (fun e=>c3) ?_ ?_);(next=>exact flk);simp (disch:=omega) only [go_sem])
  |((first|apply qc|apply qb);exact rvk;simp only [go_sem];first|exact VLe.refl _|apply qd|apply qa|apply qe|skip)
  |with_reducible first|refine And.intro ?_ ?_|intro _
 all_goals try exact clz
end RC
end
section
namespace RC
variable {α : Type}
def qaG (lt:α→α→Bool) (x:α):List α→List α
 | []=> [x]
 |y::r=>if lt x y=true then y::qaG lt x r else x::y::r
def qbr (lt:α→α→Bool):List α→List α→List α
 |acc,[]=>acc
 |acc,x::r=>qbr lt (qaG lt x acc) r
def qs7 (lt:α→α→Bool):Prop:= ∀a b c,lt a b=false→lt b c=false→lt a c=false
def Asy (lt:α→α→Bool):Prop:= ∀a b,lt a b=true→lt b a=false
def qsV (lt:α→α→Bool) (l:List α):Prop:=l.Pairwise fun a b=>lt a b=false
theorem qnG {lt:α→α→Bool} {x:α}: ∀ {l:List α} {z:α},z∈qaG lt x l↔z=x∨z∈l:=by
 intro l
 induction l with
 |nil=>intro z;simp [qaG]
 |cons y r ih=>
  intro z
  unfold qaG
  split
  ·simp only [List.mem_cons,ih]
   constructor
   ·rintro (h|h|h)
    ·exact .inr (.inl h)
    ·exact .inl h
    ·exact .inr (.inr h)
   ·rintro (h|h|h)
    ·exact .inr (.inl h)
    ·exact .inl h
    ·exact .inr (.inr h)
  ·simp
theorem qbW {lt:α→α→Bool} (hn:qs7 lt) (ha:Asy lt) {x:α}: ∀ {l:List α},qsV lt l→qsV lt (qaG lt x l):=by
 intro l
 induction l with
 |nil=>intro _;exact List.pairwise_singleton _ _
 |cons y r ih=>
  intro h
  obtain ⟨h1,h2⟩:=List.pairwise_cons.1 h
  unfold qaG
  by_cases g:lt x y=true
  ·rw [if_pos g]
   refine List.pairwise_cons.2 ⟨fun z hz=> ?_,ih h2⟩
   rcases qnG.1 hz with rfl|hz
   ·exact ha _ _ g
   ·exact h1 z hz
  ·rw [if_neg g]
   have g:lt x y=false:=by simpa using g
   refine List.pairwise_cons.2 ⟨fun z hz=> ?_,h⟩
   rcases List.mem_cons.1 hz with rfl|hz
   ·exact g
   ·exact hn _ _ _ g (h1 z hz)
theorem qj3 {lt:α→α→Bool} {x:α} {l:List α} (h: ∀z∈l,lt x z=false):qaG lt x l=x::l:=by
 cases l with
 |nil=>rfl
 |cons y r=>
  unfold qaG
  rw [if_neg (by rw [h y (by simp)];simp)]
theorem qeN {lt:α→α→Bool} (hn:qs7 lt) (p:α→Bool) (x:α): ∀ {l:List α},qsV lt l→(qaG lt x l).filter p=if p x=true then qaG lt x (l.filter p) else l.filter p:=by
 intro l
 induction l with
 |nil=>intro _;unfold qaG;by_cases h:p x=true<;>simp [h,qaG]
 |cons y r ih=>
  intro h
  obtain ⟨h1,h2⟩:=List.pairwise_cons.1 h
  by_cases g:lt x y=true
  ·have e:qaG lt x (y::r)=y::qaG lt x r:=by rw [qaG,if_pos g]
   rw [e,List.filter_cons,List.filter_cons,ih h2]
   by_cases hy:p y=true
   ·rw [if_pos hy,if_pos hy]
    by_cases hx:p x=true
    ·rw [if_pos hx,if_pos hx,qaG,if_pos g]
    ·rw [if_neg hx,if_neg hx]
   ·rw [if_neg hy,if_neg hy]
  ·have e:qaG lt x (y::r)=x::y::r:=by rw [qaG,if_neg g]
   have g:lt x y=false:=by simpa using g
   rw [e]
   by_cases hx:p x=true
   ·rw [if_pos hx,List.filter_cons,if_pos hx,qj3]
    intro z hz
    rcases List.mem_cons.1 (List.mem_filter.1 hz).1 with rfl|hz
    ·exact g
    ·exact hn _ _ _ g (h1 z hz)
   ·rw [if_neg hx,List.filter_cons,if_neg hx]
theorem qdN {lt:α→α→Bool} (hn:qs7 lt) (ha:Asy lt) (p:α→Bool): ∀(l acc:List α),qsV lt acc→(qbr lt acc l).filter p=qbr lt (acc.filter p) (l.filter p):=by
 intro l
 induction l with
 |nil=>intro acc _;rfl
 |cons x r ih=>
  intro acc h
  rw [qbr,ih _ (qbW hn ha h),qeN hn p x h,List.filter_cons]
  by_cases hx:p x=true
  ·rw [if_pos hx,if_pos hx,qbr]
  ·rw [if_neg hx,if_neg hx]
theorem qei {lt:α→α→Bool} (hn:qs7 lt) (ha:Asy lt): ∀(l acc:List α),qsV lt acc→qsV lt (qbr lt acc l):=by
 intro l
 induction l with
 |nil=>intro acc h;exact h
 |cons x r ih=>intro acc h;exact ih _ (qbW hn ha h)
end RC
end
section
namespace RC
variable {α : Type}
theorem qnF {lt:α→α→Bool} {x:α}: ∀ {P Q:List α},(∀z∈P,lt x z=true)→qaG lt x (P++Q)=P++qaG lt x Q:=by
 intro P
 induction P with
 |nil=>intro Q _;rfl
 |cons y r ih=>
  intro Q h
  rw [List.cons_append,qaG,if_pos (h y (by simp)),ih (fun z hz=>h z (by simp [hz])),List.cons_append]
theorem qvr {lt:α→α→Bool} {x d:α} {M:List α} {k:Nat} (hk:k≤M.length) (h1: ∀j,k≤j→j<M.length→lt x (M.getD j d)=true) (h2:k=0∨lt x (M.getD (k-1) d)=false):
  (qaG lt x M.reverse).reverse=M.take k++x::M.drop k:=by
 have e:M.reverse=(M.drop k).reverse++(M.take k).reverse:=by rw [←List.reverse_append,List.take_append_drop]
 rw [e,qnF,List.reverse_append,List.reverse_reverse]
 ·have e2:qaG lt x (M.take k).reverse=x::(M.take k).reverse:=by
   rcases h2 with rfl|h2
   ·rfl
   ·by_cases k0:k=0
    ·subst k0;rfl
    ·have hl:k-1<M.length:=by omega
     have e3:M.take k=M.take (k-1)++ [M.getD (k-1) d]:=by
      have:=List.take_succ_eq_append_getElem hl
      rw [show k-1+1=k by omega]at this
      rw [this,gdqA,q9 hl]
      rfl
     rw [e3,List.reverse_append,List.reverse_singleton,List.singleton_append,qaG,if_neg (by rw [h2];simp)]
  rw [e2]
  simp
 ·intro z hz
  rw [List.mem_reverse]at hz
  obtain ⟨j,hj,rfl⟩:=List.getElem_of_mem hz
  rw [List.length_drop]at hj
  have:=h1 (k+j) (by omega) (by omega)
  rw [gdqA,q9 (by omega)]at this
  rw [List.getElem_drop]
  exact this
end RC
end
section
open Go Go.Proofs AF HY LN
namespace RC
set_option maxHeartbeats 8000000
theorem qlu {α:Type} (lt:α→α→Bool): ∀(a b acc:List α),qbr lt acc (a++b)=qbr lt (qbr lt acc a) b:=by
 intro a
 induction a with
 |nil=>intro b acc;rfl
 |cons x r ih=>intro b acc;exact ih b _
end RC
end
section
open Go Go.Proofs AF HY LN
namespace RC
set_option maxHeartbeats 8000000
end RC
end
section
open Go Go.Proofs AF HY LN
namespace RC
set_option maxHeartbeats 4000000
theorem kA {a b:En}:qce a b=true↔a.frm<b.frm∨a.frm=b.frm∧a.to<b.to:=by
 unfold qce
 simp [Bool.or_eq_true,Bool.and_eq_true]
theorem qaI {a b:En}:qce a b=false↔b.frm<a.frm∨a.frm=b.frm∧b.to≤a.to:=by
 have:= @kA a b
 cases h:qce a b with
 |true=>rw [h]at this;simp only [true_iff]at this;simp only [Bool.true_eq_false,false_iff];omega
 |false=>rw [h]at this;simp only [Bool.false_eq_true,false_iff]at this;simp only [true_iff];omega
theorem qfJ:qs7 qce:=by
 intro a b c h1 h2
 rw [qaI]at*
 omega
theorem qfI:Asy qce:=by
 intro a b h
 rw [kA]at h
 rw [qaI]
 omega
def ja (l:List En):List En:=(qbr qce [] l).reverse
def qa8 (names:List Str) (gs:List Gr) (src:Int) (e:En):Bool:=decide (0≤vIx names gs e src)
def ofE (names:List Str) (gs:List Gr) (l:List En) (src:Int):List En:=(ja l).filter (qa8 names gs src)
theorem qj4 {α:Type} {lt:α→α→Bool} {x:α}: ∀l:List α,(qaG lt x l).Perm (x::l):=by
 intro l
 induction l with
 |nil=>exact List.Perm.refl _
 |cons y r ih=>
  unfold qaG
  split
  ·exact (List.Perm.cons y ih).trans (List.Perm.swap x y r)
  ·exact List.Perm.refl _
theorem qcI {α:Type} {lt:α→α→Bool}: ∀l acc:List α,(qbr lt acc l).Perm (acc++l):=by
 intro l
 induction l with
 |nil=>intro acc;rw [List.append_nil];exact List.Perm.refl _
 |cons x r ih=>
  intro acc
  refine (ih _).trans ((List.Perm.append_right r (qj4 acc)).trans ?_)
  exact (List.perm_middle (a:=x) (l₁:=acc) (l₂:=r)).symm
theorem jP (l:List En):(ja l).Perm l:=(List.reverse_perm _).trans (by simpa using qcI (lt:=qce) l [])
theorem kG (l:List En):(ja l).length=l.length:=(jP l).length_eq
theorem qfg (l:List En):(ja l).Pairwise fun a b=>qce b a=false:=by
 unfold ja
 rw [List.pairwise_reverse]
 exact qei qfJ qfI l [] List.Pairwise.nil
def j7 (a b:En):Bool:=decide (b.frm<a.to)||decide (a.frm=b.frm)&&decide (a.to=b.to)
def jS:List En→Bool
 |a::b::r=>j7 a b||jS (b::r)
 |_=>false
theorem qdG (L:List En):jS L=true↔ ∃i,i+1<L.length∧j7 (L.getD i default) (L.getD (i+1) default)=true:=by
 induction L with
 |nil=>simp [jS]
 |cons a L ih=>
  cases L with
  |nil=>simp [jS]
  |cons b r=>
   rw [jS,Bool.or_eq_true,ih]
   constructor
   ·rintro (h|⟨i,h1,h2⟩)
    ·exact ⟨0,by simp,h⟩
    ·exact ⟨i+1,by simpa using h1,h2⟩
   ·rintro ⟨i,h1,h2⟩
    cases i with
    |zero=>exact .inl h2
    |succ i=>exact .inr ⟨i,by simpa using h1,h2⟩
def ky (names:List Str) (gs:List Gr) (l:List En):Bool:=jp (fun s=>jS (ofE names gs l (s:Int))) names.length
def rdE (names:List Str) (gs:List Gr) (t:List Str) (l:List En):Int:=
 if sgE names gs≠0 then 1 else if 4096<l.length then 4 else
  if kQ (fun i=>qcr names gs t (l.getD i default)) 0 l.length≠0 then kQ (fun i=>qcr names gs t (l.getD i default)) 0 l.length else
   if ky names gs l=true then 17 else 0
def qh0 (names:List Str) (gs:List Gr) (e:En) (src:Int):List Str:=(e.vars.getD (vIx names gs e src).toNat default).words
def qoW (names:List Str) (gs:List Gr) (t:List Str) (src:Int):List En→Nat→List Str
 | [],k=>t.drop k
 |e::r,k=>j6 t k e.frm.toNat++(qh0 names gs e src++qoW names gs t src r e.to.toNat)
def qss (names:List Str) (gs:List Gr) (t:List Str) (l:List En) (src:Int):List Str:=qoW names gs t src (ofE names gs l src) 0
end RC
end
section
open Go Go.Proofs AF HY LN
namespace RC
set_option maxHeartbeats 4000000
def zA (L:List En):List AV:=L.flatMap enC
theorem qaL (e:En):(enC e).length=6:=rfl
theorem zV (L:List En):(zA L).length=L.length*6:=by
 unfold zA
 induction L with
 |nil=>rfl
 |cons a L ih=>rw [List.flatMap_cons,List.length_append,ih,List.length_cons,qaL];omega
theorem ju (A B:List En):zA (A++B)=zA A++zA B:=by simp [zA]
theorem qm6 (a:En):zA [a]=enC a:=by simp [zA]
theorem qjv (L:List En): ∀i,(zA L).take (i*6)=zA (L.take i):=by
 induction L with
 |nil=>intro i;simp [zA]
 |cons a L ih=>
  intro i
  cases i with
  |zero=>simp [zA]
  |succ i=>
   have e:zA (a::L)=enC a++zA L:=rfl
   rw [List.take_succ_cons,e,List.take_append,qaL,show (i+1)*6-6=i*6 by omega,ih]
   rw [List.take_of_length_le (by rw [qaL];omega)]
   rfl
theorem qdM (L:List En): ∀i,(zA L).drop (i*6)=zA (L.drop i):=by
 induction L with
 |nil=>intro i;simp [zA]
 |cons a L ih=>
  intro i
  cases i with
  |zero=>simp
  |succ i=>
   have e:zA (a::L)=enC a++zA L:=rfl
   rw [List.drop_succ_cons,e,List.drop_append,qaL,show (i+1)*6-6=i*6 by omega,ih]
   rw [List.drop_eq_nil_of_le (by rw [qaL];omega)]
   rfl
theorem qbx {L:List En} {i:Nat} (hi:i<L.length):((zA L).drop (i*6)).take 6=enC (L.getD i default):=by
 rw [qdM,List.drop_eq_getElem_cons hi,gdqA,q9 hi]
 rfl
theorem qfP {L:List En} {i:Nat} (e:En) (hi:i<L.length):(zA L).take (i*6)++enC e++(zA L).drop (i*6+6)=zA (L.set i e):=by
 rw [List.set_eq_take_append_cons_drop,if_pos hi,show i*6+6=(i+1)*6 by omega,qjv,qdM,ju]
 rw [show e::List.drop (i+1) L= [e]++List.drop (i+1) L from rfl,ju,qm6,List.append_assoc]
theorem qnm (L:List En):((List.range L.length).flatMap fun i=>enC (L.getD i default))=zA L:=by
 unfold zA
 have e:L=(List.range L.length).map fun i=>L.getD i default:=by
  apply List.ext_getElem (by simp)
  intro i h1 h2
  simp [gdqA,h1]
 conv=>rhs;rw [e]
 rw [List.flatMap_map]
theorem qly (h:List AObj) (L:List En):qr h (qz L)=some (L.length,zA L):=by
 show some (L.length,_)=_
 rw [qnm]
theorem qby (L:List En) (n:Nat): ∀c∈zA L,zE n c=true:=by
 intro c hc
 unfold zA at hc
 obtain ⟨x,_,hx⟩:=List.mem_flatMap.1 hc
 unfold enC at hx
 simp only [List.mem_cons,List.not_mem_nil,or_false]at hx
 rcases hx with rfl|rfl|rfl|rfl|rfl|rfl<;>rfl
def jV (M:List En) (x:En) (j:Nat) (r:List En):List En:=M.take j++x::(M.drop j++r)
theorem qj2 {M:List En} {x:En} {j:Nat} {r:List En} (hj:j≤M.length):(jV M x j r).length=M.length+1+r.length:=by
 unfold jV;simp;omega
theorem qrt {M:List En} {x:En} {j:Nat} {r:List En} (hj:j≤M.length):(jV M x j r).getD j default=x:=by
 unfold jV
 have l1:(M.take j).length=j:=by rw [List.length_take];omega
 rw [gdqA,List.getElem?_append_right (by omega),l1,Nat.sub_self]
 rfl
theorem qru {M:List En} {x:En} {j:Nat} {r:List En} (hj:j+1≤M.length):(jV M x (j+1) r).getD j default=M.getD j default:=by
 unfold jV
 have l1:(M.take (j+1)).length=j+1:=by rw [List.length_take];omega
 rw [gdqA,List.getElem?_append_left (by omega),List.getElem?_take,if_pos (by omega),←gdqA]
theorem qg1 {M:List En} {x:En} {j:Nat} {r:List En} (hj:j+1≤M.length):((jV M x (j+1) r).set (j+1) (M.getD j default)).set j x=jV M x j r:=by
 have l1:(M.take (j+1)).length=j+1:=by rw [List.length_take];omega
 have l2:(M.take j).length=j:=by rw [List.length_take];omega
 have hl:j<M.length:=by omega
 have hY:M.getD j default=M[j]:=by rw [gdqA,q9 hl];rfl
 unfold jV
 rw [List.set_append_right _ _ (by omega),l1,Nat.sub_self,List.set_cons_zero,hY,List.take_succ_eq_append_getElem hl,List.append_assoc,List.set_append_right _ _ (by omega),l2,Nat.sub_self,List.singleton_append,List.set_cons_zero,List.drop_eq_getElem_cons hl]
 rfl
def qf8 (l:List En) (i:Nat):List En:=(qbr qce [] (l.take i)).reverse
theorem qc9 {l:List En} {i:Nat} (hi:i≤l.length):(qf8 l i).length=i:=by
 unfold qf8
 rw [List.length_reverse,(qcI (lt:=qce) (l.take i) []).length_eq,List.nil_append,List.length_take]
 omega
theorem qkZ {l:List En} {i:Nat} (hi:i<l.length):qf8 l (i+1)=(qaG qce (l.getD i default) (qf8 l i).reverse).reverse:=by
 unfold qf8
 rw [List.take_succ_eq_append_getElem hi,qlu,List.reverse_reverse,gdqA,q9 hi]
 rfl
theorem qod (l:List En):qf8 l l.length=ja l:=by unfold qf8 ja;rw [List.take_length]
def qnH (l:List En) (i:Nat):List En:=qf8 l i++l.drop i
theorem qrv {l:List En} {i:Nat} (hi:i<l.length):qnH l i=jV (qf8 l i) (l.getD i default) i (l.drop (i+1)):=by
 unfold qnH jV
 have h1:=qc9 (l:=l) (i:=i) (by omega)
 have h2:List.drop i (qf8 l i)= []:=List.drop_eq_nil_of_le (by omega)
 rw [List.take_of_length_le (by omega),h2,List.nil_append,List.drop_eq_getElem_cons hi,gdqA,q9 hi]
 rfl
theorem qnI {l:List En} {i j:Nat} (hi:i<l.length) (hj:j≤i) (h1: ∀k,j≤k→k<i→qce (l.getD i default) ((qf8 l i).getD k default)=true) (h2:j=0∨qce (l.getD i default) ((qf8 l i).getD (j-1) default)=false):
  jV (qf8 l i) (l.getD i default) j (l.drop (i+1))=qnH l (i+1):=by
 have hl:=qc9 (l:=l) (i:=i) (by omega)
 unfold qnH
 rw [qkZ hi,qvr (d:=default) (k:=j) (by omega) (fun k hk hk2=>h1 k hk (by omega)) h2]
 unfold jV
 simp
theorem qnJ {l:List En} (h:0<l.length):qnH l 1=l:=by
 cases l with
 |nil=>simp at h
 |cons a l=>rfl
theorem qjm (a b:En):qqx a b<0↔qce a b=true:=by
 rw [kA]
 unfold qqx qbk
 by_cases h1:a.frm<b.frm
 ·simp [h1]
 ·by_cases h2:b.frm<a.frm
  ·simp [h1,h2];omega
  ·by_cases h3:a.to<b.to
   ·simp [h1,h2,h3];omega
   ·by_cases h4:b.to<a.to
    ·simp [h1,h2,h3,h4]
    ·simp [h1,h2,h3,h4]
end RC
end
