import Derived.Test.YthlgfjbghnildaaGreatDoorK9
set_option linter.all false
set_option linter.unusedSimpArgs false
set_option linter.unusedVariables false
set_option linter.unusedSectionVars false
set_option maxRecDepth 100000
section
open Go Go.Proofs AF HY LN
namespace RC
set_option maxHeartbeats 8000000
theorem _root_.AF.Wk.kill3 {t:List AV} {h l:List AObj} {a b c:AObj} {v:Nat} {ty:TypeId} {cs:List AV}:Wk t (h++a::b::c:: .mem v ty cs::l) t (h++a::b::c:: .emp (v+1)::l):=by
 have:=Wk.kill0 (t:=t) (h:=h++ [a,b,c]) (l:=l) (v:=v) (ty:=ty) (cs:=cs)
 simpa using this
theorem qzq (names:List Str) (gs:List Gr) (t:List Str) (e:En) (h:List AObj) (hz:Szs names gs) (ht:TSz t) (he:ESz e) (hp:kh SG h):
  qm Tryz.prog 78 [strs names,qt gs,strs t,.agg (enC e)] h (.int .i64 (kj names gs t e)) h:=by
 have c59:=fun h=>sgP names gs h hz
 have cw:=fun l=>qzg t (h++l) ht.n ht.s (hp.app l)
 have t1:=ht.n
 obtain ⟨R,hR⟩: ∃R,R=kj names gs t e:=⟨_,rfl⟩
 rw [←hR]
 unfold kj at hR
 obtain ⟨s,hs⟩: ∃s,s=sgE names gs:=⟨_,rfl⟩
 rw [←hs]at c59 hR
 obtain ⟨w,hw⟩: ∃w,w=jz t:=⟨_,rfl⟩
 rw [←hw]at cw hR
 by_cases g0:s≠0
 ·have k0:(s=0)=False:=eq_false g0
  rw [if_pos g0]at hR
  rw [hR]
  refine acO qbn ?_
  simp (disch:=omega) only [qgt,List.replicate,enC,go_sem]
  repeat' first
   |((first|refine cA (c59 _) ?_ ?_|refine cG (fun e=>c59 _) ?_ ?_|refine cU (fun _=>c59 _) ?_ ?_);(next=>exact flk);simp (disch:=omega) only [k0,go_sem])
   |((first|apply qc|apply qb);exact rvk;simp only [go_sem];first|exact VLe.refl _|apply qd|apply qa|apply qe|skip)
   |with_reducible first|refine And.intro ?_ ?_|intro _
  all_goals try exact clz
 have g0:s=0:=Classical.not_not.1 g0
 have k0:(s=0)=True:=eq_true g0
 rw [if_neg (fun hc=>hc g0)]at hR
 by_cases g1:4096<t.length
 ·have k1:((4096:Int)<t.length)=True:=eq_true (by omega)
  rw [if_pos g1]at hR
  rw [hR]
  refine acO qbn ?_
  simp (disch:=omega) only [qgt,List.replicate,enC,strs,go_sem]
  unfold strs at c59
  repeat' first
   |((first|refine cA (c59 _) ?_ ?_|refine cG (fun e=>c59 _) ?_ ?_|refine cU (fun _=>c59 _) ?_ ?_);(next=>exact flk);simp (disch:=omega) only [k0,k1,strs,go_sem])
   |((first|apply qc|apply qb);exact rvk;simp only [go_sem];first|exact VLe.refl _|apply qd|apply qa|apply qe|skip)
   |with_reducible first|refine And.intro ?_ ?_|intro _
  all_goals try exact clz
 have k1:((4096:Int)<t.length)=False:=eq_false (by omega)
 rw [if_neg g1]at hR
 unfold strs at c59 cw
 by_cases g2:w≠0
 ·have k2:(w=0)=False:=eq_false g2
  rw [if_pos g2]at hR
  rw [hR]
  refine acO qbn ?_
  simp (disch:=omega) only [qgt,List.replicate,enC,strs,go_sem]
  repeat' first
   |((first|refine cA (c59 _) ?_ ?_|refine cG (fun e=>c59 _) ?_ ?_|refine cA (cw _) ?_ ?_|refine cG (fun e=>cw _) ?_ ?_|refine cU (fun _=>c59 _) ?_ ?_|refine cU (fun _=>cw _) ?_ ?_);(next=>exact flk);simp (disch:=omega) only [k0,k1,k2,strs,go_sem])
   |((first|apply qc|apply qb);exact rvk;simp only [go_sem];first|exact VLe.refl _|apply qd|apply qa|apply qe|skip)
   |with_reducible first|refine And.intro ?_ ?_|intro _
  all_goals try exact clz
 have g2:w=0:=Classical.not_not.1 g2
 have k2:(w=0)=True:=eq_true g2
 rw [if_neg (fun hc=>hc g2)]at hR
 by_cases g3:qhZ t e
 ·rw [if_pos g3]at hR
  rw [hR]
  by_cases a1:e.layer<0
  ·have q1:(e.layer<0)=True:=eq_true a1
   refine acO qbn ?_
   simp (disch:=omega) only [qgt,List.replicate,enC,strs,go_sem]
   repeat' first
    |((first|refine cA (c59 _) ?_ ?_|refine cG (fun e=>c59 _) ?_ ?_|refine cA (cw _) ?_ ?_|refine cG (fun e=>cw _) ?_ ?_|refine cU (fun _=>c59 _) ?_ ?_|refine cU (fun _=>cw _) ?_ ?_);(next=>exact flk);simp (disch:=omega) only [k0,k1,k2,strs,q1,go_sem])
    |((first|apply qc|apply qb);exact rvk;simp only [go_sem];first|exact VLe.refl _|apply qd|apply qa|apply qe|skip)
    |with_reducible first|refine And.intro ?_ ?_|intro _
   all_goals try exact clz
  have q1:(e.layer<0)=False:=eq_false a1
  by_cases a2:16≤e.layer
  ·have q2:(16≤e.layer)=True:=eq_true a2
   refine acO qbn ?_
   simp (disch:=omega) only [qgt,List.replicate,enC,strs,go_sem]
   repeat' first
    |((first|refine cA (c59 _) ?_ ?_|refine cG (fun e=>c59 _) ?_ ?_|refine cA (cw _) ?_ ?_|refine cG (fun e=>cw _) ?_ ?_|refine cU (fun _=>c59 _) ?_ ?_|refine cU (fun _=>cw _) ?_ ?_);(next=>exact flk);simp (disch:=omega) only [k0,k1,k2,strs,q1,q2,go_sem])
    |((first|apply qc|apply qb);exact rvk;simp only [go_sem];first|exact VLe.refl _|apply qd|apply qa|apply qe|skip)
    |with_reducible first|refine And.intro ?_ ?_|intro _
   all_goals try exact clz
  have q2:(16≤e.layer)=False:=eq_false a2
  by_cases a3:e.frm<0
  ·have q3:(e.frm<0)=True:=eq_true a3
   refine acO qbn ?_
   simp (disch:=omega) only [qgt,List.replicate,enC,strs,go_sem]
   repeat' first
    |((first|refine cA (c59 _) ?_ ?_|refine cG (fun e=>c59 _) ?_ ?_|refine cA (cw _) ?_ ?_|refine cG (fun e=>cw _) ?_ ?_|refine cU (fun _=>c59 _) ?_ ?_|refine cU (fun _=>cw _) ?_ ?_);(next=>exact flk);simp (disch:=omega) only [k0,k1,k2,strs,q1,q2,q3,go_sem])
    |((first|apply qc|apply qb);exact rvk;simp only [go_sem];first|exact VLe.refl _|apply qd|apply qa|apply qe|skip)
    |with_reducible first|refine And.intro ?_ ?_|intro _
   all_goals try exact clz
  have q3:(e.frm<0)=False:=eq_false a3
  by_cases a4:e.to<e.frm
  ·have q4:(e.to<e.frm)=True:=eq_true a4
   refine acO qbn ?_
   simp (disch:=omega) only [qgt,List.replicate,enC,strs,go_sem]
   repeat' first
    |((first|refine cA (c59 _) ?_ ?_|refine cG (fun e=>c59 _) ?_ ?_|refine cA (cw _) ?_ ?_|refine cG (fun e=>cw _) ?_ ?_|refine cU (fun _=>c59 _) ?_ ?_|refine cU (fun _=>cw _) ?_ ?_);(next=>exact flk);simp (disch:=omega) only [k0,k1,k2,strs,q1,q2,q3,q4,go_sem])
    |((first|apply qc|apply qb);exact rvk;simp only [go_sem];first|exact VLe.refl _|apply qd|apply qa|apply qe|skip)
    |with_reducible first|refine And.intro ?_ ?_|intro _
   all_goals try exact clz
  have q4:(e.to<e.frm)=False:=eq_false a4
  have q5:((t.length:Int)<e.to)=True:=eq_true (by unfold qhZ at g3;omega)
  refine acO qbn ?_
  simp (disch:=omega) only [qgt,List.replicate,enC,strs,go_sem]
  repeat' first
   |((first|refine cA (c59 _) ?_ ?_|refine cG (fun e=>c59 _) ?_ ?_|refine cA (cw _) ?_ ?_|refine cG (fun e=>cw _) ?_ ?_|refine cU (fun _=>c59 _) ?_ ?_|refine cU (fun _=>cw _) ?_ ?_);(next=>exact flk);simp (disch:=omega) only [k0,k1,k2,strs,q1,q2,q3,q4,q5,go_sem])
   |((first|apply qc|apply qb);exact rvk;simp only [go_sem];first|exact VLe.refl _|apply qd|apply qa|apply qe|skip)
   |with_reducible first|refine And.intro ?_ ?_|intro _
  all_goals try exact clz
 rw [if_neg g3]at hR
 unfold qhZ at g3
 have q1:(e.layer<0)=False:=eq_false (by omega)
 have q2:(16≤e.layer)=False:=eq_false (by omega)
 have q3:(e.frm<0)=False:=eq_false (by omega)
 have q4:(e.to<e.frm)=False:=eq_false (by omega)
 have q5:((t.length:Int)<e.to)=False:=eq_false (by omega)
 by_cases g4:0<e.sup.length∧e.pos=false
 ·have q6:((0:Int)<e.sup.length)=True:=eq_true (by omega)
  have q7:=g4.2
  rw [if_pos g4]at hR
  rw [hR]
  refine acO qbn ?_
  simp (disch:=omega) only [qgt,List.replicate,enC,strs,q7,go_sem]
  repeat' first
   |((first|refine cA (c59 _) ?_ ?_|refine cG (fun e=>c59 _) ?_ ?_|refine cA (cw _) ?_ ?_|refine cG (fun e=>cw _) ?_ ?_|refine cU (fun _=>c59 _) ?_ ?_|refine cU (fun _=>cw _) ?_ ?_);(next=>exact flk);simp (disch:=omega) only [k0,k1,k2,strs,q1,q2,q3,q4,q5,q6,q7,go_sem])
   |((first|apply qc|apply qb);exact rvk;simp only [go_sem];first|exact VLe.refl _|apply qd|apply qa|apply qe|skip)
   |with_reducible first|refine And.intro ?_ ?_|intro _
  all_goals try exact clz
 rw [if_neg g4]at hR
 by_cases g5:e.vars.length=0
 ·have q8:((e.vars.length:Int)=0)=True:=eq_true (by omega)
  rw [if_pos g5]at hR
  rw [hR]
  by_cases g6:0<e.sup.length
  ·have q6:((0:Int)<e.sup.length)=True:=eq_true (by omega)
   have q7:e.pos=true:=by
    cases hq:e.pos with
    |true=>rfl
    |false=>exact absurd ⟨g6,hq⟩ g4
   refine acO qbn ?_
   simp (disch:=omega) only [qgt,List.replicate,enC,strs,qB,q7,go_sem]
   repeat' first
    |((first|refine cA (c59 _) ?_ ?_|refine cG (fun e=>c59 _) ?_ ?_|refine cA (cw _) ?_ ?_|refine cG (fun e=>cw _) ?_ ?_|refine cU (fun _=>c59 _) ?_ ?_|refine cU (fun _=>cw _) ?_ ?_);(next=>exact flk);simp (disch:=omega) only [k0,k1,k2,strs,qB,q1,q2,q3,q4,q5,q6,q7,q8,go_sem])
    |((first|apply qc|apply qb);exact rvk;simp only [go_sem];first|exact VLe.refl _|apply qd|apply qa|apply qe|skip)
    |with_reducible first|refine And.intro ?_ ?_|intro _
   all_goals try exact clz
  ·have q6:((0:Int)<e.sup.length)=False:=eq_false (by omega)
   refine acO qbn ?_
   simp (disch:=omega) only [qgt,List.replicate,enC,strs,qB,go_sem]
   repeat' first
    |((first|refine cA (c59 _) ?_ ?_|refine cG (fun e=>c59 _) ?_ ?_|refine cA (cw _) ?_ ?_|refine cG (fun e=>cw _) ?_ ?_|refine cU (fun _=>c59 _) ?_ ?_|refine cU (fun _=>cw _) ?_ ?_);(next=>exact flk);simp (disch:=omega) only [k0,k1,k2,strs,qB,q1,q2,q3,q4,q5,q6,q8,go_sem])
    |((first|apply qc|apply qb);exact rvk;simp only [go_sem];first|exact VLe.refl _|apply qd|apply qa|apply qe|skip)
    |with_reducible first|refine And.intro ?_ ?_|intro _
   all_goals try exact clz
 have q8:((e.vars.length:Int)=0)=False:=eq_false (by omega)
 rw [if_neg g5]at hR
 obtain ⟨C0,hC0⟩: ∃C0:List AV,C0= [.int .i64 e.layer,.int .i64 e.frm,.int .i64 e.to,.bool e.pos,strs e.sup,qB e.vars]:=⟨_,rfl⟩
 obtain ⟨fr,hfr⟩: ∃fr:Nat,e.frm=fr:=⟨e.frm.toNat,by omega⟩
 obtain ⟨tt,htt⟩: ∃tt:Nat,e.to=tt:=⟨e.to.toNat,by omega⟩
 obtain ⟨E1,hE1⟩: ∃E1:AObj,E1= .mem 1 49 [.int .i64 e.layer,.int .i64 e.frm,.int .i64 e.to,.bool e.pos,strs e.sup,qB e.vars]:=⟨_,rfl⟩
 refine acO qbn ?_
 simp (disch:=omega) only [qgt,List.replicate,enC,strs,qB,go_sem]
 repeat' first
  |((first|refine cA (c59 _) ?_ ?_|refine cG (fun e=>c59 _) ?_ ?_|refine cA (cw _) ?_ ?_|refine cG (fun e=>cw _) ?_ ?_|refine cU (fun _=>c59 _) ?_ ?_|refine cU (fun _=>cw _) ?_ ?_);(next=>exact flk);simp (disch:=omega) only [k0,k1,k2,strs,qB,q1,q2,q3,q4,q5,q8,go_sem])
  |((first|apply qc|apply qb);exact rvk;simp only [go_sem];first|exact VLe.refl _|apply qd|apply qa|apply qe|skip)
  |with_reducible first|refine And.intro ?_ ?_|intro _
 all_goals try exact clz
 ·rename_i hx;exact absurd ⟨by omega,hx.2⟩ g4
 refine qn (T:=fun i:Nat×Nat=>qI 134 [(0,strs names),(1,qt gs),(2,strs t),(7,.op h.length 1 0),(73,qB e.vars),(74,.int .i64 e.vars.length),(75,.int .i64 i.1)])
  (H:=fun i=>h++ [.mem 1 49 [.int .i64 e.layer,.int .i64 e.frm,.int .i64 e.to,.bool e.pos,strs e.sup,qB e.vars],.emp i.2,.emp 0,.emp 0])
  (inv:=fun i=>i.1≤e.vars.length∧ ∀j,j<i.1→qbs t e j=0) (m:=fun i=>e.vars.length-i.1) (0,0) ⟨Nat.zero_le _,fun j hj=>absurd hj (Nat.not_lt_zero j)⟩ (Wk.temps ?_) ?_
 ·(simp only [strs,qB,List.replicate,go_sem,qj,qh,qg,qi];try (repeat' first|(with_reducible refine And.intro ?_ ?_)|(apply qd;omega)|(apply qa;rfl)|exact VLe.refl _))
 rintro ⟨i,v⟩ ⟨i1,i2⟩ K hK
 simp only at i1 i2 hK
 have z2:=he.vs
 by_cases hi:i<e.vars.length
 ·have r1:((i:Int)<e.vars.length)=True:=eq_true (by omega)
  have r2:((i:Int)≤e.vars.length)=True:=eq_true (by omega)
  have r3:(0≤(fr:Int))=True:=eq_true (by omega)
  have r4:((fr:Int)≤tt)=True:=eq_true (by omega)
  have r5:((tt:Int)≤t.length)=True:=eq_true (by omega)
  have hE:=qP (f:=qbs t e) hi i2
  have hv:qbs t e i=if jz (e.vars.getD i default).words≠0 then 11 else if (e.vars.getD i default).words=jB t e.frm.toNat e.to.toNat then 9 else
   if jb (fun j=>decide ((e.vars.getD i default).words=(e.vars.getD j default).words)) i=true then 7 else if (e.vars.getD i default).sigla.length=0 then 5 else 0:=rfl
  have zw:=he.w i
  have zs:=he.sg i
  have zv:=fun j=>(he.w j).n
  obtain ⟨x,hx⟩: ∃x,x=e.vars.getD i default:=⟨_,rfl⟩
  have ex:=hx.symm
  simp only [ex]at hv zw zs
  rw [hfr,htt,Int.toNat_natCast,Int.toNat_natCast]at hv
  have zn:=zw.n
  have c116:=fun l=>qzg x.words (h++l) zw.n zw.s (hp.app l)
  have c117:=fun h=>qvF x.words (tt-fr) (fun j=>t.getD (fr+j) []) h zw.n (by omega)
  rw [qf7 (by omega) (by omega)]at c117
  have c118:=qzo i e.vars x.words (h.length+1) (v+1) (strs x.sigla) (h++ [.mem 1 49 [.int .i64 e.layer,.int .i64 e.frm,.int .i64 e.to,.bool e.pos,strs e.sup,qB e.vars],.mem (v+1) 51 [strs x.words,strs x.sigla],.emp 0,.emp 0]) (by rw [getO_app];rfl) (by omega) z2 zw.n zv
  obtain ⟨u,hu⟩: ∃u,u=jz x.words:=⟨_,rfl⟩
  rw [←hu]at c116 hv
  unfold strs qB at c118
  unfold strs at c116 c117
  by_cases a1:u≠0
  ·have p1:(u=0)=False:=eq_false a1
   rw [if_pos a1]at hv
   have hE:=hE (by rw [hv];decide)
   rw [hE,hv,if_pos (by decide)]at hR
   rw [hR]
   simp (disch:=omega) only [List.replicate,strs,qB,vaC,r1,r2,ex,go_sem]
   repeat' first
    |((first|refine cA (c116 _) ?_ ?_|refine cG (fun e=>c116 _) ?_ ?_|refine cU (fun _=>c116 _) ?_ ?_);(next=>exact flk);simp (disch:=omega) only [strs,qB,vaC,r1,r2,ex,p1,go_sem])
    |((first|apply qc|apply qb);exact rvk;simp only [go_sem];first|exact VLe.refl _|apply qd|apply qa|apply qe|skip)
    |with_reducible first|refine And.intro ?_ ?_|intro _
   all_goals try exact clz
  have a1:u=0:=Classical.not_not.1 a1
  have p1:(u=0)=True:=eq_true a1
  rw [if_neg (fun hc=>hc a1)]at hv
  by_cases a2:x.words=jB t fr tt
  ·rw [decide_eq_true a2]at c117
   rw [if_pos a2]at hv
   have hE:=hE (by rw [hv];decide)
   rw [hE,hv,if_pos (by decide)]at hR
   rw [hR]
   simp (disch:=omega) only [List.replicate,strs,qB,vaC,r1,r2,ex,go_sem]
   repeat' first
    |((first|refine cA (c116 _) ?_ ?_|refine cG (fun e=>c116 _) ?_ ?_|refine cA (c117 _) ?_ ?_|refine cG (fun e=>c117 _) ?_ ?_|refine cU (fun _=>c116 _) ?_ ?_|refine cU (fun _=>c117 _) ?_ ?_);(next=>exact flk);simp (disch:=omega) only [strs,qB,vaC,r1,r2,ex,p1,hfr,htt,r3,r4,r5,go_sem])
    |((first|apply qc|apply qb);exact rvk;simp only [go_sem];first|exact VLe.refl _|apply qd|apply qa|apply qe|skip)
    |with_reducible first|refine And.intro ?_ ?_|intro _
   all_goals try exact clz
  rw [decide_eq_false a2]at c117
  rw [if_neg a2]at hv
  cases a3:jb (fun j=>decide (x.words=(e.vars.getD j default).words)) i with
  |true=>
   rw [a3]at c118
   rw [if_pos a3]at hv
   have hE:=hE (by rw [hv];decide)
   rw [hE,hv,if_pos (by decide)]at hR
   rw [hR]
   simp only [hfr,htt]at c118
   simp (disch:=omega) only [List.replicate,strs,qB,vaC,r1,r2,ex,hfr,htt,go_sem]
   repeat' first
    |((first|refine cA (c116 _) ?_ ?_|refine cG (fun e=>c116 _) ?_ ?_|refine cA (c117 _) ?_ ?_|refine cG (fun e=>c117 _) ?_ ?_|refine cA (c118) ?_ ?_|refine cG (fun e=>c118) ?_ ?_|refine cU (fun _=>c116 _) ?_ ?_|refine cU (fun _=>c117 _) ?_ ?_);(next=>exact flk);simp (disch:=omega) only [strs,qB,vaC,r1,r2,ex,p1,hfr,htt,r3,r4,r5,Nat.sub_zero,Nat.zero_add,go_sem])
    |((first|apply qc|apply qb);exact rvk;simp only [go_sem];first|exact VLe.refl _|apply qd|apply qa|apply qe|skip)
    |with_reducible first|refine And.intro ?_ ?_|intro _
   all_goals try exact clz
  |false=>
  rw [a3]at c118
  rw [if_neg (by rw [a3];simp)]at hv
  simp only [hfr,htt]at c118
  by_cases a4:x.sigla.length=0
  ·have p4:((x.sigla.length:Int)=0)=True:=eq_true (by omega)
   rw [if_pos a4]at hv
   have hE:=hE (by rw [hv];decide)
   rw [hE,hv,if_pos (by decide)]at hR
   rw [hR]
   simp (disch:=omega) only [List.replicate,strs,qB,vaC,r1,r2,ex,hfr,htt,go_sem]
   repeat' first
    |((first|refine cA (c116 _) ?_ ?_|refine cG (fun e=>c116 _) ?_ ?_|refine cA (c117 _) ?_ ?_|refine cG (fun e=>c117 _) ?_ ?_|refine cA (c118) ?_ ?_|refine cG (fun e=>c118) ?_ ?_|refine cU (fun _=>c116 _) ?_ ?_|refine cU (fun _=>c117 _) ?_ ?_);(next=>exact flk);simp (disch:=omega) only [strs,qB,vaC,r1,r2,ex,p1,p4,hfr,htt,r3,r4,r5,Nat.sub_zero,Nat.zero_add,go_sem])
    |((first|apply qc|apply qb);exact rvk;simp only [go_sem];first|exact VLe.refl _|apply qd|apply qa|apply qe|skip)
    |with_reducible first|refine And.intro ?_ ?_|intro _
   all_goals try exact clz
  ·have p4:((x.sigla.length:Int)=0)=False:=eq_false (by omega)
   rw [if_neg a4]at hv
   simp (disch:=omega) only [List.replicate,strs,qB,vaC,r1,r2,ex,hfr,htt,go_sem]
   repeat' first
    |((first|refine cA (c116 _) ?_ ?_|refine cG (fun e=>c116 _) ?_ ?_|refine cA (c117 _) ?_ ?_|refine cG (fun e=>c117 _) ?_ ?_|refine cA (c118) ?_ ?_|refine cG (fun e=>c118) ?_ ?_|refine cU (fun _=>c116 _) ?_ ?_|refine cU (fun _=>c117 _) ?_ ?_);(next=>exact flk);simp (disch:=omega) only [strs,qB,vaC,r1,r2,ex,p1,p4,hfr,htt,r3,r4,r5,Nat.sub_zero,Nat.zero_add,go_sem])
    |((first|apply qc|apply qb);exact rvk;simp only [go_sem];first|exact VLe.refl _|apply qd|apply qa|apply qe|skip)
    |with_reducible first|refine And.intro ?_ ?_|intro _
   all_goals try exact clz
   simp only [hfr,htt]at hK
   refine hK _ _ (i+1,v+1+1) ⟨hi,fun j hj=> ?_⟩ (by simp only;omega) (Wk.trans Wk.kill1 (Wk.temps ?_))
   ·by_cases e':j=i
    ·subst e';exact hv
    ·exact i2 j (by simp only at hj;omega)
   ·(simp only [strs,qB,List.replicate,go_sem,qj,qh,qg,qi];try (repeat' first|(with_reducible refine And.intro ?_ ?_)|(apply qd;omega)|(apply qa;rfl)|exact VLe.refl _))
 have r1:((i:Int)<e.vars.length)=False:=eq_false (by omega)
 rw [if_neg (fun hc=>hc (qA (f:=qbs t e) (fun j hj=>i2 j (by omega))))]at hR
 simp (disch:=omega) only [List.replicate,strs,qB,r1,go_sem]
 repeat' first
  |((first|apply qc|apply qb);exact rvk;simp only [go_sem];first|exact VLe.refl _|apply qd|apply qa|apply qe|skip)
  |with_reducible first|refine And.intro ?_ ?_|intro _
 all_goals try exact clz
 refine cE (qxa names gs e.sup (List.replicate 32 0) (h.length+2) 1 117 _ hz he.sup (by rw [getO_app];rfl) (by simp) 0 (by decide) (fun i=>by
  rw [gdqA,List.getElem?_replicate]
  split<;>simp)) (by exact flk) ?_
 have c0:qbL (List.replicate 32 0) (zz names gs e.sup)=cnt names gs e 0:=rfl
 rw [c0]
 obtain ⟨y,hy⟩: ∃y,y=jo names gs e.sup:=⟨_,rfl⟩
 rw [←hy]at hR ⊢
 by_cases b1:y≠0
 ·have p1:(y=0)=False:=eq_false b1
  rw [if_pos b1]at hR
  rw [hR]
  simp (disch:=omega) only [List.replicate,strs,qB,p1,go_sem]
  repeat' first
   |((first|apply qc|apply qb);exact rvk;simp only [go_sem];first|exact VLe.refl _|apply qd|apply qa|apply qe|skip)
   |with_reducible first|refine And.intro ?_ ?_|intro _
  all_goals try exact clz
 have b1:y=0:=Classical.not_not.1 b1
 have p1:(y=0)=True:=eq_true b1
 rw [if_neg (fun hc=>hc b1)]at hR
 simp (disch:=omega) only [List.replicate,strs,qB,p1,go_sem]
 repeat' first
  |((first|apply qc|apply qb);exact rvk;simp only [go_sem];first|exact VLe.refl _|apply qd|apply qa|apply qe|skip)
  |with_reducible first|refine And.intro ?_ ?_|intro _
 all_goals try exact clz
 refine qn (T:=fun i:Nat×Nat=>qI 134 [(0,strs names),(1,qt gs),(11,.op (h.length+2) 1 0),(117,qB e.vars),(118,.int .i64 e.vars.length),(119,.int .i64 i.1)])
  (H:=fun i=>h++ [.mem 1 49 [.int .i64 e.layer,.int .i64 e.frm,.int .i64 e.to,.bool e.pos,strs e.sup,qB e.vars],.emp v,.mem 1 117 (qs (cnt names gs e i.1)),.emp i.2])
  (inv:=fun i=>i.1≤e.vars.length∧ ∀j,j<i.1→jo names gs (e.vars.getD j default).sigla=0) (m:=fun i=>e.vars.length-i.1) (0,0) ⟨Nat.zero_le _,fun j hj=>absurd hj (Nat.not_lt_zero j)⟩ (Wk.temps ?_) ?_
 ·(simp only [strs,qB,List.replicate,go_sem,qj,qh,qg,qi];try (repeat' first|(with_reducible refine And.intro ?_ ?_)|(apply qd;omega)|(apply qa;rfl)|exact VLe.refl _))
 clear hK
 rintro ⟨n,w'⟩ ⟨n1,n2⟩ K hK
 simp only at n1 n2 hK
 by_cases hn:n<e.vars.length
 ·have r2:((n:Int)<e.vars.length)=True:=eq_true (by omega)
  have hE:=qP (f:=fun i=>jo names gs (e.vars.getD i default).sigla) hn n2
  have zs:=he.sg n
  have hcs:cnt names gs e (n+1)=qbL (cnt names gs e n) (zz names gs (e.vars.getD n default).sigla):=rfl
  have hbn:=qjm names gs e n
  have hln:=qcK names gs e n
  obtain ⟨D,hD⟩: ∃D,D=cnt names gs e n:=⟨_,rfl⟩
  have eD:=hD.symm
  rw [eD]at hcs hbn hln
  obtain ⟨x,hx⟩: ∃x,x=e.vars.getD n default:=⟨_,rfl⟩
  have ex:=hx.symm
  simp only [ex]at hE hcs zs
  simp (disch:=omega) only [List.replicate,strs,qB,vaC,r2,ex,eD,go_sem]
  repeat' first
   |((first|apply qc|apply qb);exact rvk;simp only [go_sem];first|exact VLe.refl _|apply qd|apply qa|apply qe|skip)
   |with_reducible first|refine And.intro ?_ ?_|intro _
  all_goals try exact clz
  refine cE (qxa names gs x.sigla D (h.length+2) 1 117 _ hz zs (by rw [getO_app];rfl) hln (64*((n:Int)+1)) (by omega) hbn) (by exact flk) ?_
  rw [←hcs]
  obtain ⟨q,hq⟩: ∃q,q=jo names gs x.sigla:=⟨_,rfl⟩
  rw [←hq]at hE ⊢
  by_cases b2:q≠0
  ·have p2:(q=0)=False:=eq_false b2
   rw [hE b2,if_pos b2]at hR
   rw [hR]
   simp (disch:=omega) only [List.replicate,strs,qB,p2,go_sem]
   repeat' first
    |((first|apply qc|apply qb);exact rvk;simp only [go_sem];first|exact VLe.refl _|apply qd|apply qa|apply qe|skip)
    |with_reducible first|refine And.intro ?_ ?_|intro _
   all_goals try exact clz
  ·have b2:q=0:=Classical.not_not.1 b2
   have p2:(q=0)=True:=eq_true b2
   simp (disch:=omega) only [List.replicate,strs,qB,p2,go_sem]
   repeat' first
    |((first|apply qc|apply qb);exact rvk;simp only [go_sem];first|exact VLe.refl _|apply qd|apply qa|apply qe|skip)
    |with_reducible first|refine And.intro ?_ ?_|intro _
   all_goals try exact clz
   refine hK _ _ (n+1,w'+1+1) ⟨hn,fun j hj=> ?_⟩ (by simp only;omega) (Wk.trans (Wk.kill3 ) (Wk.temps ?_))
   ·by_cases e':j=n
    ·subst e';rw [ex,←hq,b2]
    ·exact n2 j (by simp only at hj;omega)
   ·(simp only [strs,qB,List.replicate,go_sem,qj,qh,qg,qi];try (repeat' first|(with_reducible refine And.intro ?_ ?_)|(apply qd;omega)|(apply qa;rfl)|exact VLe.refl _))
 ·have r2:((n:Int)<e.vars.length)=False:=eq_false (by omega)
  have e':n=e.vars.length:=by omega
  subst e'
  rw [if_neg (fun hc=>hc (qA (f:=fun i=>jo names gs (e.vars.getD i default).sigla) (fun j hj=>n2 j hj)))]at hR
  have hln:=qcK names gs e e.vars.length
  unfold qhG at hR
  rw [hln]at hR
  have c94:=fun h=>twP (cnt names gs e e.vars.length) h hln
  rw [hln]at c94
  obtain ⟨D,hD⟩: ∃D,D=cnt names gs e e.vars.length:=⟨_,rfl⟩
  have eD:=hD.symm
  simp only [eD]at hR hln c94
  have fT:List.take 32 (qs D)=List.map (fun n=>AV.int .i64 n) D:=List.take_of_length_le (by rw [qF];omega)
  have fL:=qF D
  rw [hln]at fL
  cases b3:jb (fun i=>decide (1<D.getD i 0)) 32 with
  |true=>
   rw [b3]at c94 hR
   rw [if_pos rfl]at hR
   rw [hR]
   simp (disch:=omega) only [List.replicate,strs,qB,r2,eD,fT,fL,go_sem]
   repeat' first
    |((first|refine cA (c94 _) ?_ ?_|refine cG (fun e=>c94 _) ?_ ?_|refine cU (fun _=>c94 _) ?_ ?_);(next=>exact flk);simp (disch:=omega) only [strs,qB,r2,eD,fT,fL,go_sem])
    |((first|apply qc|apply qb);exact rvk;simp only [go_sem];first|exact VLe.refl _|apply qd|apply qa|apply qe|skip)
    |with_reducible first|refine And.intro ?_ ?_|intro _
   all_goals try exact clz
  |false=>
   rw [b3]at c94 hR
   rw [if_neg (by simp)]at hR
   rw [hR]
   simp (disch:=omega) only [List.replicate,strs,qB,r2,eD,fT,fL,go_sem]
   repeat' first
    |((first|refine cA (c94 _) ?_ ?_|refine cG (fun e=>c94 _) ?_ ?_|refine cU (fun _=>c94 _) ?_ ?_);(next=>exact flk);simp (disch:=omega) only [strs,qB,r2,eD,fT,fL,go_sem])
    |((first|apply qc|apply qb);exact rvk;simp only [go_sem];first|exact VLe.refl _|apply qd|apply qa|apply qe|skip)
    |with_reducible first|refine And.intro ?_ ?_|intro _
   all_goals try exact clz
end RC
end
section
open Go Go.Proofs AF HY LN
namespace RC
def tC (gs:List Gr) (i:Nat):List AV:=(List.range i).map fun j=> .str (gs.getD j default).name
theorem qsg (gs:List Gr) (i:Nat):tC gs (i+1)=tC gs i++ [.str (gs.getD i default).name]:=by unfold tC;rw [List.range_succ,List.map_append];rfl
theorem qpV (gs:List Gr) (i:Nat):(tC gs i).length=i:=by simp [tC]
theorem qx9 {gs:List Gr} {n j:Nat} (h:j<n):((tC gs n).drop j).take 1= [.str (gs.getD j default).name]:=by
 rw [List.drop_eq_getElem_cons (by rw [qpV];exact h),List.take_succ_cons,List.take_zero]
 simp [tC]
set_option maxHeartbeats 2000000 in
theorem qzd (n:Nat) (gs:List Gr) (h:List AObj) (hn:n≤1000000000):qm Tryz.prog 55 [.sl n fun j=>grC (gs.getD j default)] h (.sl n fun j=> [.str (gs.getD j default).name]) h:=by
 refine acO qxw ?_
 simp (disch:=omega) only [qyF,List.replicate,go_sem]
 repeat' first
  |((first|apply qc|apply qb);exact rvk;simp only [go_sem];first|exact VLe.refl _|apply qd|apply qa|apply qe|skip)
  |with_reducible first|refine And.intro ?_ ?_|intro _
 all_goals try exact clz
 have eM:zk [AV.str []] 0=tC gs 0:=rfl
 rw [eM]
 refine qn (T:=fun i:Nat×Nat×Nat=>qI 21 [(0,.sl n fun j=>grC (gs.getD j default)),(3,.osl (h.length+1) i.2.1 1 0 i.1),(4,.int .i64 i.1)]) (H:=fun i=>h++ [.emp 1,AObj.mem i.2.1 9 (tC gs i.1),.emp i.2.2,.emp 0])
  (inv:=fun i=>i.1≤n) (m:=fun i=>n-i.1) (0,1,0) (Nat.zero_le _) (Wk.temps ?_) ?_
 ·(simp only [tC,List.range_zero,List.map_nil,List.replicate,go_sem,qj,qh,qg,qi];try (repeat' first|(with_reducible refine And.intro ?_ ?_)|(apply qd;omega)|(apply qa;rfl)|exact VLe.refl _))
 rintro ⟨i,v,w⟩ i1 K hK
 simp only at i1 hK
 have hst:=qsg gs i
 have hln:=qpV gs i
 obtain ⟨L,hL⟩: ∃L,L=tC gs i:=⟨_,rfl⟩
 rw [←hL]at hst hln
 have eL:=hL.symm
 by_cases hi:i<n
 ·have k1:((i:Int)<n)=True:=eq_true (by omega)
  obtain ⟨g,hg⟩: ∃g,g=gs.getD i default:=⟨_,rfl⟩
  have eg:=hg.symm
  rw [eg]at hst
  have eT:List.take i L=L:=List.take_of_length_le (by omega)
  simp (disch:=omega) only [List.replicate,grC,k1,eL,eg,Nat.mul_one,go_sem]
  repeat' first
   |((first|apply qc|apply qb);exact rvk;simp only [go_sem];first|exact VLe.refl _|apply qd|apply qa|apply qe|skip)
   |with_reducible first|refine And.intro ?_ ?_|intro _
  all_goals try exact clz
  rw [eT,←hst]
  refine hK _ _ (i+1,v+1,w+1+1) hi (by simp only;omega) (Wk.trans Wk.kill2 ?_)
  refine Wk.temps ?_
  (simp only [List.length_append,List.replicate,go_sem,qj,qh,qg,qi];try (repeat' first|(with_reducible refine And.intro ?_ ?_)|(apply qd;omega)|(apply qa;rfl)|exact VLe.refl _))
 ·have k1:((i:Int)<n)=False:=eq_false (by omega)
  obtain rfl:i=n:=by omega
  simp (disch:=omega) only [List.replicate,k1,eL,go_sem]
  repeat' first
   |((first|apply qc|apply qb);exact rvk;simp only [go_sem];first|exact VLe.refl _|apply qd|apply qa|apply qe|skip)
   |with_reducible first|refine And.intro ?_ ?_|intro _
  all_goals try exact clz
  rw [if_pos (by omega)]
  refine VLe.sl_eq rfl (fun j hj=> ?_)
  rw [hL,qx9 hj]
  rfl
theorem qfP (p:Nat→Bool) (n:Nat):(jb p n=true∧ ∃k:Int,0≤k∧qbo p n 0=k)∨(jb p n=false∧qbo p n 0= -1):=by
 rcases jH p n with ⟨i,h1,h2,_,h4⟩|⟨h1,h2⟩
 ·exact .inl ⟨za.2 ⟨i,h1,h2⟩,_,by omega,h4⟩
 ·exact .inr ⟨qE.2 h1,h2⟩
set_option maxHeartbeats 4000000 in
theorem sgR (names:List Str) (gs:List Gr) (h:List AObj) (hz:Szs names gs):qm Tryz.prog 49 [strs names,qt gs] h (.int .i64 (sgE names gs)) h:=by
 obtain ⟨z1,z2,z3,z4,z5⟩:=hz
 obtain ⟨R,hR⟩: ∃R,R=sgE names gs:=⟨_,rfl⟩
 rw [←hR]
 unfold sgE at hR
 by_cases g0:32<names.length
 ·have k0:((32:Int)<names.length)=True:=eq_true (by omega)
  rw [if_pos g0]at hR
  rw [hR]
  refine acO quM ?_
  simp (disch:=omega) only [qwU,List.replicate,strs,qt,k0,go_sem]
  repeat' first
   |((first|apply qc|apply qb);exact rvk;simp only [go_sem];first|exact VLe.refl _|apply qd|apply qa|apply qe|skip)
   |with_reducible first|refine And.intro ?_ ?_|intro _
  all_goals try exact clz
 have k0:((32:Int)<names.length)=False:=eq_false (by omega)
 rw [if_neg g0]at hR
 refine acO quM ?_
 simp (disch:=omega) only [qwU,List.replicate,strs,qt,k0,go_sem]
 repeat' first
  |((first|apply qc|apply qb);exact rvk;simp only [go_sem];first|exact VLe.refl _|apply qd|apply qa|apply qe|skip)
  |with_reducible first|refine And.intro ?_ ?_|intro _
 all_goals try exact clz
 refine qn (T:=fun i:Nat=>qI 87 [(0,strs names),(1,qt gs),(5,.int .i64 i)]) (H:=fun _=>h) (inv:=fun i=>i≤names.length∧ ∀j,j<i→kf names j=0) (m:=fun i=>names.length-i) 0 ⟨Nat.zero_le _,fun j hj=>by omega⟩ (Wk.temps ?_) ?_
 ·(simp only [strs,qt,List.replicate,go_sem,qj,qh,qg,qi];try (repeat' first|(with_reducible refine And.intro ?_ ?_)|(apply qd;omega)|(apply qa;rfl)|exact VLe.refl _))
 rintro i ⟨i1,i2⟩ K hK
 by_cases hi:i<names.length
 ·have k1:((i:Int)<names.length)=True:=eq_true (by omega)
  have k2:((i:Int)≤names.length)=True:=eq_true (by omega)
  have hE:=qP (f:=kf names) hi i2
  have hs:kf names i=if qou (names.getD i [])=false then 14 else if jb (fun j=>decide (names.getD i []=names.getD j [])) i=true then 7 else 0:=rfl
  have c87:=fun h=>qx6 (names.getD i []) h (z3 i)
  have c88:=fun h=>qhb i (fun j=>names.getD j []) (names.getD i []) h (by omega)
  obtain ⟨s,hsx⟩: ∃s,s=names.getD i []:=⟨_,rfl⟩
  have es:=hsx.symm
  rw [es]at hs c87
  simp only [es]at hs c88
  cases g1:qou s with
  |false=>
   rw [g1]at c87
   rw [if_pos g1]at hs
   have hV:R=14:=by rw [hR,hE (by rw [hs];decide),hs];rfl
   rw [hV]
   simp (disch:=omega) only [List.replicate,strs,qt,k1,k2,es,go_sem]
   repeat' first
    |((first|refine cA (c87 _) ?_ ?_|refine cG (fun e=>c87 _) ?_ ?_|refine cU (fun _=>c87 _) ?_ ?_);(next=>exact flk);simp (disch:=omega) only [strs,qt,k1,k2,es,go_sem])
    |((first|apply qc|apply qb);exact rvk;simp only [go_sem];first|exact VLe.refl _|apply qd|apply qa|apply qe|skip)
    |with_reducible first|refine And.intro ?_ ?_|intro _
   all_goals try exact clz
  |true=>
  rw [g1]at c87
  rw [if_neg (by rw [g1];simp)]at hs
  rcases qfP (fun j=>decide (s=names.getD j [])) i with ⟨g2,n,hn0,g3⟩|⟨g2,g3⟩
  ·rw [g3]at c88
   rw [if_pos g2]at hs
   have k3:((0:Int)≤n)=True:=eq_true hn0
   have hV:R=7:=by rw [hR,hE (by rw [hs];decide),hs];rfl
   rw [hV]
   simp (disch:=omega) only [List.replicate,strs,qt,k1,k2,es,Nat.sub_zero,go_sem]
   repeat' first
    |((first|refine cA (c87 _) ?_ ?_|refine cG (fun e=>c87 _) ?_ ?_|refine cA (c88 _) ?_ ?_|refine cG (fun e=>c88 _) ?_ ?_|refine cU (fun _=>c87 _) ?_ ?_|refine cU (fun _=>c88 _) ?_ ?_);(next=>exact flk);simp (disch:=omega) only [strs,qt,k1,k2,es,Nat.sub_zero,k3,go_sem])
    |((first|apply qc|apply qb);exact rvk;simp only [go_sem];first|exact VLe.refl _|apply qd|apply qa|apply qe|skip)
    |with_reducible first|refine And.intro ?_ ?_|intro _
   all_goals try exact clz
  ·rw [g3]at c88
   rw [if_neg (by rw [g2];simp)]at hs
   simp (disch:=omega) only [List.replicate,strs,qt,k1,k2,es,Nat.sub_zero,go_sem]
   repeat' first
    |((first|refine cA (c87 _) ?_ ?_|refine cG (fun e=>c87 _) ?_ ?_|refine cA (c88 _) ?_ ?_|refine cG (fun e=>c88 _) ?_ ?_|refine cU (fun _=>c87 _) ?_ ?_|refine cU (fun _=>c88 _) ?_ ?_);(next=>exact flk);simp (disch:=omega) only [strs,qt,k1,k2,es,Nat.sub_zero,go_sem])
    |((first|apply qc|apply qb);exact rvk;simp only [go_sem];first|exact VLe.refl _|apply qd|apply qa|apply qe|skip)
    |with_reducible first|refine And.intro ?_ ?_|intro _
   all_goals try exact clz
   refine hK _ _ (i+1) ⟨hi,fun j hj=> ?_⟩ (by omega) (Wk.temps ?_)
   ·by_cases e:j=i
    ·subst e;exact hs
    ·exact i2 j (by omega)
   ·(simp only [strs,qt,List.replicate,go_sem,qj,qh,qg,qi];try (repeat' first|(with_reducible refine And.intro ?_ ?_)|(apply qd;omega)|(apply qa;rfl)|exact VLe.refl _))
 have k1:((i:Int)<names.length)=False:=eq_false (by omega)
 have hn0:=qA (f:=kf names) (fun j (hj:j<names.length)=>i2 j (by omega))
 rw [if_neg (fun hc=>hc hn0)]at hR
 by_cases g1:16<gs.length
 ·have k2:((16:Int)<gs.length)=True:=eq_true (by omega)
  rw [if_pos g1]at hR
  rw [hR]
  simp (disch:=omega) only [List.replicate,strs,qt,k1,k2,go_sem]
  repeat' first
   |((first|apply qc|apply qb);exact rvk;simp only [go_sem];first|exact VLe.refl _|apply qd|apply qa|apply qe|skip)
   |with_reducible first|refine And.intro ?_ ?_|intro _
  all_goals try exact clz
 have k2:((16:Int)<gs.length)=False:=eq_false (by omega)
 rw [if_neg g1]at hR
 simp (disch:=omega) only [List.replicate,strs,qt,k1,k2,go_sem]
 repeat' first
  |((first|apply qc|apply qb);exact rvk;simp only [go_sem];first|exact VLe.refl _|apply qd|apply qa|apply qe|skip)
  |with_reducible first|refine And.intro ?_ ?_|intro _
 all_goals try exact clz
 refine qn (T:=fun i:Nat=>qI 87 [(0,strs names),(1,qt gs),(6,.int .i64 i)]) (H:=fun i=>h) (inv:=fun i=>i≤gs.length∧ ∀j,j<i→qbS names gs j=0) (m:=fun i=>gs.length-i) 0 ⟨Nat.zero_le _,fun j hj=>absurd hj (Nat.not_lt_zero j)⟩ (Wk.temps ?_) ?_
 ·(simp only [strs,qt,List.replicate,go_sem,qj,qh,qg,qi];try (repeat' first|(with_reducible refine And.intro ?_ ?_)|(apply qd;omega)|(apply qa;rfl)|exact VLe.refl _))
 rintro i ⟨i1,i2⟩ K hK
 by_cases hi:i<gs.length
 ·have k3:((i:Int)<gs.length)=True:=eq_true (by omega)
  have k4:((i:Int)≤gs.length)=True:=eq_true (by omega)
  have hE:=qP (f:=qbS names gs) hi i2
  have hs:qbS names gs i=if jI (gs.getD i default).name=false then 14 else if jb (fun j=>decide ((gs.getD i default).name=names.getD j [])) names.length=true then 7 else
   if jb (fun j=>decide ((gs.getD i default).name=(gs.getD j default).name)) i=true then 7 else if (gs.getD i default).mem.length=0 then 5 else qad names.length (gs.getD i default).mem:=rfl
  have z4i:=z4 i
  have z5i:=z5 i
  obtain ⟨g,hg⟩: ∃g,g=gs.getD i default:=⟨_,rfl⟩
  have eg:=hg.symm
  simp only [eg]at hs z4i z5i
  have c89:=fun h=>t53 g.name h z4i
  have c88:=fun h=>qhb names.length (fun j=>names.getD j []) g.name h z1
  have c90:=fun h=>qzd i gs h (by omega)
  have c91:=fun h=>qhb i (fun j=>(gs.getD j default).name) g.name h (by omega)
  have c92:=fun h=>qzW g.mem names.length h z5i
  cases g2:jI g.name with
  |false=>
   rw [g2]at c89
   rw [if_pos g2]at hs
   have hV:R=14:=by rw [hR,hE (by rw [hs];decide),hs]
   rw [hV]
   simp (disch:=omega) only [List.replicate,strs,qt,grC,ql,k3,k4,eg,go_sem]
   repeat' first
    |((first|refine cA (c89 _) ?_ ?_|refine cG (fun e=>c89 _) ?_ ?_|refine cU (fun _=>c89 _) ?_ ?_);(next=>exact flk);simp (disch:=omega) only [strs,qt,grC,ql,k3,k4,eg,go_sem])
    |((first|apply qc|apply qb);exact rvk;simp only [go_sem];first|exact VLe.refl _|apply qd|apply qa|apply qe|skip)
    |with_reducible first|refine And.intro ?_ ?_|intro _
   all_goals try exact clz
  |true=>
  rw [g2]at c89
  rw [if_neg (by rw [g2];simp)]at hs
  rcases qfP (fun j=>decide (g.name=names.getD j [])) names.length with ⟨g3,n,hn0,g3'⟩|⟨g3,g3'⟩
  ·rw [g3']at c88
   rw [if_pos g3]at hs
   have k5:((0:Int)≤n)=True:=eq_true hn0
   have hV:R=7:=by rw [hR,hE (by rw [hs];decide),hs]
   rw [hV]
   simp (disch:=omega) only [List.replicate,strs,qt,grC,ql,k3,k4,eg,go_sem]
   repeat' first
    |(refine qo ( .nl) ?_;simp (disch:=omega) only [strs,qt,grC,ql,k3,k4,eg,k5,go_sem])
    |(refine qo ( .int .i64 0) ?_;simp (disch:=omega) only [strs,qt,grC,ql,k3,k4,eg,k5,go_sem])
    |((first|refine cA (c89 _) ?_ ?_|refine cG (fun e=>c89 _) ?_ ?_|refine cA (c88 _) ?_ ?_|refine cG (fun e=>c88 _) ?_ ?_|refine cU (fun _=>c89 _) ?_ ?_|refine cU (fun _=>c88 _) ?_ ?_);(next=>exact flk);simp (disch:=omega) only [strs,qt,grC,ql,k3,k4,eg,k5,go_sem])
    |((first|apply qc|apply qb);exact rvk;simp only [go_sem];first|exact VLe.refl _|apply qd|apply qa|apply qe|skip)
    |with_reducible first|refine And.intro ?_ ?_|intro _
   all_goals try exact clz
  rw [g3']at c88
  rw [if_neg (by rw [g3];simp)]at hs
  rcases qfP (fun j=>decide (g.name=(gs.getD j default).name)) i with ⟨g4,n,hn0,g4'⟩|⟨g4,g4'⟩
  ·rw [g4']at c91
   rw [if_pos g4]at hs
   have k5:((0:Int)≤n)=True:=eq_true hn0
   have hV:R=7:=by rw [hR,hE (by rw [hs];decide),hs]
   rw [hV]
   simp only [grC,ql]at c90
   simp (disch:=omega) only [List.replicate,strs,qt,grC,ql,k3,k4,eg,Nat.sub_zero,go_sem]
   repeat' first
    |((first|refine cA (c89 _) ?_ ?_|refine cG (fun e=>c89 _) ?_ ?_|refine cA (c88 _) ?_ ?_|refine cG (fun e=>c88 _) ?_ ?_|refine cA (c90 _) ?_ ?_|refine cG (fun e=>c90 _) ?_ ?_|refine cA (c91 _) ?_ ?_|refine cG (fun e=>c91 _) ?_ ?_|refine cU (fun _=>c89 _) ?_ ?_|refine cU (fun _=>c88 _) ?_ ?_|refine cU (fun _=>c90 _) ?_ ?_|refine cU (fun _=>c91 _) ?_ ?_);(next=>exact flk);simp (disch:=omega) only [strs,qt,grC,ql,k3,k4,eg,Nat.sub_zero,k5,go_sem])
    |((first|apply qc|apply qb);exact rvk;simp only [go_sem];first|exact VLe.refl _|apply qd|apply qa|apply qe|skip)
    |with_reducible first|refine And.intro ?_ ?_|intro _
   all_goals try exact clz
  rw [g4']at c91
  rw [if_neg (by rw [g4];simp)]at hs
  simp only [grC,ql]at c90
  by_cases g5:g.mem.length=0
  ·have k5:((g.mem.length:Int)=0)=True:=eq_true (by omega)
   rw [if_pos g5]at hs
   have hV:R=5:=by rw [hR,hE (by rw [hs];decide),hs]
   rw [hV]
   simp (disch:=omega) only [List.replicate,strs,qt,grC,ql,k3,k4,eg,Nat.sub_zero,go_sem]
   repeat' first
    |((first|refine cA (c89 _) ?_ ?_|refine cG (fun e=>c89 _) ?_ ?_|refine cA (c88 _) ?_ ?_|refine cG (fun e=>c88 _) ?_ ?_|refine cA (c90 _) ?_ ?_|refine cG (fun e=>c90 _) ?_ ?_|refine cA (c91 _) ?_ ?_|refine cG (fun e=>c91 _) ?_ ?_|refine cU (fun _=>c89 _) ?_ ?_|refine cU (fun _=>c88 _) ?_ ?_|refine cU (fun _=>c90 _) ?_ ?_|refine cU (fun _=>c91 _) ?_ ?_);(next=>exact flk);simp (disch:=omega) only [strs,qt,grC,ql,k3,k4,eg,Nat.sub_zero,k5,go_sem])
    |((first|apply qc|apply qb);exact rvk;simp only [go_sem];first|exact VLe.refl _|apply qd|apply qa|apply qe|skip)
    |with_reducible first|refine And.intro ?_ ?_|intro _
   all_goals try exact clz
  have k5:((g.mem.length:Int)=0)=False:=eq_false (by omega)
  rw [if_neg g5]at hs
  unfold ql at c92
  obtain ⟨e,he⟩: ∃e,e=qad names.length g.mem:=⟨_,rfl⟩
  rw [←he]at c92 hs
  by_cases g6:e=0
  ·have k6:(e=0)=True:=eq_true g6
   simp (disch:=omega) only [List.replicate,strs,qt,grC,ql,k3,k4,eg,Nat.sub_zero,go_sem]
   repeat' first
    |((first|refine cA (c89 _) ?_ ?_|refine cG (fun e=>c89 _) ?_ ?_|refine cA (c88 _) ?_ ?_|refine cG (fun e=>c88 _) ?_ ?_|refine cA (c90 _) ?_ ?_|refine cG (fun e=>c90 _) ?_ ?_|refine cA (c91 _) ?_ ?_|refine cG (fun e=>c91 _) ?_ ?_|refine cA (c92 _) ?_ ?_|refine cG (fun e=>c92 _) ?_ ?_|refine cU (fun _=>c89 _) ?_ ?_|refine cU (fun _=>c88 _) ?_ ?_|refine cU (fun _=>c90 _) ?_ ?_|refine cU (fun _=>c91 _) ?_ ?_|refine cU (fun _=>c92 _) ?_ ?_);(next=>exact flk);simp (disch:=omega) only [strs,qt,grC,ql,k3,k4,eg,Nat.sub_zero,k5,k6,go_sem])
    |((first|apply qc|apply qb);exact rvk;simp only [go_sem];first|exact VLe.refl _|apply qd|apply qa|apply qe|skip)
    |with_reducible first|refine And.intro ?_ ?_|intro _
   all_goals try exact clz
   refine hK _ _ (i+1) ⟨hi,fun j hj=> ?_⟩ (by omega) (Wk.temps ?_)
   ·by_cases e':j=i
    ·subst e';rw [hs,g6]
    ·exact i2 j (by omega)
   ·(simp only [strs,qt,List.replicate,go_sem,qj,qh,qg,qi];try (repeat' first|(with_reducible refine And.intro ?_ ?_)|(apply qd;omega)|(apply qa;rfl)|exact VLe.refl _))
  ·have k6:(e=0)=False:=eq_false g6
   have hV:R=e:=by rw [hR,hE (by rw [hs];exact g6),hs]
   rw [hV]
   simp (disch:=omega) only [List.replicate,strs,qt,grC,ql,k3,k4,eg,Nat.sub_zero,go_sem]
   repeat' first
    |((first|refine cA (c89 _) ?_ ?_|refine cG (fun e=>c89 _) ?_ ?_|refine cA (c88 _) ?_ ?_|refine cG (fun e=>c88 _) ?_ ?_|refine cA (c90 _) ?_ ?_|refine cG (fun e=>c90 _) ?_ ?_|refine cA (c91 _) ?_ ?_|refine cG (fun e=>c91 _) ?_ ?_|refine cA (c92 _) ?_ ?_|refine cG (fun e=>c92 _) ?_ ?_|refine cU (fun _=>c89 _) ?_ ?_|refine cU (fun _=>c88 _) ?_ ?_|refine cU (fun _=>c90 _) ?_ ?_|refine cU (fun _=>c91 _) ?_ ?_|refine cU (fun _=>c92 _) ?_ ?_);(next=>exact flk);simp (disch:=omega) only [strs,qt,grC,ql,k3,k4,eg,Nat.sub_zero,k5,k6,go_sem])
    |((first|apply qc|apply qb);exact rvk;simp only [go_sem];first|exact VLe.refl _|apply qd|apply qa|apply qe|skip)
    |with_reducible first|refine And.intro ?_ ?_|intro _
   all_goals try exact clz
 ·have k3:((i:Int)<gs.length)=False:=eq_false (by omega)
  rw [qA (fun j (hj:j<gs.length)=>i2 j (by omega))]at hR
  rw [hR]
  simp (disch:=omega) only [List.replicate,strs,qt,k3,go_sem]
  repeat' first
   |((first|apply qc|apply qb);exact rvk;simp only [go_sem];first|exact VLe.refl _|apply qd|apply qa|apply qe|skip)
   |with_reducible first|refine And.intro ?_ ?_|intro _
  all_goals try exact clz
end RC
end
section
open Go Go.Proofs AF HY LN
namespace RC
theorem qxT (l:List Int) (x:Int) (h:List AObj) (hn:l.length≤1000000000):qm Tryz.prog 56 [ql l,.int .i64 x] h (.bool (decide (x∈l))) h:=by
 have hmem: ∀i,i<l.length→(∀j,j<i→l.getD j 0≠x)→l.getD i 0=x→decide (x∈l)=true:=fun i hi _ e=>by
  refine decide_eq_true ?_
  rw [←e,gdqA,qU hi]
  exact List.getElem_mem hi
 have hno:(∀j,j<l.length→l.getD j 0≠x)→decide (x∈l)=false:=fun hh=>by
  refine decide_eq_false fun hm=> ?_
  obtain ⟨i,hi,e⟩:=List.getElem_of_mem hm
  refine hh i hi ?_
  rw [gdqA,qU hi]
  exact e
 obtain ⟨R,hR⟩: ∃R,R=decide (x∈l):=⟨_,rfl⟩
 rw [←hR]at hmem hno ⊢
 refine acO qxx ?_
 simp (disch:=omega) only [qyG,List.replicate,ql,go_sem]
 repeat' first
  |((first|apply qc|apply qb);exact rvk;simp only [go_sem];first|exact VLe.refl _|apply qd|apply qa|apply qe|skip)
  |with_reducible first|refine And.intro ?_ ?_|intro _
 all_goals try exact clz
 refine qn (T:=fun i:Nat=>qI 18 [(0,ql l),(1,.int .i64 x),(5,.int .i64 i)]) (H:=fun _=>h) (inv:=fun i=>i≤l.length∧ ∀j,j<i→l.getD j 0≠x) (m:=fun i=>l.length-i) 0 ⟨Nat.zero_le _,fun j hj=>by omega⟩ (Wk.temps ?_) ?_
 ·(simp only [ql,List.replicate,go_sem,qj,qh,qg,qi];try (repeat' first|(with_reducible refine And.intro ?_ ?_)|(apply qd;omega)|(apply qa;rfl)|exact VLe.refl _))
 rintro i ⟨i1,i2⟩ K hK
 by_cases hi:i<l.length
 ·have k1:((i:Int)<l.length)=True:=eq_true (by omega)
  have hm:=hmem i hi i2
  obtain ⟨v,hv⟩: ∃v,v=l.getD i 0:=⟨_,rfl⟩
  have ev:=hv.symm
  rw [ev]at hm
  by_cases g0:v=x
  ·have k2:(v=x)=True:=eq_true g0
   rw [hm g0]
   simp (disch:=omega) only [List.replicate,ql,k1,k2,ev,go_sem]
   repeat' first
    |((first|apply qc|apply qb);exact rvk;simp only [go_sem];first|exact VLe.refl _|apply qd|apply qa|apply qe|skip)
    |with_reducible first|refine And.intro ?_ ?_|intro _
   all_goals try exact clz
  ·have k2:(v=x)=False:=eq_false g0
   simp (disch:=omega) only [List.replicate,ql,k1,k2,ev,go_sem]
   repeat' first
    |((first|apply qc|apply qb);exact rvk;simp only [go_sem];first|exact VLe.refl _|apply qd|apply qa|apply qe|skip)
    |with_reducible first|refine And.intro ?_ ?_|intro _
   all_goals try exact clz
   refine hK _ _ (i+1) ⟨hi,fun j hj=> ?_⟩ (by omega) (Wk.temps ?_)
   ·by_cases e:j=i
    ·subst e;rw [ev];exact g0
    ·exact i2 j (by omega)
   ·(simp only [ql,List.replicate,go_sem,qj,qh,qg,qi];try (repeat' first|(with_reducible refine And.intro ?_ ?_)|(apply qd;omega)|(apply qa;rfl)|exact VLe.refl _))
 ·have k1:((i:Int)<l.length)=False:=eq_false (by omega)
  rw [hno (fun j hj=>i2 j (by omega))]
  simp (disch:=omega) only [List.replicate,ql,k1,go_sem]
  repeat' first
   |((first|apply qc|apply qb);exact rvk;simp only [go_sem];first|exact VLe.refl _|apply qd|apply qa|apply qe|skip)
   |with_reducible first|refine And.intro ?_ ?_|intro _
  all_goals try exact clz
theorem qu8 (k v:Nat) (ty:TypeId) (L:List Int) (x:Int) (h:List AObj) (hk:qy k h=some (.mem v ty (qs L))) (hn:L.length≤1000000000):qm Tryz.prog 56 [.osl k v 1 0 L.length,.int .i64 x] h (.bool (decide (x∈L))) h:=by
 refine qm.borrow ?_ rfl
 have e:([AV.osl k v 1 0 L.length,.int .i64 x]).map (rei (fun _=>true) h 8)= [AV.sl L.length (fun i=>(((qs L).drop i).take 1).map (rei (fun _=>true) h 7)),.int .i64 x]:=by
  simp only [List.map_cons,List.map_nil,rei_osl,if_true,hk,slOf_mem,qF,Nat.zero_add,Nat.mul_one,Nat.le_refl,and_self,rei_int]
 rw [e]
 exact (qxT L x [] hn).le (qp0 (zS _ (fun n=>rfl) rfl) (qp0 (VLe.refl _) ki.nil)) (VLe.refl _)
theorem fmI (l:List Int):List.flatMap (fun i=> [AV.int .i64 (l.getD i 0)]) (List.range l.length)=qs l:=by
 induction l with
 |nil=>rfl
 |cons a l ih=>
  rw [List.length_cons,List.range_succ_eq_map,List.flatMap_cons,List.flatMap_map]
  show AV.int .i64 a::List.flatMap (fun i=> [AV.int .i64 (l.getD i 0)]) (List.range l.length)=_
  rw [ih]
  rfl
def qfz (names:List Str) (gs:List Gr) (sg:List Str) (i:Nat):List Int:=((List.range i).map fun j=>els names gs (sg.getD j [])).flatten
theorem qh4 (names:List Str) (gs:List Gr) (sg:List Str) (i:Nat):qfz names gs sg (i+1)=qfz names gs sg i++els names gs (sg.getD i []):=by unfold qfz;rw [List.range_succ,List.map_append,List.flatten_append];simp
theorem qfA {names:List Str} {gs:List Gr} {sg:List Str} {i:Nat} {x:Int}:x∈qfz names gs sg i↔ ∃j,j<i∧x∈els names gs (sg.getD j []):=by
 unfold qfz
 rw [List.mem_flatten]
 constructor
 ·rintro ⟨l,hl,hx⟩
  obtain ⟨j,hj,rfl⟩:=List.mem_map.1 hl
  exact ⟨j,List.mem_range.1 hj,hx⟩
 ·rintro ⟨j,hj,hx⟩
  exact ⟨_,List.mem_map.2 ⟨j,List.mem_range.2 hj,rfl⟩,hx⟩
theorem qaO {p q:Nat→Bool} {n:Nat} (h: ∀k,k<n→p k=q k):qS p n=qS q n:=by
 unfold qS
 congr 1
 refine List.filter_congr fun k hk=>h k (List.mem_range.1 hk)
theorem qnJ {p:Nat→Bool} {n:Nat}: ∀m,n≤m→(∀k,n≤k→k<m→p k=false)→qS p m=qS p n:=by
 intro m
 induction m with
 |zero=>
  intro h _
  have:n=0:=by omega
  subst this;rfl
 |succ m ih=>
  intro h1 h2
  by_cases e:n=m+1
  ·subst e;rfl
  ·rw [zT,h2 m (by omega) (by omega),if_neg (by simp),List.append_nil,ih (by omega) (fun k a b=>h2 k a (by omega))]
theorem qqO (names:List Str) (gs:List Gr) (s:Str) (M:Nat) (h1:1≤M) (hg: ∀i,(gs.getD i default).mem.length≤M):(els names gs s).length≤M:=by
 unfold els
 split
 ·simpa using h1
 ·exact hg _
theorem qqU {names:List Str} {gs:List Gr} {sg:List Str} (h:qh0 names gs) (hz: ∀j,j<sg.length→qag names gs sg j=0):
  qS (qdl names gs sg sg.length).testBit 64=qS (fun k=>decide ((k:Int)∈qfz names gs sg sg.length)) names.length:=by
 obtain ⟨_,h2⟩:=qcC h hz
 have e:qS (qdl names gs sg sg.length).testBit 64=qS (fun k=>decide ((k:Int)∈qfz names gs sg sg.length)) 64:=qaO fun k _=>by
  rw [h2 k]
  exact decide_eq_decide.2 qfA.symm
 rw [e]
 refine qnJ 64 (by have:=h.n32;omega) (fun k h1 _=>decide_eq_false fun hm=> ?_)
 obtain ⟨j,hj,hm⟩:=qfA.1 hm
 have h3: ¬(nIx names (sg.getD j [])<0∧gIx gs (sg.getD j [])<0):=by
  intro hc
  have:=hz j hj
  unfold qag at this
  rw [if_pos hc]at this
  cases this
 have:=(zN (qeE h h3) _ hm).2
 omega
end RC
end
section
open Go Go.Proofs AF HY LN
namespace RC
set_option maxHeartbeats 8000000
theorem _root_.AF.Wk.kill6 {t:List AV} {h l:List AObj} {a b c d e f:AObj} {v:Nat} {ty:TypeId} {cs:List AV}:Wk t (h++a::b::c::d::e::f:: .mem v ty cs::l) t (h++a::b::c::d::e::f:: .emp (v+1)::l):=by
 have:=Wk.kill0 (t:=t) (h:=h++ [a,b,c,d,e,f]) (l:=l) (v:=v) (ty:=ty) (cs:=cs)
 simpa using this
theorem qqT (names:List Str) (gs:List Gr) (sg:List Str) (h:List AObj) (hz:Szs names gs) (hs:sg.length≤1000000) (hgm: ∀i,(gs.getD i default).mem.length≤1000):
  qm Tryz.prog 28 [strs names,qt gs,strs sg] h (.tup [ql (zz names gs sg),.int .i64 (jo names gs sg)]) h:=by
 have c49:=fun h=>sgR names gs h hz
 obtain ⟨z1,z2,z3,z4,z5⟩:=hz
 obtain ⟨R,hR⟩: ∃R,R=jo names gs sg:=⟨_,rfl⟩
 obtain ⟨Q,hQ⟩: ∃Q,Q=zz names gs sg:=⟨_,rfl⟩
 rw [←hR,←hQ]
 unfold zz at hQ
 rw [←hR]at hQ
 unfold jo at hR
 obtain ⟨e,he⟩: ∃e,e=sgE names gs:=⟨_,rfl⟩
 rw [←he]at c49 hR
 by_cases g0: ¬e=0
 ·have k0:(e=0)=False:=eq_false g0
  rw [if_pos g0]at hR
  rw [if_neg (by omega)]at hQ
  rw [hR,hQ]
  refine acO quI ?_
  simp (disch:=omega) only [qwQ,List.replicate,strs,qt,k0,go_sem]
  unfold strs qt at c49
  repeat' first
   |((first|refine cA (c49 _) ?_ ?_|refine cG (fun e=>c49 _) ?_ ?_|refine cU (fun _=>c49 _) ?_ ?_);(next=>exact flk);simp (disch:=omega) only [strs,qt,k0,go_sem])
   |((first|apply qc|apply qb);exact rvk;simp only [go_sem];first|exact VLe.refl _|apply qd|apply qa|apply qe|skip)
   |with_reducible first|refine And.intro ?_ ?_|intro _
  all_goals try exact clz
  exact zE
 have g0:e=0:=Classical.not_not.1 g0
 have k0:(e=0)=True:=eq_true g0
 rw [if_neg (fun hc=>hc g0)]at hR
 have hok:=qbk (he.symm.trans g0)
 have h32:=hok.n32
 unfold strs qt at c49
 refine acO quI ?_
 simp (disch:=omega) only [qwQ,List.replicate,strs,qt,go_sem]
 repeat' first
  |((first|refine cA (c49 _) ?_ ?_|refine cG (fun e=>c49 _) ?_ ?_|refine cU (fun _=>c49 _) ?_ ?_);(next=>exact flk);simp (disch:=omega) only [strs,qt,k0,go_sem])
  |((first|apply qc|apply qb);exact rvk;simp only [go_sem];first|exact VLe.refl _|apply qd|apply qa|apply qe|skip)
  |with_reducible first|refine And.intro ?_ ?_|intro _
 all_goals try exact clz
 have eM:zk [AV.int .i64 0] 0=qs (qfz names gs sg 0):=rfl
 rw [eM]
 refine qn (T:=fun i:Nat×Nat×Nat=>qI 81 [(0,strs names),(1,qt gs),(2,strs sg),(8,.osl (h.length+1) i.2.1 1 0 (qfz names gs sg i.1).length),(9,.int .i64 i.1)]) (H:=fun i=>h++ [.emp 1,.mem i.2.1 3 (qs (qfz names gs sg i.1)),.emp i.2.2,.emp 0,.emp 0,.emp 0,.emp 0,.emp 0])
  (inv:=fun i=>i.1≤sg.length∧(∀j,j<i.1→qag names gs sg j=0)∧(qfz names gs sg i.1).length≤1000*i.1) (m:=fun i=>sg.length-i.1) (0,1,0) ⟨Nat.zero_le _,fun j hj=>absurd hj (Nat.not_lt_zero j),by simp [qfz]⟩ (Wk.temps ?_) ?_
 ·(simp only [strs,qt,qfz,List.range_zero,List.map_nil,List.flatten_nil,List.length_nil,List.replicate,go_sem,qj,qh,qg,qi];try (repeat' first|(with_reducible refine And.intro ?_ ?_)|(apply qd;omega)|(apply qa;rfl)|exact VLe.refl _))
 rintro ⟨i,v,w⟩ ⟨i1,i2,i3⟩ K hK
 simp only at i1 i2 i3 hK
 have hst:=qh4 names gs sg i
 have hel:=qqO names gs (sg.getD i []) 1000 (by omega) hgm
 obtain ⟨L,hL⟩: ∃L,L=qfz names gs sg i:=⟨_,rfl⟩
 have eL:=hL.symm
 have eC:=qF L
 rw [eL]at hst i3
 by_cases hi:i<sg.length
 ·have k1:((i:Int)<sg.length)=True:=eq_true (by omega)
  have k2:((i:Int)≤sg.length)=True:=eq_true (by omega)
  have hE:=qP (f:=qag names gs sg) hi i2
  have hs:qag names gs sg i=if nIx names (sg.getD i [])<0∧gIx gs (sg.getD i [])<0 then 6 else if jb (fun j=>decide (sg.getD i []=sg.getD j [])) i=true then 7 else 0:=rfl
  obtain ⟨s,hsx⟩: ∃s,s=sg.getD i []:=⟨_,rfl⟩
  have es:=hsx.symm
  simp only [es]at hs hst hel
  have c54:=fun h=>qhb names.length (fun j=>names.getD j []) s h z1
  have c55:=fun h=>qzd gs.length gs h (by omega)
  have c54b:=fun h=>qhb gs.length (fun j=>(gs.getD j default).name) s h (by omega)
  have c54c:=fun h=>qhb i (fun j=>sg.getD j []) s h (by omega)
  have hn:=kB names s
  have hg:=qar gs s
  obtain ⟨n,hnx⟩: ∃n,n=nIx names s:=⟨_,rfl⟩
  obtain ⟨g,hgx⟩: ∃g,g=gIx gs s:=⟨_,rfl⟩
  have hnx':qbo (fun j=>decide (s=names.getD j [])) names.length 0=n:=hnx.symm
  have hgx':qbo (fun j=>decide (s=(gs.getD j default).name)) gs.length 0=g:=hgx.symm
  rw [hnx']at c54
  rw [hgx']at c54b
  rw [←hnx]at hn hs
  rw [←hgx]at hg hs
  simp only [grC,ql]at c55
  by_cases g1:n<0∧g<0
  ·have q1:(n<0)=True:=eq_true g1.1
   have q2:(g<0)=True:=eq_true g1.2
   rw [if_pos g1]at hs
   have hV:R=6:=by rw [hR,hE (by rw [hs];decide),hs]
   rw [hV,if_neg (by decide)]at hQ
   rw [hV,hQ]
   simp (disch:=omega) only [List.replicate,strs,qt,grC,ql,k1,k2,es,eL,go_sem]
   repeat' first
    |((first|refine cA (c54 _) ?_ ?_|refine cG (fun e=>c54 _) ?_ ?_|refine cA (c55 _) ?_ ?_|refine cG (fun e=>c55 _) ?_ ?_|refine cA (c54b _) ?_ ?_|refine cG (fun e=>c54b _) ?_ ?_|refine cU (fun _=>c54 _) ?_ ?_|refine cU (fun _=>c55 _) ?_ ?_|refine cU (fun _=>c54b _) ?_ ?_);(next=>exact flk);simp (disch:=omega) only [strs,qt,grC,ql,k1,k2,es,q1,q2,go_sem])
    |((first|apply qc|apply qb);exact rvk;simp only [go_sem];first|exact VLe.refl _|apply qd|apply qa|apply qe|skip)
    |with_reducible first|refine And.intro ?_ ?_|intro _
   all_goals try exact clz
   exact zE
  rw [if_neg g1]at hs
  have qf:((if n<0 then decide (g<0) else false)=true)=False:=eq_false (by
   split
   ·rename_i a;simp;exact Int.not_lt.1 (fun b=>g1 ⟨a,b⟩)
   ·simp)
  rcases qfP (fun j=>decide (s=sg.getD j [])) i with ⟨g2,m,hm0,g2'⟩|⟨g2,g2'⟩
  ·rw [g2']at c54c
   rw [if_pos g2]at hs
   have k3:((0:Int)≤m)=True:=eq_true hm0
   have hV:R=7:=by rw [hR,hE (by rw [hs];decide),hs]
   rw [hV,if_neg (by decide)]at hQ
   rw [hV,hQ]
   by_cases g3:n<0
   ·have q1:(n<0)=True:=eq_true g3
    have q2:(g<0)=False:=eq_false (fun hc=>g1 ⟨g3,hc⟩)
    simp (disch:=omega) only [List.replicate,strs,qt,grC,ql,k1,k2,es,eL,Nat.sub_zero,go_sem]
    repeat' first
     |((first|refine cA (c54 _) ?_ ?_|refine cG (fun e=>c54 _) ?_ ?_|refine cA (c55 _) ?_ ?_|refine cG (fun e=>c55 _) ?_ ?_|refine cA (c54b _) ?_ ?_|refine cG (fun e=>c54b _) ?_ ?_|refine cA (c54c _) ?_ ?_|refine cG (fun e=>c54c _) ?_ ?_|refine cU (fun _=>c54 _) ?_ ?_|refine cU (fun _=>c55 _) ?_ ?_|refine cU (fun _=>c54b _) ?_ ?_|refine cU (fun _=>c54c _) ?_ ?_);(next=>exact flk);simp (disch:=omega) only [strs,qt,grC,ql,k1,k2,es,q1,q2,k3,Nat.sub_zero,go_sem])
     |((first|apply qc|apply qb);exact rvk;simp only [go_sem];first|exact VLe.refl _|apply qd|apply qa|apply qe|skip)
     |with_reducible first|refine And.intro ?_ ?_|intro _
    all_goals try exact clz
    exact zE
   ·have q1:(n<0)=False:=eq_false g3
    simp (disch:=omega) only [List.replicate,strs,qt,grC,ql,k1,k2,es,eL,Nat.sub_zero,go_sem]
    repeat' first
     |((first|refine cA (c54 _) ?_ ?_|refine cG (fun e=>c54 _) ?_ ?_|refine cA (c55 _) ?_ ?_|refine cG (fun e=>c55 _) ?_ ?_|refine cA (c54b _) ?_ ?_|refine cG (fun e=>c54b _) ?_ ?_|refine cA (c54c _) ?_ ?_|refine cG (fun e=>c54c _) ?_ ?_|refine cU (fun _=>c54 _) ?_ ?_|refine cU (fun _=>c55 _) ?_ ?_|refine cU (fun _=>c54b _) ?_ ?_|refine cU (fun _=>c54c _) ?_ ?_);(next=>exact flk);simp (disch:=omega) only [strs,qt,grC,ql,k1,k2,es,q1,k3,Nat.sub_zero,go_sem])
     |((first|apply qc|apply qb);exact rvk;simp only [go_sem];first|exact VLe.refl _|apply qd|apply qa|apply qe|skip)
     |with_reducible first|refine And.intro ?_ ?_|intro _
    all_goals try exact clz
    exact zE
  rw [g2']at c54c
  rw [if_neg (by rw [g2];simp)]at hs
  have hi2: ∀j,j<i+1→qag names gs sg j=0:=fun j hj=>by
   by_cases e':j=i
   ·subst e';exact hs
   ·exact i2 j (by omega)
  have eT:List.take L.length (qs L)=qs L:=List.take_of_length_le (by omega)
  by_cases g3:n<0
  ·have q1:(n<0)=True:=eq_true g3
   have q2:(g<0)=False:=eq_false (fun hc=>g1 ⟨g3,hc⟩)
   have q3:(0≤n)=False:=eq_false (by omega)
   have eE:els names gs s=(gs.getD g.toNat default).mem:=by unfold els;rw [←hnx,←hgx,if_neg (by omega)]
   rcases hg with ⟨k,p1,p2,rfl⟩|⟨_,p2⟩
   ·rw [Int.toNat_natCast]at eE
    obtain ⟨y,hw⟩: ∃y,y=gs.getD k default:=⟨_,rfl⟩
    have ew:=hw.symm
    rw [ew]at eE
    rw [eE]at hst hel
    have q4:((k:Int)<gs.length)=True:=eq_true (by omega)
    have q5:(0≤(k:Int))=True:=eq_true (by omega)
    simp (disch:=omega) only [List.replicate,strs,qt,grC,ql,k1,k2,es,eL,Nat.sub_zero,Nat.mul_one,go_sem]
    repeat' first
     |((first|refine cA (c54 _) ?_ ?_|refine cG (fun e=>c54 _) ?_ ?_|refine cA (c55 _) ?_ ?_|refine cG (fun e=>c55 _) ?_ ?_|refine cA (c54b _) ?_ ?_|refine cG (fun e=>c54b _) ?_ ?_|refine cA (c54c _) ?_ ?_|refine cG (fun e=>c54c _) ?_ ?_|refine cU (fun _=>c54 _) ?_ ?_|refine cU (fun _=>c55 _) ?_ ?_|refine cU (fun _=>c54b _) ?_ ?_|refine cU (fun _=>c54c _) ?_ ?_);(next=>exact flk);simp (disch:=omega) only [strs,qt,grC,ql,k1,k2,es,eL,ew,q1,q2,q3,q4,q5,eC,eT,Nat.sub_zero,Nat.mul_one,go_sem])
     |((first|apply qc|apply qb);exact rvk;simp only [go_sem];first|exact VLe.refl _|apply qd|apply qa|apply qe|skip)
     |with_reducible first|refine And.intro ?_ ?_|intro _
    all_goals try exact clz
    ·rw [fmI];exact qF _
    rw [fmI,←qT,←List.length_append,←hst]
    refine hK _ _ (i+1,v+1,w) ⟨hi,hi2,by simp only;rw [hst,List.length_append];omega⟩ (by simp only;omega) (Wk.temps ?_)
    (simp only [strs,qt,grC,ql,List.replicate,go_sem,qj,qh,qg,qi];try (repeat' first|(with_reducible refine And.intro ?_ ?_)|(apply qd;omega)|(apply qa;rfl)|exact VLe.refl _))
   ·exact absurd ⟨g3,by omega⟩ g1
  ·have q1:(n<0)=False:=eq_false g3
   have q3:(0≤n)=True:=eq_true (by omega)
   have eE:els names gs s= [n]:=by unfold els;rw [←hnx,if_pos (by omega)]
   rw [eE]at hst hel
   simp (disch:=omega) only [List.replicate,strs,qt,grC,ql,k1,k2,es,eL,Nat.sub_zero,Nat.mul_one,go_sem]
   repeat' first
    |((first|refine cA (c54 _) ?_ ?_|refine cG (fun e=>c54 _) ?_ ?_|refine cA (c55 _) ?_ ?_|refine cG (fun e=>c55 _) ?_ ?_|refine cA (c54b _) ?_ ?_|refine cG (fun e=>c54b _) ?_ ?_|refine cA (c54c _) ?_ ?_|refine cG (fun e=>c54c _) ?_ ?_|refine cU (fun _=>c54 _) ?_ ?_|refine cU (fun _=>c55 _) ?_ ?_|refine cU (fun _=>c54b _) ?_ ?_|refine cU (fun _=>c54c _) ?_ ?_);(next=>exact flk);simp (disch:=omega) only [strs,qt,grC,ql,k1,k2,es,eL,q1,q3,eC,eT,Nat.sub_zero,Nat.mul_one,go_sem])
    |((first|apply qc|apply qb);exact rvk;simp only [go_sem];first|exact VLe.refl _|apply qd|apply qa|apply qe|skip)
    |with_reducible first|refine And.intro ?_ ?_|intro _
   all_goals try exact clz
   have eA:qs L++ [AV.int .i64 n]=qs (L++ [n]):=by rw [qT];rfl
   have eN:L.length+1=(L++ [n]).length:=by simp
   rw [eA,eN,←hst]
   refine hK _ _ (i+1,v+1,w+1+1) ⟨hi,hi2,by simp only;rw [hst,List.length_append,List.length_singleton];omega⟩ (by simp only;omega) (Wk.trans Wk.kill2 ?_)
   refine Wk.temps ?_
   (simp only [strs,qt,List.replicate,go_sem,qj,qh,qg,qi];try (repeat' first|(with_reducible refine And.intro ?_ ?_)|(apply qd;omega)|(apply qa;rfl)|exact VLe.refl _))
 have k1:((i:Int)<sg.length)=False:=eq_false (by omega)
 obtain rfl:i=sg.length:=by omega
 have hV:R=0:=by rw [hR];exact qA i2
 rw [if_pos hV,qqU hok i2,eL]at hQ
 rw [hV]
 simp (disch:=omega) only [List.replicate,strs,qt,k1,eL,go_sem]
 repeat' first
  |((first|apply qc|apply qb);exact rvk;simp only [go_sem];first|exact VLe.refl _|apply qd|apply qa|apply qe|skip)
  |with_reducible first|refine And.intro ?_ ?_|intro _
 all_goals try exact clz
 have eM2:zk [AV.int .i64 0] 0=qs (qS (fun k=>decide ((k:Int)∈L)) 0):=rfl
 rw [eM2]
 obtain ⟨p,hp⟩: ∃p:Nat→Bool,p=fun k:Nat=>decide ((k:Int)∈L):=⟨_,rfl⟩
 have ep: ∀k:Nat,decide ((k:Int)∈L)=p k:=fun k=>by rw [hp]
 rw [←hp]at hQ ⊢
 refine qn (T:=fun i:Nat×Nat×Nat=>qI 81 [(0,strs names),(8,.osl (h.length+1) v 1 0 L.length),(12,.osl (h.length+5) i.2.1 1 0 (qS p i.1).length),(13,.int .i64 i.1)]) (H:=fun i=>h++ [.emp 1,.mem v 3 (qs L),.emp w,.emp 0,.emp 0,.mem i.2.1 3 (qs (qS p i.1)),.emp i.2.2,.emp 0])
  (inv:=fun i=>i.1≤names.length) (m:=fun i=>names.length-i.1) (0,1,0) (Nat.zero_le _) (Wk.temps ?_) ?_
 ·(simp only [strs,qS,List.range_zero,List.filter_nil,List.map_nil,List.length_nil,List.replicate,go_sem,qj,qh,qg,qi];try (repeat' first|(with_reducible refine And.intro ?_ ?_)|(apply qd;omega)|(apply qa;rfl)|exact VLe.refl _))
 rintro ⟨k,v2,w2⟩ j1 K2 hK2
 simp only at j1 hK2
 have hst2:=zT p k
 have hln2:=qX p k
 obtain ⟨M,hM⟩: ∃M,M=qS p k:=⟨_,rfl⟩
 have eM:=hM.symm
 have eC2:=qF M
 rw [eM]at hst2 hln2
 by_cases hk:k<names.length
 ·have y1:((k:Int)<names.length)=True:=eq_true (by omega)
  have c56:=qu8 (h.length+1) v 3 L k (h++ [.emp 1,.mem v 3 (qs L),.emp w,.emp 0,.emp 0,.mem v2 3 (qs M),.emp w2,.emp 0]) (by rw [getO_app];rfl) (by omega)
  rw [ep]at c56
  cases hb:p k with
  |true=>
   rw [hb]at c56 hst2
   have eT2:List.take M.length (qs M)=qs M:=List.take_of_length_le (by omega)
   simp (disch:=omega) only [List.replicate,strs,y1,eM,Nat.mul_one,go_sem]
   repeat' first
    |((first|refine cA (c56) ?_ ?_|refine cG (fun e=>c56) ?_ ?_);(next=>exact flk);simp (disch:=omega) only [strs,y1,eM,eC2,eT2,Nat.mul_one,go_sem])
    |((first|apply qc|apply qb);exact rvk;simp only [go_sem];first|exact VLe.refl _|apply qd|apply qa|apply qe|skip)
    |with_reducible first|refine And.intro ?_ ?_|intro _
   all_goals try exact clz
   rw [if_pos rfl]at hst2
   have eA:qs M++ [AV.int .i64 (k:Int)]=qs (M++ [(k:Int)]):=by rw [qT];rfl
   have eN:M.length+1=(M++ [(k:Int)]).length:=by simp
   rw [eA,eN,←hst2]
   refine hK2 _ _ (k+1,v2+1,w2+1+1) hk (by simp only;omega) (Wk.trans Wk.kill6 (Wk.temps ?_))
   (simp only [strs,List.replicate,go_sem,qj,qh,qg,qi];try (repeat' first|(with_reducible refine And.intro ?_ ?_)|(apply qd;omega)|(apply qa;rfl)|exact VLe.refl _))
  |false=>
   rw [hb]at c56 hst2
   rw [if_neg (by simp),List.append_nil]at hst2
   simp (disch:=omega) only [List.replicate,strs,y1,eM,Nat.mul_one,go_sem]
   repeat' first
    |((first|refine cA (c56) ?_ ?_|refine cG (fun e=>c56) ?_ ?_);(next=>exact flk);simp (disch:=omega) only [strs,y1,eM,Nat.mul_one,go_sem])
    |((first|apply qc|apply qb);exact rvk;simp only [go_sem];first|exact VLe.refl _|apply qd|apply qa|apply qe|skip)
    |with_reducible first|refine And.intro ?_ ?_|intro _
   all_goals try exact clz
   refine hK2 _ _ (k+1,v2,w2) hk (by simp only;omega) ?_
   simp only [hst2]
   refine Wk.temps ?_
   (simp only [strs,List.replicate,go_sem,qj,qh,qg,qi];try (repeat' first|(with_reducible refine And.intro ?_ ?_)|(apply qd;omega)|(apply qa;rfl)|exact VLe.refl _))
 have y1:((k:Int)<names.length)=False:=eq_false (by omega)
 obtain rfl:k=names.length:=by omega
 rw [hQ,eM]
 simp (disch:=omega) only [List.replicate,strs,y1,eM,go_sem]
 repeat' first
  |((first|apply qc|apply qb);exact rvk;simp only [go_sem];first|exact VLe.refl _|apply qd|apply qa|apply qe|skip)
  |with_reducible first|refine And.intro ?_ ?_|intro _
 all_goals try exact clz
 rw [if_pos (by omega)]
 refine qV ⟨zS _ (fun n=>rfl) rfl,VLe.refl _,trivial⟩
end RC
end
section
open Go Go.Proofs AF HY LN
namespace RC
set_option maxHeartbeats 4000000
theorem qrg (l:List Int) (x:Int) (h:List AObj) (hn:l.length≤1000000000):qm Tryz.prog 111 [ql l,.int .i64 x] h (.bool (decide (x∈l))) h:=by
 have hmem: ∀i,i<l.length→(∀j,j<i→l.getD j 0≠x)→l.getD i 0=x→decide (x∈l)=true:=fun i hi _ e=>by
  refine decide_eq_true ?_
  rw [←e,gdqA,qU hi]
  exact List.getElem_mem hi
 have hno:(∀j,j<l.length→l.getD j 0≠x)→decide (x∈l)=false:=fun hh=>by
  refine decide_eq_false fun hm=> ?_
  obtain ⟨i,hi,e⟩:=List.getElem_of_mem hm
  refine hh i hi ?_
  rw [gdqA,qU hi]
  exact e
 obtain ⟨R,hR⟩: ∃R,R=decide (x∈l):=⟨_,rfl⟩
 rw [←hR]at hmem hno ⊢
 refine acO qt6 ?_
 simp (disch:=omega) only [qs4,List.replicate,ql,go_sem]
 repeat' first
  |((first|apply qc|apply qb);exact rvk;simp only [go_sem];first|exact VLe.refl _|apply qd|apply qa|apply qe|skip)
  |with_reducible first|refine And.intro ?_ ?_|intro _
 all_goals try exact clz
 refine qn (T:=fun i:Nat=>qI 18 [(0,ql l),(1,.int .i64 x),(5,.int .i64 i)]) (H:=fun _=>h) (inv:=fun i=>i≤l.length∧ ∀j,j<i→l.getD j 0≠x) (m:=fun i=>l.length-i) 0 ⟨Nat.zero_le _,fun j hj=>by omega⟩ (Wk.temps ?_) ?_
 ·(simp only [ql,List.replicate,go_sem,qj,qh,qg,qi];try (repeat' first|(with_reducible refine And.intro ?_ ?_)|(apply qd;omega)|(apply qa;rfl)|exact VLe.refl _))
 rintro i ⟨i1,i2⟩ K hK
 by_cases hi:i<l.length
 ·have k1:((i:Int)<l.length)=True:=eq_true (by omega)
  have hm:=hmem i hi i2
  obtain ⟨v,hv⟩: ∃v,v=l.getD i 0:=⟨_,rfl⟩
  have ev:=hv.symm
  rw [ev]at hm
  by_cases g0:v=x
  ·have k2:(v=x)=True:=eq_true g0
   rw [hm g0]
   simp (disch:=omega) only [List.replicate,ql,k1,k2,ev,go_sem]
   repeat' first
    |((first|apply qc|apply qb);exact rvk;simp only [go_sem];first|exact VLe.refl _|apply qd|apply qa|apply qe|skip)
    |with_reducible first|refine And.intro ?_ ?_|intro _
   all_goals try exact clz
  ·have k2:(v=x)=False:=eq_false g0
   simp (disch:=omega) only [List.replicate,ql,k1,k2,ev,go_sem]
   repeat' first
    |((first|apply qc|apply qb);exact rvk;simp only [go_sem];first|exact VLe.refl _|apply qd|apply qa|apply qe|skip)
    |with_reducible first|refine And.intro ?_ ?_|intro _
   all_goals try exact clz
   refine hK _ _ (i+1) ⟨hi,fun j hj=> ?_⟩ (by omega) (Wk.temps ?_)
   ·by_cases e:j=i
    ·subst e;rw [ev];exact g0
    ·exact i2 j (by omega)
   ·(simp only [ql,List.replicate,go_sem,qj,qh,qg,qi];try (repeat' first|(with_reducible refine And.intro ?_ ?_)|(apply qd;omega)|(apply qa;rfl)|exact VLe.refl _))
 ·have k1:((i:Int)<l.length)=False:=eq_false (by omega)
  rw [hno (fun j hj=>i2 j (by omega))]
  simp (disch:=omega) only [List.replicate,ql,k1,go_sem]
  repeat' first
   |((first|apply qc|apply qb);exact rvk;simp only [go_sem];first|exact VLe.refl _|apply qd|apply qa|apply qe|skip)
   |with_reducible first|refine And.intro ?_ ?_|intro _
  all_goals try exact clz
theorem qtE (l:List Int) (h:List AObj) (hl:l.length≤1000000000) (hs:qad 64 l=0):qm Tryz.prog 143 [ql l] h (.int .i64 0) h:=by
 have hz:=jY.1 hs
 refine acO quk ?_
 simp (disch:=omega) only [qtg,List.replicate,ql,go_sem]
 repeat' first
  |((first|apply qc|apply qb);exact rvk;simp only [go_sem];first|exact VLe.refl _|apply qd|apply qa|apply qe|skip)
  |with_reducible first|refine And.intro ?_ ?_|intro _
 all_goals try exact clz
 refine qn (T:=fun i:Nat=>qI 36 [(0,ql l),(3,.int .i64 i)]) (H:=fun _=>h) (inv:=fun i=>i≤l.length) (m:=fun i=>l.length-i) 0 (Nat.zero_le _) (Wk.temps ?_) ?_
 ·(simp only [ql,List.replicate,go_sem,qj,qh,qg,qi];try (repeat' first|(with_reducible refine And.intro ?_ ?_)|(apply qd;omega)|(apply qa;rfl)|exact VLe.refl _))
 rintro i i1 K hK
 by_cases hi:i<l.length
 ·have k1:((i:Int)<l.length)=True:=eq_true (by omega)
  have hs:=hz i hi
  unfold qbq at hs
  obtain ⟨v,hv⟩: ∃v,v=l.getD i 0:=⟨_,rfl⟩
  obtain ⟨u,hu⟩: ∃u,u=l.getD (i-1) 0:=⟨_,rfl⟩
  have ev:=hv.symm
  have eu:=hu.symm
  rw [ev,eu]at hs
  have hb: ¬(v<0∨64≤v):=fun hc=>by rw [if_pos hc]at hs;cases hs
  rw [if_neg hb]at hs
  have q1:(v<0)=False:=eq_false (by omega)
  have q2:((63:Int)<v)=False:=eq_false (by omega)
  by_cases g3:0<i
  ·have q3:((0:Int)<i)=True:=eq_true (by omega)
   have q4:((i:Int)-1).toNat=i-1:=by omega
   have q5:(0≤(i:Int)-1)=True:=eq_true (by omega)
   have q6:((i:Int)-1<l.length)=True:=eq_true (by omega)
   have q7:(v≤u)=False:=eq_false fun hc=>by rw [if_pos ⟨g3,hc⟩]at hs;cases hs
   simp (disch:=omega) only [List.replicate,ql,k1,ev,eu,q1,q2,q3,q4,q5,q6,q7,go_sem]
   repeat' first
    |((first|apply qc|apply qb);exact rvk;simp only [go_sem];first|exact VLe.refl _|apply qd|apply qa|apply qe|skip)
    |with_reducible first|refine And.intro ?_ ?_|intro _
   all_goals try exact clz
   refine hK _ _ (i+1) hi (by omega) (Wk.temps ?_)
   (simp only [ql,List.replicate,go_sem,qj,qh,qg,qi];try (repeat' first|(with_reducible refine And.intro ?_ ?_)|(apply qd;omega)|(apply qa;rfl)|exact VLe.refl _))
  ·have q3:((0:Int)<i)=False:=eq_false (by omega)
   simp (disch:=omega) only [List.replicate,ql,k1,ev,q1,q2,q3,go_sem]
   repeat' first
    |(refine qo ( .bool false) ?_;simp (disch:=omega) only [ql,k1,ev,q1,q2,q3,go_sem])
    |((first|apply qc|apply qb);exact rvk;simp only [go_sem];first|exact VLe.refl _|apply qd|apply qa|apply qe|skip)
    |with_reducible first|refine And.intro ?_ ?_|intro _
   all_goals try exact clz
   refine hK _ _ (i+1) hi (by omega) (Wk.temps ?_)
   (simp only [ql,List.replicate,go_sem,qj,qh,qg,qi];try (repeat' first|(with_reducible refine And.intro ?_ ?_)|(apply qd;omega)|(apply qa;rfl)|exact VLe.refl _))
 ·have k1:((i:Int)<l.length)=False:=eq_false (by omega)
  simp (disch:=omega) only [List.replicate,ql,k1,go_sem]
  repeat' first
   |((first|apply qc|apply qb);exact rvk;simp only [go_sem];first|exact VLe.refl _|apply qd|apply qa|apply qe|skip)
   |with_reducible first|refine And.intro ?_ ?_|intro _
  all_goals try exact clz
theorem qsZ (a b:List Int) (h:List AObj) (ha:a.length≤1000000000) (hb:b.length≤1000000000) (sa:qad 64 a=0) (sb:qad 64 b=0):qm Tryz.prog 110 [ql a,ql b] h (.bool false) h:=by
 have c1:=fun h=>qtE a h ha sa
 have c2:=fun h=>qtE b h hb sb
 unfold ql at c1 c2
 refine acO qt5 ?_
 simp (disch:=omega) only [qs3,List.replicate,ql,go_sem]
 repeat' first
  |((first|refine cA (c1 _) ?_ ?_|refine cG (fun e=>c1 _) ?_ ?_|refine cA (c2 _) ?_ ?_|refine cG (fun e=>c2 _) ?_ ?_|refine cU (fun _=>c1 _) ?_ ?_|refine cU (fun _=>c2 _) ?_ ?_);(next=>exact flk);simp (disch:=omega) only [ql,go_sem])
  |((first|apply qc|apply qb);exact rvk;simp only [go_sem];first|exact VLe.refl _|apply qd|apply qa|apply qe|skip)
  |with_reducible first|refine And.intro ?_ ?_|intro _
 all_goals try exact clz
theorem qAb (a b:List Int) (h:List AObj) (ha:a.length≤1000000000) (hb:b.length≤1000000000) (sa:qad 64 a=0) (sb:qad 64 b=0):
  qm Tryz.prog 71 [ql a,ql b] h (.tup [ql (qS (fun k=>decide ((k:Int)∈a)||decide ((k:Int)∈b)) 64),.int .i64 0]) h:=by
 have c0:=fun h=>qsZ a b h ha hb sa sb
 unfold ql at c0
 obtain ⟨p,hp⟩: ∃p:Nat→Bool,p=fun k:Nat=>decide ((k:Int)∈a)||decide ((k:Int)∈b):=⟨_,rfl⟩
 have ep: ∀k:Nat,p k=(decide ((k:Int)∈a)||decide ((k:Int)∈b)):=fun k=>by rw [hp]
 rw [←hp]
 refine acO qxz ?_
 simp (disch:=omega) only [qyI,List.replicate,ql,go_sem]
 repeat' first
  |((first|refine cA (c0 _) ?_ ?_|refine cG (fun e=>c0 _) ?_ ?_|refine cU (fun _=>c0 _) ?_ ?_);(next=>exact flk);simp (disch:=omega) only [ql,go_sem])
  |((first|apply qc|apply qb);exact rvk;simp only [go_sem];first|exact VLe.refl _|apply qd|apply qa|apply qe|skip)
  |with_reducible first|refine And.intro ?_ ?_|intro _
 all_goals try exact clz
 have eM2:zk [AV.int .i64 0] 0=qs (qS p 0):=rfl
 rw [eM2]
 refine qn (T:=fun i:Nat×Nat×Nat=>qI 29 [(0,ql a),(1,ql b),(6,.osl (h.length+1) i.2.1 1 0 (qS p i.1).length),(7,.int .i64 i.1)]) (H:=fun i=>h++ [.emp 1,.mem i.2.1 3 (qs (qS p i.1)),.emp i.2.2,.emp 0])
  (inv:=fun i=>i.1≤64) (m:=fun i=>64-i.1) (0,1,0) (Nat.zero_le _) (Wk.temps ?_) ?_
 ·(simp only [ql,qS,List.range_zero,List.filter_nil,List.map_nil,List.length_nil,List.replicate,go_sem,qj,qh,qg,qi];try (repeat' first|(with_reducible refine And.intro ?_ ?_)|(apply qd;omega)|(apply qa;rfl)|exact VLe.refl _))
 rintro ⟨k,v2,w2⟩ j1 K2 hK2
 simp only at j1 hK2
 have hst2:=zT p k
 have hln2:=qX p k
 obtain ⟨M,hM⟩: ∃M,M=qS p k:=⟨_,rfl⟩
 have eM:=hM.symm
 have eC2:=qF M
 rw [eM]at hst2 hln2
 by_cases hk:k<64
 ·have y1:((k:Int)<64)=True:=eq_true (by omega)
  have c1:=fun h=>qrg a k h ha
  have c2:=fun h=>qrg b k h hb
  have epk:=ep k
  unfold ql at c1 c2
  cases hb1:decide ((k:Int)∈a)with
  |true=>
   rw [hb1]at c1 epk
   rw [Bool.true_or]at epk
   rw [epk,if_pos rfl]at hst2
   have eT2:List.take M.length (qs M)=qs M:=List.take_of_length_le (by omega)
   simp (disch:=omega) only [List.replicate,ql,y1,eM,Nat.mul_one,go_sem]
   repeat' first
    |(refine qo ( .bool false) ?_;simp (disch:=omega) only [ql,y1,eM,eC2,eT2,Nat.mul_one,go_sem])
    |((first|refine cA (c1 _) ?_ ?_|refine cG (fun e=>c1 _) ?_ ?_|refine cU (fun _=>c1 _) ?_ ?_);(next=>exact flk);simp (disch:=omega) only [ql,y1,eM,eC2,eT2,Nat.mul_one,go_sem])
    |((first|apply qc|apply qb);exact rvk;simp only [go_sem];first|exact VLe.refl _|apply qd|apply qa|apply qe|skip)
    |with_reducible first|refine And.intro ?_ ?_|intro _
   all_goals try exact clz
   have eA:qs M++ [AV.int .i64 (k:Int)]=qs (M++ [(k:Int)]):=by rw [qT];rfl
   have eN:M.length+1=(M++ [(k:Int)]).length:=by simp
   rw [eA,eN,←hst2]
   refine hK2 _ _ (k+1,v2+1,w2+1+1) hk (by simp only;omega) (Wk.trans Wk.kill2 (Wk.temps ?_))
   (simp only [ql,List.replicate,go_sem,qj,qh,qg,qi];try (repeat' first|(with_reducible refine And.intro ?_ ?_)|(apply qd;omega)|(apply qa;rfl)|exact VLe.refl _))
  |false=>
   rw [hb1]at c1 epk
   rw [Bool.false_or]at epk
   cases hb2:decide ((k:Int)∈b)with
   |true=>
    rw [hb2]at c2 epk
    rw [epk,if_pos rfl]at hst2
    have eT2:List.take M.length (qs M)=qs M:=List.take_of_length_le (by omega)
    simp (disch:=omega) only [List.replicate,ql,y1,eM,Nat.mul_one,go_sem]
    repeat' first
     |((first|refine cA (c1 _) ?_ ?_|refine cG (fun e=>c1 _) ?_ ?_|refine cA (c2 _) ?_ ?_|refine cG (fun e=>c2 _) ?_ ?_|refine cU (fun _=>c1 _) ?_ ?_|refine cU (fun _=>c2 _) ?_ ?_);(next=>exact flk);simp (disch:=omega) only [ql,y1,eM,eC2,eT2,Nat.mul_one,go_sem])
     |((first|apply qc|apply qb);exact rvk;simp only [go_sem];first|exact VLe.refl _|apply qd|apply qa|apply qe|skip)
     |with_reducible first|refine And.intro ?_ ?_|intro _
    all_goals try exact clz
    have eA:qs M++ [AV.int .i64 (k:Int)]=qs (M++ [(k:Int)]):=by rw [qT];rfl
    have eN:M.length+1=(M++ [(k:Int)]).length:=by simp
    rw [eA,eN,←hst2]
    refine hK2 _ _ (k+1,v2+1,w2+1+1) hk (by simp only;omega) (Wk.trans Wk.kill2 (Wk.temps ?_))
    (simp only [ql,List.replicate,go_sem,qj,qh,qg,qi];try (repeat' first|(with_reducible refine And.intro ?_ ?_)|(apply qd;omega)|(apply qa;rfl)|exact VLe.refl _))
   |false=>
    rw [hb2]at c2 epk
    rw [epk,if_neg (by simp),List.append_nil]at hst2
    simp (disch:=omega) only [List.replicate,ql,y1,eM,Nat.mul_one,go_sem]
    repeat' first
     |((first|refine cA (c1 _) ?_ ?_|refine cG (fun e=>c1 _) ?_ ?_|refine cA (c2 _) ?_ ?_|refine cG (fun e=>c2 _) ?_ ?_|refine cU (fun _=>c1 _) ?_ ?_|refine cU (fun _=>c2 _) ?_ ?_);(next=>exact flk);simp (disch:=omega) only [ql,y1,eM,Nat.mul_one,go_sem])
     |((first|apply qc|apply qb);exact rvk;simp only [go_sem];first|exact VLe.refl _|apply qd|apply qa|apply qe|skip)
     |with_reducible first|refine And.intro ?_ ?_|intro _
    all_goals try exact clz
    refine hK2 _ _ (k+1,v2,w2) hk (by simp only;omega) ?_
    simp only [hst2]
    refine Wk.temps ?_
    (simp only [ql,List.replicate,go_sem,qj,qh,qg,qi];try (repeat' first|(with_reducible refine And.intro ?_ ?_)|(apply qd;omega)|(apply qa;rfl)|exact VLe.refl _))
 have y1:((k:Int)<64)=False:=eq_false (by omega)
 obtain rfl:k=64:=by omega
 rw [eM]
 simp (disch:=omega) only [List.replicate,ql,y1,eM,go_sem]
 repeat' first
  |((first|apply qc|apply qb);exact rvk;simp only [go_sem];first|exact VLe.refl _|apply qd|apply qa|apply qe|skip)
  |with_reducible first|refine And.intro ?_ ?_|intro _
 all_goals try exact clz
 rw [if_pos (by omega)]
 refine qV ⟨zS _ (fun n=>rfl) rfl,VLe.refl _,trivial⟩
end RC
end
section
open Go Go.Proofs AF HY LN
namespace RC
set_option maxHeartbeats 4000000
def qfI (a b:List Int) (i:Nat):List Int:=(a.take i).filter fun x=>decide (x∈b)
theorem qjz {a b:List Int} {i:Nat} (hi:i<a.length):qfI a b (i+1)=qfI a b i++if decide (a.getD i 0∈b)=true then [a.getD i 0] else []:=by
 unfold qfI
 rw [List.take_add_one,qU hi,gdqA,qU hi,List.filter_append]
 congr 1
 show List.filter _ [a[i]]=if decide (a[i]∈b)=true then [a[i]] else []
 rw [List.filter_cons]
 split<;>rfl
theorem qm5 (a b:List Int) (i:Nat):(qfI a b i).length≤i:=by
 unfold qfI
 have h1:=List.length_filter_le (fun x=>decide (x∈b)) (a.take i)
 have h2:=List.length_take_le i a
 omega
theorem qzO (a b:List Int) (h:List AObj) (ha:a.length≤1000000) (hb:b.length≤1000000000) (sa:qad 64 a=0) (sb:qad 64 b=0):
  qm Tryz.prog 70 [ql a,ql b] h (.tup [ql (qfI a b a.length),.int .i64 0]) h:=by
 have c0:=fun h=>qsZ a b h (by omega) hb sa sb
 unfold ql at c0
 refine acO qxy ?_
 simp (disch:=omega) only [qyH,List.replicate,ql,go_sem]
 repeat' first
  |((first|refine cA (c0 _) ?_ ?_|refine cG (fun e=>c0 _) ?_ ?_|refine cU (fun _=>c0 _) ?_ ?_);(next=>exact flk);simp (disch:=omega) only [ql,go_sem])
  |((first|apply qc|apply qb);exact rvk;simp only [go_sem];first|exact VLe.refl _|apply qd|apply qa|apply qe|skip)
  |with_reducible first|refine And.intro ?_ ?_|intro _
 all_goals try exact clz
 have eM2:zk [AV.int .i64 0] 0=qs (qfI a b 0):=rfl
 rw [eM2]
 refine qn (T:=fun i:Nat×Nat×Nat=>qI 32 [(0,ql a),(1,ql b),(6,.osl (h.length+1) i.2.1 1 0 (qfI a b i.1).length),(7,.int .i64 i.1)]) (H:=fun i=>h++ [.emp 1,.mem i.2.1 3 (qs (qfI a b i.1)),.emp i.2.2,.emp 0])
  (inv:=fun i=>i.1≤a.length) (m:=fun i=>a.length-i.1) (0,1,0) (Nat.zero_le _) (Wk.temps ?_) ?_
 ·(simp only [ql,qfI,List.take_zero,List.filter_nil,List.length_nil,List.replicate,go_sem,qj,qh,qg,qi];try (repeat' first|(with_reducible refine And.intro ?_ ?_)|(apply qd;omega)|(apply qa;rfl)|exact VLe.refl _))
 rintro ⟨k,v2,w2⟩ j1 K2 hK2
 simp only at j1 hK2
 have hst2:= @qjz a b k
 have hln2:=qm5 a b k
 obtain ⟨M,hM⟩: ∃M,M=qfI a b k:=⟨_,rfl⟩
 have eM:=hM.symm
 have eC2:=qF M
 rw [eM]at hst2 hln2
 by_cases hk:k<a.length
 ·have y1:((k:Int)<a.length)=True:=eq_true (by omega)
  have hst2:=hst2 hk
  obtain ⟨x,hx⟩: ∃x,x=a.getD k 0:=⟨_,rfl⟩
  have ex:=hx.symm
  rw [ex]at hst2
  have c1:=fun h=>qrg b x h hb
  unfold ql at c1
  cases hb1:decide (x∈b)with
  |true=>
   rw [hb1]at c1 hst2
   rw [if_pos rfl]at hst2
   have eT2:List.take M.length (qs M)=qs M:=List.take_of_length_le (by omega)
   simp (disch:=omega) only [List.replicate,ql,y1,eM,ex,Nat.mul_one,go_sem]
   repeat' first
    |((first|refine cA (c1 _) ?_ ?_|refine cG (fun e=>c1 _) ?_ ?_|refine cU (fun _=>c1 _) ?_ ?_);(next=>exact flk);simp (disch:=omega) only [ql,y1,eM,ex,eC2,eT2,Nat.mul_one,go_sem])
    |((first|apply qc|apply qb);exact rvk;simp only [go_sem];first|exact VLe.refl _|apply qd|apply qa|apply qe|skip)
    |with_reducible first|refine And.intro ?_ ?_|intro _
   all_goals try exact clz
   have eA:qs M++ [AV.int .i64 x]=qs (M++ [x]):=by rw [qT];rfl
   have eN:M.length+1=(M++ [x]).length:=by simp
   rw [eA,eN,←hst2]
   refine hK2 _ _ (k+1,v2+1,w2+1+1) hk (by simp only;omega) (Wk.trans Wk.kill2 (Wk.temps ?_))
   (simp only [ql,List.replicate,go_sem,qj,qh,qg,qi];try (repeat' first|(with_reducible refine And.intro ?_ ?_)|(apply qd;omega)|(apply qa;rfl)|exact VLe.refl _))
  |false=>
   rw [hb1]at c1 hst2
   rw [if_neg (by simp),List.append_nil]at hst2
   simp (disch:=omega) only [List.replicate,ql,y1,eM,ex,Nat.mul_one,go_sem]
   repeat' first
    |((first|refine cA (c1 _) ?_ ?_|refine cG (fun e=>c1 _) ?_ ?_|refine cU (fun _=>c1 _) ?_ ?_);(next=>exact flk);simp (disch:=omega) only [ql,y1,eM,ex,Nat.mul_one,go_sem])
    |((first|apply qc|apply qb);exact rvk;simp only [go_sem];first|exact VLe.refl _|apply qd|apply qa|apply qe|skip)
    |with_reducible first|refine And.intro ?_ ?_|intro _
   all_goals try exact clz
   refine hK2 _ _ (k+1,v2,w2) hk (by simp only;omega) ?_
   simp only [hst2]
   refine Wk.temps ?_
   (simp only [ql,List.replicate,go_sem,qj,qh,qg,qi];try (repeat' first|(with_reducible refine And.intro ?_ ?_)|(apply qd;omega)|(apply qa;rfl)|exact VLe.refl _))
 have y1:((k:Int)<a.length)=False:=eq_false (by omega)
 obtain rfl:k=a.length:=by omega
 rw [eM]
 simp (disch:=omega) only [List.replicate,ql,y1,eM,go_sem]
 repeat' first
  |((first|apply qc|apply qb);exact rvk;simp only [go_sem];first|exact VLe.refl _|apply qd|apply qa|apply qe|skip)
  |with_reducible first|refine And.intro ?_ ?_|intro _
 all_goals try exact clz
 rw [if_pos (by omega)]
 refine qV ⟨zS _ (fun n=>rfl) rfl,VLe.refl _,trivial⟩
theorem qqW (a b:List Int):decide (0<(qfI a b a.length).length)=a.any fun x=>decide (x∈b):=by
 unfold qfI
 rw [List.take_length]
 cases h:a.any fun x=>decide (x∈b)with
 |true=>
  obtain ⟨x,h1,h2⟩:=List.any_eq_true.1 h
  exact decide_eq_true (List.length_pos_of_mem (List.mem_filter.2 ⟨h1,h2⟩))
 |false=>
  refine decide_eq_false ?_
  rw [List.filter_eq_nil_iff.2 fun x hx=>by simpa using List.any_eq_false.1 h x hx]
  simp
theorem kO {p:Nat→Bool} {n:Nat} {x:Int}:x∈qS p n↔ ∃k:Nat,k<n∧p k=true∧x=k:=by
 unfold qS
 constructor
 ·intro h
  obtain ⟨k,hk,rfl⟩:=List.mem_map.1 h
  obtain ⟨h1,h2⟩:=List.mem_filter.1 hk
  exact ⟨k,List.mem_range.1 h1,h2,rfl⟩
 ·rintro ⟨k,h1,h2,rfl⟩
  exact List.mem_map.2 ⟨k,List.mem_filter.2 ⟨List.mem_range.2 h1,h2⟩,rfl⟩
theorem qfU {p:Nat→Bool} {n:Nat} (hn:n≤64):qad 64 (qS p n)=0:=by
 unfold qad
 refine qA fun i hi=> ?_
 have hpw:(qS p n).Pairwise (· < ·):=by
  unfold qS
  rw [List.pairwise_map]
  refine List.Pairwise.imp ?_ (List.Pairwise.filter _ List.pairwise_lt_range)
  intro a b hab
  show (a:Int)<(b:Int)
  omega
 have g: ∀j (hj:j<(qS p n).length),(qS p n).getD j 0=(qS p n)[j]:=fun j hj=>by rw [gdqA,qU hj];rfl
 unfold qbq
 obtain ⟨k,h1,h2,h3⟩:=kO.1 (List.getElem_mem hi)
 rw [g i hi,if_neg (by rw [h3];omega)]
 split
 ·rename_i hc
  obtain ⟨h4,h5⟩:=hc
  rw [g (i-1) (by omega)]at h5
  have:=List.pairwise_iff_getElem.1 hpw (i-1) i (by omega) hi (by omega)
  omega
 ·rfl
end RC
end
section
open Go Go.Proofs AF HY LN
namespace RC
set_option maxHeartbeats 4000000
theorem smw (ws:List Str) (m:Nat) (k:Nat→Str) (h:List AObj) (h1:ws.length≤1000000000) (h2:m≤1000000000):
  qm Tryz.prog 85 [strs ws,.sl m (fun j=> [.str (k j)])] h (.bool (decide (ws.length=m∧ ∀i,i<ws.length→ws.getD i []=k i))) h:=by
 obtain ⟨R,hR⟩: ∃R,R=decide (ws.length=m∧ ∀i,i<ws.length→ws.getD i []=k i):=⟨_,rfl⟩
 rw [←hR]
 by_cases g:ws.length=m
 ·have k0:((ws.length:Int)=m)=True:=eq_true (by omega)
  refine acO quU ?_
  simp (disch:=omega) only [qw2,List.replicate,strs,k0,go_sem]
  repeat' first
   |((first|apply qc|apply qb);exact rvk;simp only [go_sem];first|exact VLe.refl _|apply qd|apply qa|apply qe|skip)
   |with_reducible first|refine And.intro ?_ ?_|intro _
  all_goals try exact clz
  refine qn (T:=fun i:Nat=>qI 26 [(0,strs ws),(1,.sl m (fun j=> [.str (k j)])),(5,.int .i64 i)]) (H:=fun _=>h) (inv:=fun i=>i≤ws.length∧ ∀j,j<i→ws.getD j []=k j) (m:=fun i=>ws.length-i) 0 ⟨Nat.zero_le _,fun j hj=>by omega⟩ (Wk.temps ?_) ?_
  ·(simp only [strs,List.replicate,go_sem,qj,qh,qg,qi];try (repeat' first|(with_reducible refine And.intro ?_ ?_)|(apply qd;omega)|(apply qa;rfl)|exact VLe.refl _))
  rintro i ⟨i1,i2⟩ K hK
  by_cases hi:i<ws.length
  ·have k1:((i:Int)<ws.length)=True:=eq_true (by omega)
   have k3:((i:Int)<m)=True:=eq_true (by omega)
   obtain ⟨x,hx⟩: ∃x,x=ws.getD i []:=⟨_,rfl⟩
   have ex:=hx.symm
   by_cases e:x=k i
   ·have k2:(x=k i)=True:=eq_true e
    simp (disch:=omega) only [List.replicate,strs,k1,k2,k3,ex,go_sem]
    repeat' first
     |((first|apply qc|apply qb);exact rvk;simp only [go_sem];first|exact VLe.refl _|apply qd|apply qa|apply qe|skip)
     |with_reducible first|refine And.intro ?_ ?_|intro _
    all_goals try exact clz
    refine hK _ _ (i+1) ⟨hi,fun j hj=> ?_⟩ (by omega) (Wk.temps ?_)
    ·by_cases e':j=i
     ·subst e';rw [ex];exact e
     ·exact i2 j (by omega)
    ·(simp only [strs,List.replicate,go_sem,qj,qh,qg,qi];try (repeat' first|(with_reducible refine And.intro ?_ ?_)|(apply qd;omega)|(apply qa;rfl)|exact VLe.refl _))
   ·have k2:(x=k i)=False:=eq_false e
    have hV:R=false:=by rw [hR];exact decide_eq_false fun hc=>e (by rw [←ex];exact hc.2 i hi)
    rw [hV]
    simp (disch:=omega) only [List.replicate,strs,k1,k2,k3,ex,go_sem]
    repeat' first
     |((first|apply qc|apply qb);exact rvk;simp only [go_sem];first|exact VLe.refl _|apply qd|apply qa|apply qe|skip)
     |with_reducible first|refine And.intro ?_ ?_|intro _
    all_goals try exact clz
  ·have k1:((i:Int)<ws.length)=False:=eq_false (by omega)
   have hV:R=true:=by rw [hR];exact decide_eq_true ⟨g,fun j hj=>i2 j (by omega)⟩
   rw [hV]
   simp (disch:=omega) only [List.replicate,strs,k1,go_sem]
   repeat' first
    |((first|apply qc|apply qb);exact rvk;simp only [go_sem];first|exact VLe.refl _|apply qd|apply qa|apply qe|skip)
    |with_reducible first|refine And.intro ?_ ?_|intro _
   all_goals try exact clz
 ·have k0:((ws.length:Int)=m)=False:=eq_false (by omega)
  have hV:R=false:=by rw [hR];exact decide_eq_false fun hc=>g hc.1
  rw [hV]
  refine acO quU ?_
  simp (disch:=omega) only [qw2,List.replicate,strs,k0,go_sem]
  repeat' first
   |((first|apply qc|apply qb);exact rvk;simp only [go_sem];first|exact VLe.refl _|apply qd|apply qa|apply qe|skip)
   |with_reducible first|refine And.intro ?_ ?_|intro _
  all_goals try exact clz
theorem qz1 (a b:List Str) (h:List AObj) (h1:a.length≤1000000000) (h2:b.length≤1000000000):
  qm Tryz.prog 85 [strs a,strs b] h (.bool (decide (a=b))) h:=by
 have c:=smw a b.length (fun j=>b.getD j []) h h1 h2
 have e:decide (a.length=b.length∧ ∀i,i<a.length→a.getD i []=b.getD i [])=decide (a=b):=decide_eq_decide.2 (k8 ([]:Str)).symm
 rw [e]at c
 exact c
end RC
end
section
open Go Go.Proofs AF HY LN
namespace RC
def kI (names:List Str) (gs:List Gr) (e:En):Nat→List Int×Bool
 |0=>(zz names gs e.sup,false)
 |i+1=>(qS (fun k=>decide ((k:Int)∈(kI names gs e i).1)||decide ((k:Int)∈zz names gs (e.vars.getD i default).sigla)) 64,(kI names gs e i).2||(kI names gs e i).1.any fun x=>decide (x∈zz names gs (e.vars.getD i default).sigla))
theorem jR (names:List Str) (gs:List Gr) (e:En) (i:Nat):kI names gs e (i+1)=(qS (fun k=>decide ((k:Int)∈(kI names gs e i).1)||decide ((k:Int)∈zz names gs (e.vars.getD i default).sigla)) 64,(kI names gs e i).2||(kI names gs e i).1.any fun x=>decide (x∈zz names gs (e.vars.getD i default).sigla)):=rfl
theorem qap (names:List Str) (gs:List Gr) (sg:List Str):qad 64 (zz names gs sg)=0∧(zz names gs sg).length≤64:=by
 unfold zz
 split
 ·exact ⟨qfU (by omega),qX _ _⟩
 ·exact ⟨rfl,Nat.zero_le _⟩
theorem qh3 (names:List Str) (gs:List Gr) (e:En) (i:Nat):qad 64 (kI names gs e i).1=0∧(kI names gs e i).1.length≤64:=by
 cases i with
 |zero=>exact qap _ _ _
 |succ i=>rw [jR];exact ⟨qfU (by omega),qX _ _⟩
theorem qmx (L:List Int): ∀(C:List Int) (j:Nat),L.Nodup→(∀x∈L,0≤x∧x<C.length)→j<C.length→(qbL C L).getD j 0=C.getD j 0+if (j:Int)∈L then 1 else 0:=by
 induction L with
 |nil=>intro C j _ _ _;simp [qbL]
 |cons n L ih=>
  intro C j hn hL hj
  obtain ⟨h1,h2⟩:=List.nodup_cons.1 hn
  have hb:=hL n (by simp)
  show (qbL (C.set n.toNat (C.getD n.toNat 0+1)) L).getD j 0=_
  rw [ih _ j h2 (fun x hx=>by rw [List.length_set];exact hL x (by simp [hx])) (by rw [List.length_set];exact hj)]
  by_cases e:(j:Int)=n
  ·have e2:n.toNat=j:=by omega
   have e3: ¬(j:Int)∈L:=by rw [e];exact h1
   rw [if_neg e3,if_pos (by rw [e];simp),e2]
   have:(C.set j (C.getD j 0+1)).getD j 0=C.getD j 0+1:=by
    rw [gdqA,List.getElem?_set_self hj];rfl
   rw [this]
   omega
  ·have e2: ¬n.toNat=j:=by omega
   have:(C.set n.toNat (C.getD n.toNat 0+1)).getD j 0=C.getD j 0:=by
    rw [gdqA,List.getElem?_set_ne e2,←gdqA]
   rw [this]
   congr 1
   simp [e]
theorem kP (p:Nat→Bool) (n:Nat):(qS p n).Nodup:=by
 unfold qS
 rw [List.Nodup,List.pairwise_map]
 refine List.Pairwise.imp ?_ (List.Pairwise.filter _ List.nodup_range)
 intro a b hab hc
 exact hab (by have hx:(a:Int)=(b:Int):=hc;omega)
theorem qcn (names:List Str) (gs:List Gr) (sg:List Str):(zz names gs sg).Nodup:=by
 unfold zz
 split
 ·exact kP _ _
 ·exact List.nodup_nil
structure qwq (A:List Int) (B:Bool) (C:List Int):Prop where
 len:C.length=32
 rng: ∀x∈A,0≤x∧x<32
 mem: ∀k:Nat,k<32→((k:Int)∈A↔1≤C.getD k 0)
 nn: ∀k:Nat,k<32→0≤C.getD k 0
 tw:B=true↔ ∃k:Nat,k<32∧1<C.getD k 0
theorem qfO {A O A' C:List Int} {B:Bool} (h:qwq A B C) (ho:O.Nodup) (hr: ∀x∈O,0≤x∧x<32) (hA: ∀x,x∈A'↔x∈A∨x∈O):qwq A' (B||A.any fun x=>decide (x∈O)) (qbL C O):=by
 have hl:=h.len
 have hg:=fun (k:Nat) (hk:k<32)=>qmx O C k ho (fun x hx=>by have:=hr x hx;omega) (by omega)
 refine ⟨by rw [qbw,hl],fun x hx=> ?_,fun k hk=> ?_,fun k hk=> ?_,?_⟩
 ·rcases (hA x).1 hx with hx|hx
  ·exact h.rng x hx
  ·exact hr x hx
 ·rw [hA,h.mem k hk,hg k hk]
  have:=h.nn k hk
  by_cases e:(k:Int)∈O
  ·rw [if_pos e]
   exact ⟨fun _=>by omega,fun _=> .inr e⟩
  ·rw [if_neg e]
   constructor
   ·rintro (h1|h1)
    ·omega
    ·exact absurd h1 e
   ·intro h1;exact .inl (by omega)
 ·rw [hg k hk]
  have:=h.nn k hk
  split<;>omega
 ·rw [Bool.or_eq_true,h.tw,List.any_eq_true]
  constructor
  ·rintro (⟨k,hk,h1⟩|⟨x,hx,h1⟩)
   ·refine ⟨k,hk,?_⟩
    rw [hg k hk]
    split<;>omega
   ·have h1:=of_decide_eq_true h1
    have hx2:=h.rng x hx
    have e:((x.toNat:Nat):Int)=x:=by omega
    refine ⟨x.toNat,by omega,?_⟩
    rw [hg _ (by omega),e,if_pos h1]
    have:=(h.mem x.toNat (by omega)).1 (by rw [e];exact hx)
    omega
  ·rintro ⟨k,hk,h1⟩
   rw [hg k hk]at h1
   by_cases e:(k:Int)∈O
   ·rw [if_pos e]at h1
    exact .inr ⟨(k:Int),(h.mem k hk).2 (by omega),decide_eq_true e⟩
   ·rw [if_neg e]at h1
    exact .inl ⟨k,hk,by omega⟩
theorem qrr:qwq [] false (List.replicate 32 0):=by
 have g: ∀k:Nat,k<32→(List.replicate 32 (0:Int)).getD k 0=0:=fun k hk=>by
  rw [gdqA,List.getElem?_replicate,if_pos hk];rfl
 refine ⟨by simp,fun x hx=>by simp at hx,fun k hk=> ?_,fun k hk=> ?_,?_⟩
 ·rw [g k hk];simp
 ·rw [g k hk];omega
 ·constructor
  ·intro h;cases h
  ·rintro ⟨k,hk,h1⟩;rw [g k hk]at h1;omega
theorem qh1 (names:List Str) (gs:List Gr) (e:En): ∀i,qwq (kI names gs e i).1 (kI names gs e i).2 (cnt names gs e i):=by
 have hO:=fun sg=>zN (@qfH names gs sg)
 intro i
 induction i with
 |zero=>
  have:=qfO (A':=zz names gs e.sup) qrr (qcn names gs e.sup) (hO e.sup) (fun x=>by simp)
  exact this
 |succ i ih=>
  rw [jR]
  unfold cnt
  refine qfO ih (qcn _ _ _) (hO _) (fun x=> ?_)
  rw [kO]
  constructor
  ·rintro ⟨k,hk,h1,rfl⟩
   simpa using h1
  ·intro hx
   have hb:0≤x∧x<32:=by
    rcases hx with hx|hx
    ·exact ih.rng x hx
    ·exact hO _ x hx
   have e:((x.toNat:Nat):Int)=x:=by omega
   refine ⟨x.toNat,by omega,?_,e.symm⟩
   simp only [e]
   simpa using hx
theorem qaj (names:List Str) (gs:List Gr) (e:En) (i:Nat):qhG (cnt names gs e i)=(kI names gs e i).2:=by
 have h:=qh1 names gs e i
 unfold qhG
 rw [h.len,Bool.eq_iff_iff,h.tw,za]
 simp only [decide_eq_true_eq]
end RC
end
section
open Go Go.Proofs AF HY LN
namespace RC
set_option maxHeartbeats 16000000
theorem qgl (s:Str):(qbt s=true∧wE s=0)∨(qbt s=false∧wE s=11):=by
 unfold wE
 cases qbt s with
 |true=>exact .inl ⟨rfl,rfl⟩
 |false=>exact .inr ⟨rfl,rfl⟩
theorem qzr (names:List Str) (gs:List Gr) (t:List Str) (e:En) (h:List AObj) (hz:Szs names gs) (ht:TSz t) (he:ESz e) (hgm: ∀i,(gs.getD i default).mem.length≤1000) (hsg: ∀i,(e.vars.getD i default).sigla.length≤1000000) (hsp:e.sup.length≤1000000) (hp:kh SG h):
  qm Tryz.prog 50 [strs names,qt gs,strs t,.agg (enC e)] h (.int .i64 (kj names gs t e)) h:=by
 have c49:=fun h=>sgR names gs h hz
 have t1:=ht.n
 obtain ⟨R,hR⟩: ∃R,R=kj names gs t e:=⟨_,rfl⟩
 rw [←hR]
 unfold kj at hR
 obtain ⟨s,hs⟩: ∃s,s=sgE names gs:=⟨_,rfl⟩
 rw [←hs]at c49 hR
 by_cases g0:s≠0
 ·have k0:(s=0)=False:=eq_false g0
  rw [if_pos g0]at hR
  rw [hR]
  refine acO qq6 ?_
  simp (disch:=omega) only [qww,List.replicate,enC,go_sem]
  repeat' first
   |((first|refine cA (c49 _) ?_ ?_|refine cG (fun e=>c49 _) ?_ ?_|refine cU (fun _=>c49 _) ?_ ?_);(next=>exact flk);simp (disch:=omega) only [k0,go_sem])
   |((first|apply qc|apply qb);exact rvk;simp only [go_sem];first|exact VLe.refl _|apply qd|apply qa|apply qe|skip)
   |with_reducible first|refine And.intro ?_ ?_|intro _
  all_goals try exact clz
 have g0:s=0:=Classical.not_not.1 g0
 have k0:(s=0)=True:=eq_true g0
 rw [if_neg (fun hc=>hc g0)]at hR
 unfold strs at c49
 by_cases g1:4096<t.length
 ·have k1:((4096:Int)<t.length)=True:=eq_true (by omega)
  rw [if_pos g1]at hR
  rw [hR]
  refine acO qq6 ?_
  simp (disch:=omega) only [qww,List.replicate,enC,strs,go_sem]
  repeat' first
   |((first|refine cA (c49 _) ?_ ?_|refine cG (fun e=>c49 _) ?_ ?_|refine cU (fun _=>c49 _) ?_ ?_);(next=>exact flk);simp (disch:=omega) only [k0,k1,strs,go_sem])
   |((first|apply qc|apply qb);exact rvk;simp only [go_sem];first|exact VLe.refl _|apply qd|apply qa|apply qe|skip)
   |with_reducible first|refine And.intro ?_ ?_|intro _
  all_goals try exact clz
 have k1:((4096:Int)<t.length)=False:=eq_false (by omega)
 rw [if_neg g1]at hR
 refine acO qq6 ?_
 simp (disch:=omega) only [qww,List.replicate,enC,strs,qB,go_sem]
 repeat' first
  |((first|refine cA (c49 _) ?_ ?_|refine cG (fun e=>c49 _) ?_ ?_|refine cU (fun _=>c49 _) ?_ ?_);(next=>exact flk);simp (disch:=omega) only [k0,k1,strs,qB,go_sem])
  |((first|apply qc|apply qb);exact rvk;simp only [go_sem];first|exact VLe.refl _|apply qd|apply qa|apply qe|skip)
  |with_reducible first|refine And.intro ?_ ?_|intro _
 all_goals try exact clz
 obtain ⟨E1,hE1⟩: ∃E1,E1=AObj.mem 1 49 [.int .i64 e.layer,.int .i64 e.frm,.int .i64 e.to,.bool e.pos,strs e.sup,qB e.vars]:=⟨_,rfl⟩
 refine qn (T:=fun i:Nat=>qI 186 [(0,strs names),(1,qt gs),(2,strs t),(7,.op h.length 1 0),(9,.int .i64 i)])
  (H:=fun i=>h++ [.mem 1 49 [.int .i64 e.layer,.int .i64 e.frm,.int .i64 e.to,.bool e.pos,strs e.sup,qB e.vars],.emp 0])
  (inv:=fun i=>i≤t.length∧ ∀j,j<i→wE (t.getD j [])=0) (m:=fun i=>t.length-i) 0 ⟨Nat.zero_le _,fun j hj=>absurd hj (Nat.not_lt_zero j)⟩ (Wk.temps ?_) ?_
 ·(simp only [strs,qB,List.replicate,go_sem,qj,qh,qg,qi];try (repeat' first|(with_reducible refine And.intro ?_ ?_)|(apply qd;omega)|(apply qa;rfl)|exact VLe.refl _))
 rintro i ⟨i1,i2⟩ K hK
 by_cases hi:i<t.length
 ·have r1:((i:Int)<t.length)=True:=eq_true (by omega)
  have hE:=qP (f:=fun i=>wE (t.getD i [])) hi i2
  have c84:=fun l=>qpY (t.getD i []) (h++l) (ht.s i) (hp.app l)
  have hw:=qgl (t.getD i [])
  obtain ⟨x,hx⟩: ∃x,x=t.getD i []:=⟨_,rfl⟩
  have ex:=hx.symm
  simp only [ex]at hE c84 hw
  rcases hw with ⟨w1,w2⟩|⟨w1,w2⟩
  ·rw [w1]at c84
   simp (disch:=omega) only [List.replicate,strs,qB,r1,ex,go_sem]
   repeat' first
    |((first|refine cA (c84 _) ?_ ?_|refine cG (fun e=>c84 _) ?_ ?_|refine cU (fun _=>c84 _) ?_ ?_);(next=>exact flk);simp (disch:=omega) only [strs,qB,r1,ex,go_sem])
    |((first|apply qc|apply qb);exact rvk;simp only [go_sem];first|exact VLe.refl _|apply qd|apply qa|apply qe|skip)
    |with_reducible first|refine And.intro ?_ ?_|intro _
   all_goals try exact clz
   refine hK _ _ (i+1) ⟨hi,fun j hj=> ?_⟩ (by omega) (Wk.temps ?_)
   ·by_cases e':j=i
    ·subst e';rw [ex];exact w2
    ·exact i2 j (by omega)
   ·(simp only [strs,qB,List.replicate,go_sem,qj,qh,qg,qi];try (repeat' first|(with_reducible refine And.intro ?_ ?_)|(apply qd;omega)|(apply qa;rfl)|exact VLe.refl _))
  ·rw [w1]at c84
   have hV:R=11:=by
    rw [hR,if_pos (by unfold jz;rw [hE (by rw [w2];decide),w2];decide)]
   rw [hV]
   simp (disch:=omega) only [List.replicate,strs,qB,r1,ex,go_sem]
   repeat' first
    |((first|refine cA (c84 _) ?_ ?_|refine cG (fun e=>c84 _) ?_ ?_|refine cU (fun _=>c84 _) ?_ ?_);(next=>exact flk);simp (disch:=omega) only [strs,qB,r1,ex,go_sem])
    |((first|apply qc|apply qb);exact rvk;simp only [go_sem];first|exact VLe.refl _|apply qd|apply qa|apply qe|skip)
    |with_reducible first|refine And.intro ?_ ?_|intro _
   all_goals try exact clz
 have r1:((i:Int)<t.length)=False:=eq_false (by omega)
 have hw0:jz t=0:=qA (f:=fun i=>wE (t.getD i [])) (fun j hj=>i2 j (by omega))
 rw [if_neg (fun hc=>hc hw0)]at hR
 by_cases g3:qhZ t e
 ·rw [if_pos g3]at hR
  rw [hR]
  by_cases a1:e.layer<0
  ·have q1:(e.layer<0)=True:=eq_true a1
   simp (disch:=omega) only [List.replicate,strs,qB,r1,go_sem]
   repeat' first
    |((first|apply qc|apply qb);exact rvk;simp only [go_sem];first|exact VLe.refl _|apply qd|apply qa|apply qe|skip)
    |with_reducible first|refine And.intro ?_ ?_|intro _
   all_goals try exact clz
  have q1:(e.layer<0)=False:=eq_false a1
  by_cases a2:15<e.layer
  ·have q2:(15<e.layer)=True:=eq_true a2
   simp (disch:=omega) only [List.replicate,strs,qB,r1,go_sem]
   repeat' first
    |((first|apply qc|apply qb);exact rvk;simp only [go_sem];first|exact VLe.refl _|apply qd|apply qa|apply qe|skip)
    |with_reducible first|refine And.intro ?_ ?_|intro _
   all_goals try exact clz
  have q2:(15<e.layer)=False:=eq_false a2
  by_cases a3:e.frm<0
  ·have q3:(e.frm<0)=True:=eq_true a3
   simp (disch:=omega) only [List.replicate,strs,qB,r1,go_sem]
   repeat' first
    |((first|apply qc|apply qb);exact rvk;simp only [go_sem];first|exact VLe.refl _|apply qd|apply qa|apply qe|skip)
    |with_reducible first|refine And.intro ?_ ?_|intro _
   all_goals try exact clz
  have q3:(e.frm<0)=False:=eq_false a3
  by_cases a4:e.to<e.frm
  ·have q4:(e.to<e.frm)=True:=eq_true a4
   simp (disch:=omega) only [List.replicate,strs,qB,r1,go_sem]
   repeat' first
    |((first|apply qc|apply qb);exact rvk;simp only [go_sem];first|exact VLe.refl _|apply qd|apply qa|apply qe|skip)
    |with_reducible first|refine And.intro ?_ ?_|intro _
   all_goals try exact clz
  have q4:(e.to<e.frm)=False:=eq_false a4
  have q5':(t.length:Int)<e.to:=by unfold qhZ at g3;omega
  have q5:((t.length:Int)<e.to)=True:=eq_true q5'
  simp (disch:=omega) only [List.replicate,strs,qB,r1,go_sem]
  repeat' first
   |((first|apply qc|apply qb);exact rvk;simp only [go_sem];first|exact VLe.refl _|apply qd|apply qa|apply qe|skip)
   |with_reducible first|refine And.intro ?_ ?_|intro _
  all_goals try exact clz
  all_goals (exfalso;omega)
 rw [if_neg g3]at hR
 unfold qhZ at g3
 have q1:(e.layer<0)=False:=eq_false (by omega)
 have q2:(15<e.layer)=False:=eq_false (by omega)
 have q3:(e.frm<0)=False:=eq_false (by omega)
 have q4:(e.to<e.frm)=False:=eq_false (by omega)
 have q5:((t.length:Int)<e.to)=False:=eq_false (by omega)
 by_cases g4:0<e.sup.length∧e.pos=false
 ·have q6:((0:Int)<e.sup.length)=True:=eq_true (by omega)
  have q7:=g4.2
  rw [if_pos g4]at hR
  rw [hR]
  simp (disch:=omega) only [List.replicate,strs,qB,r1,q7,go_sem]
  repeat' first
   |((first|apply qc|apply qb);exact rvk;simp only [go_sem];first|exact VLe.refl _|apply qd|apply qa|apply qe|skip)
   |with_reducible first|refine And.intro ?_ ?_|intro _
  all_goals try exact clz
  all_goals (exfalso;omega)
 rw [if_neg g4]at hR
 by_cases g5:e.vars.length=0
 ·have q8:((e.vars.length:Int)=0)=True:=eq_true (by omega)
  rw [if_pos g5]at hR
  rw [hR]
  by_cases g6:0<e.sup.length
  ·have q6:((0:Int)<e.sup.length)=True:=eq_true (by omega)
   have q7:e.pos=true:=by
    cases hq:e.pos with
    |true=>rfl
    |false=>exact absurd ⟨g6,hq⟩ g4
   simp (disch:=omega) only [List.replicate,strs,qB,r1,q7,go_sem]
   repeat' first
    |((first|apply qc|apply qb);exact rvk;simp only [go_sem];first|exact VLe.refl _|apply qd|apply qa|apply qe|skip)
    |with_reducible first|refine And.intro ?_ ?_|intro _
   all_goals try exact clz
   all_goals (exfalso;omega)
  ·have q6:((0:Int)<e.sup.length)=False:=eq_false (by omega)
   simp (disch:=omega) only [List.replicate,strs,qB,r1,go_sem]
   repeat' first
    |((first|apply qc|apply qb);exact rvk;simp only [go_sem];first|exact VLe.refl _|apply qd|apply qa|apply qe|skip)
    |with_reducible first|refine And.intro ?_ ?_|intro _
   all_goals try exact clz
   all_goals (exfalso;omega)
 have q8:((e.vars.length:Int)=0)=False:=eq_false (by omega)
 rw [if_neg g5]at hR
 simp (disch:=omega) only [List.replicate,strs,qB,r1,go_sem]
 repeat' first
  |((first|apply qc|apply qb);exact rvk;simp only [go_sem];first|exact VLe.refl _|apply qd|apply qa|apply qe|skip)
  |with_reducible first|refine And.intro ?_ ?_|intro _
 all_goals try exact clz
 ·rename_i hx;exact absurd ⟨by omega,hx.2⟩ g4
 obtain ⟨fr,hfr⟩: ∃fr:Nat,e.frm=fr:=⟨e.frm.toNat,by omega⟩
 obtain ⟨tt,htt⟩: ∃tt:Nat,e.to=tt:=⟨e.to.toNat,by omega⟩
 refine qn (T:=fun i:Nat×Nat=>qI 186 [(0,strs names),(1,qt gs),(2,strs t),(7,.op h.length 1 0),(10,.int .i64 i.1)])
  (H:=fun i=>h++ [.mem 1 49 [.int .i64 e.layer,.int .i64 e.frm,.int .i64 e.to,.bool e.pos,strs e.sup,qB e.vars],.emp i.2])
  (inv:=fun i=>i.1≤e.vars.length∧ ∀j,j<i.1→qbs t e j=0) (m:=fun i=>e.vars.length-i.1) (0,0) ⟨Nat.zero_le _,fun j hj=>absurd hj (Nat.not_lt_zero j)⟩ (Wk.temps ?_) ?_
 ·(simp only [strs,qB,List.replicate,go_sem,qj,qh,qg,qi];try (repeat' first|(with_reducible refine And.intro ?_ ?_)|(apply qd;omega)|(apply qa;rfl)|exact VLe.refl _))
 clear hK
 rintro ⟨n,v⟩ ⟨n1,n2⟩ K1 hK1
 simp only at n1 n2 hK1
 have z2:=he.vs
 by_cases hn:n<e.vars.length
 ·have r2:((n:Int)<e.vars.length)=True:=eq_true (by omega)
  have r3:(0≤(fr:Int))=True:=eq_true (by omega)
  have r4:((fr:Int)≤tt)=True:=eq_true (by omega)
  have r5:((tt:Int)≤t.length)=True:=eq_true (by omega)
  have hE:=qP (f:=qbs t e) hn n2
  have hv:qbs t e n=if jz (e.vars.getD n default).words≠0 then 11 else if (e.vars.getD n default).words=jB t e.frm.toNat e.to.toNat then 9 else
   if jb (fun j=>decide ((e.vars.getD n default).words=(e.vars.getD j default).words)) n=true then 7 else if (e.vars.getD n default).sigla.length=0 then 5 else 0:=rfl
  have zw:=he.w n
  have zv:=fun j=>(he.w j).n
  obtain ⟨x,hx⟩: ∃x,x=e.vars.getD n default:=⟨_,rfl⟩
  have ex:=hx.symm
  simp only [ex]at hv zw
  rw [hfr,htt,Int.toNat_natCast,Int.toNat_natCast]at hv
  have zn:=zw.n
  simp (disch:=omega) only [List.replicate,strs,qB,vaC,r2,ex,go_sem]
  repeat' first
   |((first|apply qc|apply qb);exact rvk;simp only [go_sem];first|exact VLe.refl _|apply qd|apply qa|apply qe|skip)
   |with_reducible first|refine And.intro ?_ ?_|intro _
  all_goals try exact clz
  refine qn (T:=fun i:Nat=>qI 186 [(0,strs names),(1,qt gs),(2,strs t),(7,.op h.length 1 0),(10,.int .i64 n),(11,.op (h.length+1) (v+1) 0),(12,.int .i64 i)])
   (H:=fun _=>h++ [.mem 1 49 [.int .i64 e.layer,.int .i64 e.frm,.int .i64 e.to,.bool e.pos,strs e.sup,qB e.vars],.mem (v+1) 51 [strs x.words,strs x.sigla]])
   (inv:=fun i=>i≤x.words.length∧ ∀j,j<i→wE (x.words.getD j [])=0) (m:=fun i=>x.words.length-i) 0 ⟨Nat.zero_le _,fun j hj=>absurd hj (Nat.not_lt_zero j)⟩ (Wk.temps ?_) ?_
  ·(simp only [strs,qB,List.replicate,go_sem,qj,qh,qg,qi];try (repeat' first|(with_reducible refine And.intro ?_ ?_)|(apply qd;omega)|(apply qa;rfl)|exact VLe.refl _))
  rintro k ⟨m1,m2⟩ K2 hK2
  by_cases hk:k<x.words.length
  ·have s1:((k:Int)<x.words.length)=True:=eq_true (by omega)
   have hE2:=qP (f:=fun i=>wE (x.words.getD i [])) hk m2
   have c84:=fun l=>qpY (x.words.getD k []) (h++l) (zw.s k) (hp.app l)
   have hw:=qgl (x.words.getD k [])
   obtain ⟨y,hy⟩: ∃y,y=x.words.getD k []:=⟨_,rfl⟩
   have ey:=hy.symm
   simp only [ey]at hE2 c84 hw
   rcases hw with ⟨w1,w2⟩|⟨w1,w2⟩
   ·rw [w1]at c84
    simp (disch:=omega) only [List.replicate,strs,qB,vaC,s1,ey,go_sem]
    repeat' first
     |((first|refine cA (c84 _) ?_ ?_|refine cG (fun e=>c84 _) ?_ ?_|refine cU (fun _=>c84 _) ?_ ?_);(next=>exact flk);simp (disch:=omega) only [strs,qB,vaC,s1,ey,go_sem])
     |((first|apply qc|apply qb);exact rvk;simp only [go_sem];first|exact VLe.refl _|apply qd|apply qa|apply qe|skip)
     |with_reducible first|refine And.intro ?_ ?_|intro _
    all_goals try exact clz
    refine hK2 _ _ (k+1) ⟨hk,fun j hj=> ?_⟩ (by omega) (Wk.temps ?_)
    ·by_cases e':j=k
     ·subst e';rw [ey];exact w2
     ·exact m2 j (by omega)
    ·(simp only [strs,qB,List.replicate,go_sem,qj,qh,qg,qi];try (repeat' first|(with_reducible refine And.intro ?_ ?_)|(apply qd;omega)|(apply qa;rfl)|exact VLe.refl _))
   ·rw [w1]at c84
    rw [if_pos (by unfold jz;rw [hE2 (by rw [w2];decide),w2];decide)]at hv
    have hE:=hE (by rw [hv];decide)
    rw [hE,hv,if_pos (by decide)]at hR
    rw [hR]
    simp (disch:=omega) only [List.replicate,strs,qB,vaC,s1,ey,go_sem]
    repeat' first
     |((first|refine cA (c84 _) ?_ ?_|refine cG (fun e=>c84 _) ?_ ?_|refine cU (fun _=>c84 _) ?_ ?_);(next=>exact flk);simp (disch:=omega) only [strs,qB,vaC,s1,ey,go_sem])
     |((first|apply qc|apply qb);exact rvk;simp only [go_sem];first|exact VLe.refl _|apply qd|apply qa|apply qe|skip)
     |with_reducible first|refine And.intro ?_ ?_|intro _
    all_goals try exact clz
  have s1:((k:Int)<x.words.length)=False:=eq_false (by omega)
  have hw0:jz x.words=0:=qA (f:=fun i=>wE (x.words.getD i [])) (fun j hj=>m2 j (by omega))
  rw [if_neg (fun hc=>hc hw0)]at hv
  have c85:=fun h=>smw x.words (tt-fr) (fun j=>t.getD (fr+j) []) h zw.n (by omega)
  rw [qf7 (by omega) (by omega)]at c85
  unfold strs at c85
  by_cases a2:x.words=jB t fr tt
  ·rw [decide_eq_true a2]at c85
   rw [if_pos a2]at hv
   have hE:=hE (by rw [hv];decide)
   rw [hE,hv,if_pos (by decide)]at hR
   rw [hR]
   simp (disch:=omega) only [List.replicate,strs,qB,vaC,s1,hfr,htt,go_sem]
   repeat' first
    |((first|refine cA (c85 _) ?_ ?_|refine cG (fun e=>c85 _) ?_ ?_|refine cU (fun _=>c85 _) ?_ ?_);(next=>exact flk);simp (disch:=omega) only [strs,qB,vaC,s1,hfr,htt,r3,r4,r5,Nat.zero_add,go_sem])
    |((first|apply qc|apply qb);exact rvk;simp only [go_sem];first|exact VLe.refl _|apply qd|apply qa|apply qe|skip)
    |with_reducible first|refine And.intro ?_ ?_|intro _
   all_goals try exact clz
  rw [decide_eq_false a2]at c85
  rw [if_neg a2]at hv
  simp (disch:=omega) only [List.replicate,strs,qB,vaC,s1,hfr,htt,go_sem]
  repeat' first
   |((first|refine cA (c85 _) ?_ ?_|refine cG (fun e=>c85 _) ?_ ?_|refine cU (fun _=>c85 _) ?_ ?_);(next=>exact flk);simp (disch:=omega) only [strs,qB,vaC,s1,hfr,htt,r3,r4,r5,Nat.zero_add,go_sem])
   |((first|apply qc|apply qb);exact rvk;simp only [go_sem];first|exact VLe.refl _|apply qd|apply qa|apply qe|skip)
   |with_reducible first|refine And.intro ?_ ?_|intro _
  all_goals try exact clz
  simp only [hfr,htt]at hK1
  refine qn (T:=fun i:Nat=>qI 186 [(0,strs names),(1,qt gs),(2,strs t),(7,.op h.length 1 0),(10,.int .i64 n),(11,.op (h.length+1) (v+1) 0),(13,.int .i64 i)])
   (H:=fun _=>h++ [.mem 1 49 [.int .i64 e.layer,.int .i64 fr,.int .i64 tt,.bool e.pos,strs e.sup,qB e.vars],.mem (v+1) 51 [strs x.words,strs x.sigla]])
   (inv:=fun i=>i≤n∧ ∀j,j<i→decide (x.words=(e.vars.getD j default).words)=false) (m:=fun i=>n-i) 0 ⟨Nat.zero_le _,fun j hj=>absurd hj (Nat.not_lt_zero j)⟩ (Wk.temps ?_) ?_
  ·(simp only [strs,qB,List.replicate,go_sem,qj,qh,qg,qi];try (repeat' first|(with_reducible refine And.intro ?_ ?_)|(apply qd;omega)|(apply qa;rfl)|exact VLe.refl _))
  clear hK2
  rintro l ⟨l1,l2⟩ K3 hK3
  by_cases hl:l<n
  ·have s2:((l:Int)<n)=True:=eq_true (by omega)
   have s3:((l:Int)<e.vars.length)=True:=eq_true (by omega)
   have c86:=fun h=>qz1 x.words (e.vars.getD l default).words h zw.n (zv l)
   obtain ⟨y,hy⟩: ∃y,y=e.vars.getD l default:=⟨_,rfl⟩
   have ey:=hy.symm
   simp only [ey]at c86
   unfold strs at c86
   by_cases a3:x.words=y.words
   ·rw [decide_eq_true a3]at c86
    rw [if_pos (za.2 ⟨l,hl,by rw [ey];exact decide_eq_true a3⟩)]at hv
    have hE:=hE (by rw [hv];decide)
    rw [hE,hv,if_pos (by decide)]at hR
    rw [hR]
    simp (disch:=omega) only [List.replicate,strs,qB,vaC,s2,s3,ey,go_sem]
    repeat' first
     |((first|refine cA (c86 _) ?_ ?_|refine cG (fun e=>c86 _) ?_ ?_|refine cU (fun _=>c86 _) ?_ ?_);(next=>exact flk);simp (disch:=omega) only [strs,qB,vaC,s2,s3,ey,go_sem])
     |((first|apply qc|apply qb);exact rvk;simp only [go_sem];first|exact VLe.refl _|apply qd|apply qa|apply qe|skip)
     |with_reducible first|refine And.intro ?_ ?_|intro _
    all_goals try exact clz
   ·rw [decide_eq_false a3]at c86
    simp (disch:=omega) only [List.replicate,strs,qB,vaC,s2,s3,ey,go_sem]
    repeat' first
     |((first|refine cA (c86 _) ?_ ?_|refine cG (fun e=>c86 _) ?_ ?_|refine cU (fun _=>c86 _) ?_ ?_);(next=>exact flk);simp (disch:=omega) only [strs,qB,vaC,s2,s3,ey,go_sem])
     |((first|apply qc|apply qb);exact rvk;simp only [go_sem];first|exact VLe.refl _|apply qd|apply qa|apply qe|skip)
     |with_reducible first|refine And.intro ?_ ?_|intro _
    all_goals try exact clz
    refine hK3 _ _ (l+1) ⟨hl,fun j hj=> ?_⟩ (by omega) (Wk.temps ?_)
    ·by_cases e':j=l
     ·subst e';rw [ey];exact decide_eq_false a3
     ·exact l2 j (by omega)
    ·(simp only [strs,qB,List.replicate,go_sem,qj,qh,qg,qi];try (repeat' first|(with_reducible refine And.intro ?_ ?_)|(apply qd;omega)|(apply qa;rfl)|exact VLe.refl _))
  have s2:((l:Int)<n)=False:=eq_false (by omega)
  rw [if_neg (by rw [qE.2 fun j hj=>l2 j (by omega)];simp)]at hv
  by_cases a4:x.sigla.length=0
  ·have p4:((x.sigla.length:Int)=0)=True:=eq_true (by omega)
   rw [if_pos a4]at hv
   have hE:=hE (by rw [hv];decide)
   rw [hE,hv,if_pos (by decide)]at hR
   rw [hR]
   simp (disch:=omega) only [List.replicate,strs,qB,vaC,s2,go_sem]
   repeat' first
    |((first|apply qc|apply qb);exact rvk;simp only [go_sem];first|exact VLe.refl _|apply qd|apply qa|apply qe|skip)
    |with_reducible first|refine And.intro ?_ ?_|intro _
   all_goals try exact clz
  ·have p4:((x.sigla.length:Int)=0)=False:=eq_false (by omega)
   rw [if_neg a4]at hv
   simp (disch:=omega) only [List.replicate,strs,qB,vaC,s2,go_sem]
   repeat' first
    |((first|apply qc|apply qb);exact rvk;simp only [go_sem];first|exact VLe.refl _|apply qd|apply qa|apply qe|skip)
    |with_reducible first|refine And.intro ?_ ?_|intro _
   all_goals try exact clz
   refine hK1 _ _ (n+1,v+1+1) ⟨hn,fun j hj=> ?_⟩ (by simp only;omega) (Wk.trans Wk.kill1 (Wk.temps ?_))
   ·by_cases e':j=n
    ·subst e';exact hv
    ·exact n2 j (by simp only at hj;omega)
   ·(simp only [strs,qB,List.replicate,go_sem,qj,qh,qg,qi];try (repeat' first|(with_reducible refine And.intro ?_ ?_)|(apply qd;omega)|(apply qa;rfl)|exact VLe.refl _))
 have r2:((n:Int)<e.vars.length)=False:=eq_false (by omega)
 rw [if_neg (fun hc=>hc (qA (f:=qbs t e) (fun j hj=>n2 j (by omega))))]at hR
 have c28:=fun h=>qqT names gs e.sup h hz hsp hgm
 obtain ⟨y,hy⟩: ∃y,y=jo names gs e.sup:=⟨_,rfl⟩
 rw [←hy]at hR c28
 by_cases b1:y≠0
 ·have p1:(y=0)=False:=eq_false b1
  rw [if_pos b1]at hR
  rw [hR]
  unfold strs qt ql at c28
  simp (disch:=omega) only [List.replicate,strs,qt,qB,r2,go_sem]
  repeat' first
   |((first|refine cA (c28 _) ?_ ?_|refine cG (fun e=>c28 _) ?_ ?_|refine cU (fun _=>c28 _) ?_ ?_);(next=>exact flk);simp (disch:=omega) only [strs,qt,qB,r2,p1,go_sem])
   |((first|apply qc|apply qb);exact rvk;simp only [go_sem];first|exact VLe.refl _|apply qd|apply qa|apply qe|skip)
   |with_reducible first|refine And.intro ?_ ?_|intro _
  all_goals try exact clz
 have b1:y=0:=Classical.not_not.1 b1
 have p1:(y=0)=True:=eq_true b1
 rw [if_neg (fun hc=>hc b1)]at hR
 unfold strs qt ql at c28
 simp (disch:=omega) only [List.replicate,strs,qt,qB,r2,go_sem]
 repeat' first
  |((first|refine cA (c28 _) ?_ ?_|refine cG (fun e=>c28 _) ?_ ?_|refine cU (fun _=>c28 _) ?_ ?_);(next=>exact flk);simp (disch:=omega) only [strs,qt,qB,r2,p1,go_sem])
  |((first|apply qc|apply qb);exact rvk;simp only [go_sem];first|exact VLe.refl _|apply qd|apply qa|apply qe|skip)
  |with_reducible first|refine And.intro ?_ ?_|intro _
 all_goals try exact clz
 have a0:(kI names gs e 0).1=zz names gs e.sup:=rfl
 have a1:(kI names gs e 0).2=false:=rfl
 refine qn (T:=fun i:Nat=>qI 186 [(0,strs names),(1,qt gs),(7,.op h.length 1 0),(14,ql (kI names gs e i).1),(16,.bool (kI names gs e i).2),(17,.int .i64 i)])
  (H:=fun i=>h++ [.mem 1 49 [.int .i64 e.layer,.int .i64 e.frm,.int .i64 e.to,.bool e.pos,strs e.sup,qB e.vars],.emp v])
  (inv:=fun i=>i≤e.vars.length∧ ∀j,j<i→jo names gs (e.vars.getD j default).sigla=0) (m:=fun i=>e.vars.length-i) 0 ⟨Nat.zero_le _,fun j hj=>absurd hj (Nat.not_lt_zero j)⟩ (Wk.temps ?_) ?_
 ·rw [a0,a1]
  (simp only [strs,qt,qB,ql,List.replicate,go_sem,qj,qh,qg,qi];try (repeat' first|(with_reducible refine And.intro ?_ ?_)|(apply qd;omega)|(apply qa;rfl)|exact VLe.refl _))
 clear hK1
 rintro m ⟨m1,m2⟩ K2 hK2
 obtain ⟨sa1,sa2⟩:=qh3 names gs e m
 have hac:=jR names gs e m
 obtain ⟨A,hA⟩: ∃A,A=(kI names gs e m).1:=⟨_,rfl⟩
 obtain ⟨B,hB⟩: ∃B,B=(kI names gs e m).2:=⟨_,rfl⟩
 have eA:=hA.symm
 have eB:=hB.symm
 rw [eA]at sa1 sa2
 rw [eA,eB]at hac
 by_cases hm:m<e.vars.length
 ·have s1:((m:Int)<e.vars.length)=True:=eq_true (by omega)
  have hE:=qP (f:=fun i=>jo names gs (e.vars.getD i default).sigla) hm m2
  have c28b:=fun h=>qqT names gs (e.vars.getD m default).sigla h hz (hsg m) hgm
  have ho:=qap names gs (e.vars.getD m default).sigla
  obtain ⟨x,hx⟩: ∃x,x=e.vars.getD m default:=⟨_,rfl⟩
  have ex:=hx.symm
  simp only [ex]at hE c28b hac ho
  obtain ⟨q,hq⟩: ∃q,q=jo names gs x.sigla:=⟨_,rfl⟩
  obtain ⟨O,hO⟩: ∃O,O=zz names gs x.sigla:=⟨_,rfl⟩
  rw [←hq]at hE c28b
  rw [←hO]at c28b hac ho
  obtain ⟨ho1,ho2⟩:=ho
  have c70:=fun h=>qzO A O h (by omega) (by omega) sa1 ho1
  have c71:=fun h=>qAb A O h (by omega) (by omega) sa1 ho1
  have hfp:=qqW A O
  obtain ⟨F,hF⟩: ∃F,F=qfI A O A.length:=⟨_,rfl⟩
  obtain ⟨U,hU⟩: ∃U,U=qS (fun k=>decide ((k:Int)∈A)||decide ((k:Int)∈O)) 64:=⟨_,rfl⟩
  rw [←hF]at c70 hfp
  rw [←hU]at c71 hac
  unfold strs qt ql at c28b
  unfold ql at c70 c71
  by_cases b2:q≠0
  ·have p2:(q=0)=False:=eq_false b2
   rw [hE b2,if_pos b2]at hR
   rw [hR]
   simp (disch:=omega) only [List.replicate,strs,qt,qB,vaC,ql,s1,ex,eA,eB,go_sem]
   repeat' first
    |((first|refine cA (c28b _) ?_ ?_|refine cG (fun e=>c28b _) ?_ ?_|refine cU (fun _=>c28b _) ?_ ?_);(next=>exact flk);simp (disch:=omega) only [strs,qt,qB,vaC,ql,s1,ex,eA,eB,p2,go_sem])
    |((first|apply qc|apply qb);exact rvk;simp only [go_sem];first|exact VLe.refl _|apply qd|apply qa|apply qe|skip)
    |with_reducible first|refine And.intro ?_ ?_|intro _
   all_goals try exact clz
  ·have b2:q=0:=Classical.not_not.1 b2
   have p2:(q=0)=True:=eq_true b2
   have kF:((0:Int)<F.length)=(A.any (fun x=>decide (x∈O))=true):=by
    rw [←hfp];simp
   obtain ⟨G,hG⟩: ∃G,G=A.any fun x=>decide (x∈O):=⟨_,rfl⟩
   rw [←hG]at kF hac
   have fin: ∀B',B'=(B||G)→(kI names gs e (m+1)).1=U∧(kI names gs e (m+1)).2=B':=fun B' hb=>by rw [hac,hb];exact ⟨rfl,rfl⟩
   have hi2: ∀j,j<m+1→jo names gs (e.vars.getD j default).sigla=0:=fun j hj=>by
    by_cases e':j=m
    ·subst e';rw [ex,←hq];exact b2
    ·exact m2 j (by omega)
   cases B with
   |true=>
    obtain ⟨f1,f2⟩:=fin true rfl
    simp (disch:=omega) only [List.replicate,strs,qt,qB,vaC,ql,s1,ex,eA,eB,go_sem]
    repeat' first
     |((first|refine cA (c28b _) ?_ ?_|refine cG (fun e=>c28b _) ?_ ?_|refine cA (c70 _) ?_ ?_|refine cG (fun e=>c70 _) ?_ ?_|refine cA (c71 _) ?_ ?_|refine cG (fun e=>c71 _) ?_ ?_|refine cU (fun _=>c28b _) ?_ ?_|refine cU (fun _=>c70 _) ?_ ?_|refine cU (fun _=>c71 _) ?_ ?_);(next=>exact flk);simp (disch:=omega) only [strs,qt,qB,vaC,ql,s1,ex,eA,eB,p2,go_sem])
     |((first|apply qc|apply qb);exact rvk;simp only [go_sem];first|exact VLe.refl _|apply qd|apply qa|apply qe|skip)
     |with_reducible first|refine And.intro ?_ ?_|intro _
    all_goals try exact clz
    refine hK2 _ _ (m+1) ⟨hm,hi2⟩ (by omega) (Wk.temps ?_)
    rw [f1,f2]
    (simp only [strs,qt,qB,ql,List.replicate,go_sem,qj,qh,qg,qi];try (repeat' first|(with_reducible refine And.intro ?_ ?_)|(apply qd;omega)|(apply qa;rfl)|exact VLe.refl _))
   |false=>
    cases G with
    |true=>
     obtain ⟨f1,f2⟩:=fin true rfl
     have kF:((0:Int)<F.length)=True:=by rw [kF];simp
     simp (disch:=omega) only [List.replicate,strs,qt,qB,vaC,ql,s1,ex,eA,eB,go_sem]
     repeat' first
      |((first|refine cA (c28b _) ?_ ?_|refine cG (fun e=>c28b _) ?_ ?_|refine cA (c70 _) ?_ ?_|refine cG (fun e=>c70 _) ?_ ?_|refine cA (c71 _) ?_ ?_|refine cG (fun e=>c71 _) ?_ ?_|refine cU (fun _=>c28b _) ?_ ?_|refine cU (fun _=>c70 _) ?_ ?_|refine cU (fun _=>c71 _) ?_ ?_);(next=>exact flk);simp (disch:=omega) only [strs,qt,qB,vaC,ql,s1,ex,eA,eB,p2,kF,go_sem])
      |((first|apply qc|apply qb);exact rvk;simp only [go_sem];first|exact VLe.refl _|apply qd|apply qa|apply qe|skip)
      |with_reducible first|refine And.intro ?_ ?_|intro _
     all_goals try exact clz
     refine hK2 _ _ (m+1) ⟨hm,hi2⟩ (by omega) (Wk.temps ?_)
     rw [f1,f2]
     (simp only [strs,qt,qB,ql,List.replicate,go_sem,qj,qh,qg,qi];try (repeat' first|(with_reducible refine And.intro ?_ ?_)|(apply qd;omega)|(apply qa;rfl)|exact VLe.refl _))
    |false=>
     obtain ⟨f1,f2⟩:=fin false rfl
     have kF:((0:Int)<F.length)=False:=by rw [kF];simp
     simp (disch:=omega) only [List.replicate,strs,qt,qB,vaC,ql,s1,ex,eA,eB,go_sem]
     repeat' first
      |((first|refine cA (c28b _) ?_ ?_|refine cG (fun e=>c28b _) ?_ ?_|refine cA (c70 _) ?_ ?_|refine cG (fun e=>c70 _) ?_ ?_|refine cA (c71 _) ?_ ?_|refine cG (fun e=>c71 _) ?_ ?_|refine cU (fun _=>c28b _) ?_ ?_|refine cU (fun _=>c70 _) ?_ ?_|refine cU (fun _=>c71 _) ?_ ?_);(next=>exact flk);simp (disch:=omega) only [strs,qt,qB,vaC,ql,s1,ex,eA,eB,p2,kF,go_sem])
      |((first|apply qc|apply qb);exact rvk;simp only [go_sem];first|exact VLe.refl _|apply qd|apply qa|apply qe|skip)
      |with_reducible first|refine And.intro ?_ ?_|intro _
     all_goals try exact clz
     refine hK2 _ _ (m+1) ⟨hm,hi2⟩ (by omega) (Wk.temps ?_)
     rw [f1,f2]
     (simp only [strs,qt,qB,ql,List.replicate,go_sem,qj,qh,qg,qi];try (repeat' first|(with_reducible refine And.intro ?_ ?_)|(apply qd;omega)|(apply qa;rfl)|exact VLe.refl _))
 have s1:((m:Int)<e.vars.length)=False:=eq_false (by omega)
 obtain rfl:m=e.vars.length:=by omega
 rw [if_neg (fun hc=>hc (qA (f:=fun i=>jo names gs (e.vars.getD i default).sigla) (fun j hj=>m2 j hj)))]at hR
 rw [qaj,eB]at hR
 cases B with
 |true=>
  rw [if_pos rfl]at hR
  rw [hR]
  simp (disch:=omega) only [List.replicate,strs,qt,qB,ql,s1,eB,go_sem]
  repeat' first
   |((first|apply qc|apply qb);exact rvk;simp only [go_sem];first|exact VLe.refl _|apply qd|apply qa|apply qe|skip)
   |with_reducible first|refine And.intro ?_ ?_|intro _
  all_goals try exact clz
 |false=>
  rw [if_neg (by simp)]at hR
  rw [hR]
  simp (disch:=omega) only [List.replicate,strs,qt,qB,ql,s1,eB,go_sem]
  repeat' first
   |((first|apply qc|apply qb);exact rvk;simp only [go_sem];first|exact VLe.refl _|apply qd|apply qa|apply qe|skip)
   |with_reducible first|refine And.intro ?_ ?_|intro _
  all_goals try exact clz
end RC
end
