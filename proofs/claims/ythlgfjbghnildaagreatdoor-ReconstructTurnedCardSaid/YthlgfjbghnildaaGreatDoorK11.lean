import Derived.Test.YthlgfjbghnildaaGreatDoorK10
import Derived.Test.YthlgfjbghnildaaGreatDoorK2
import Derived.Test.YthlgfjbghnildaaGreatDoorK4
import Derived.Test.YthlgfjbghnildaaGreatDoorK7
import Derived.Test.YthlgfjbghnildaaGreatDoorProg
set_option linter.all false
set_option linter.unusedSimpArgs false
set_option linter.unusedVariables false
set_option linter.unusedSectionVars false
set_option maxRecDepth 100000
section
open Go Go.Proofs AF HY LN
namespace RC
set_option maxHeartbeats 8000000
def inV (names:List Str) (gs:List Gr) (e:En) (src:Int) (i:Nat):Bool:=decide (src∈zz names gs (e.vars.getD i default).sigla)
def vIx (names:List Str) (gs:List Gr) (e:En) (src:Int):Int:=qbo (inV names gs e src) e.vars.length 0
def qbv (a b:En):Bool:=decide (a.frm<b.frm)||decide (a.frm=b.frm)&&decide (a.to<b.to)
theorem qzm (a b:En) (h:List AObj):qm Tryz.prog 77 [.agg (enC a),.agg (enC b)] h (.bool (qbv a b)) h:=by
 unfold qbv
 by_cases g1:a.frm<b.frm
 ·have k1:(a.frm<b.frm)=True:=eq_true g1
  rw [decide_eq_true g1,Bool.true_or]
  refine acO qq7 ?_
  simp (disch:=omega) only [qwx,List.replicate,enC,k1,go_sem]
  repeat' first
   |((first|apply qc|apply qb);exact rvk;simp only [go_sem];first|exact VLe.refl _|apply qd|apply qa|apply qe|skip)
   |with_reducible first|refine And.intro ?_ ?_|intro _
  all_goals try exact clz
 have k1:(a.frm<b.frm)=False:=eq_false g1
 rw [decide_eq_false g1,Bool.false_or]
 by_cases g2:a.frm=b.frm
 ·have k2:(a.frm=b.frm)=True:=eq_true g2
  rw [decide_eq_true g2,Bool.true_and]
  refine acO qq7 ?_
  simp (disch:=omega) only [qwx,List.replicate,enC,k1,k2,go_sem]
  repeat' first
   |((first|apply qc|apply qb);exact rvk;simp only [go_sem];first|exact VLe.refl _|apply qd|apply qa|apply qe|skip)
   |with_reducible first|refine And.intro ?_ ?_|intro _
  all_goals try exact clz
 ·have k2:(a.frm=b.frm)=False:=eq_false g2
  rw [decide_eq_false g2,Bool.false_and]
  refine acO qq7 ?_
  simp (disch:=omega) only [qwx,List.replicate,enC,k1,k2,go_sem]
  repeat' first
   |((first|apply qc|apply qb);exact rvk;simp only [go_sem];first|exact VLe.refl _|apply qd|apply qa|apply qe|skip)
   |with_reducible first|refine And.intro ?_ ?_|intro _
  all_goals try exact clz
theorem vrR (names:List Str) (gs:List Gr) (e:En) (src:Int) (h:List AObj) (hz:Szs names gs) (he:e.vars.length≤1000000000) (hgm: ∀i,(gs.getD i default).mem.length≤1000) (hsg: ∀i,(e.vars.getD i default).sigla.length≤1000000):
  qm Tryz.prog 76 [strs names,qt gs,.agg (enC e),.int .i64 src] h (.int .i64 (vIx names gs e src)) h:=by
 unfold vIx
 refine acO qxD ?_
 simp (disch:=omega) only [qyM,List.replicate,enC,strs,qt,qB,go_sem]
 repeat' first
  |((first|apply qc|apply qb);exact rvk;simp only [go_sem];first|exact VLe.refl _|apply qd|apply qa|apply qe|skip)
  |with_reducible first|refine And.intro ?_ ?_|intro _
 all_goals try exact clz
 refine qn (T:=fun i:Nat=>qI 45 [(0,strs names),(1,qt gs),(3,.int .i64 src),(6,.op h.length 1 0),(9,.int .i64 i)])
  (H:=fun i=>h++ [.mem 1 49 [.int .i64 e.layer,.int .i64 e.frm,.int .i64 e.to,.bool e.pos,strs e.sup,qB e.vars]])
  (inv:=fun i=>i≤e.vars.length∧ ∀j,j<i→inV names gs e src j=false) (m:=fun i=>e.vars.length-i) 0 ⟨Nat.zero_le _,fun j hj=>absurd hj (Nat.not_lt_zero j)⟩ (Wk.temps ?_) ?_
 ·(simp only [strs,qt,qB,List.replicate,go_sem,qj,qh,qg,qi];try (repeat' first|(with_reducible refine And.intro ?_ ?_)|(apply qd;omega)|(apply qa;rfl)|exact VLe.refl _))
 rintro i ⟨i1,i2⟩ K hK
 by_cases hi:i<e.vars.length
 ·have k1:((i:Int)<e.vars.length)=True:=eq_true (by omega)
  have c28:=fun h=>qqT names gs (e.vars.getD i default).sigla h hz (hsg i) hgm
  have hl:=(qap names gs (e.vars.getD i default).sigla).2
  have hV:inV names gs e src i=decide (src∈zz names gs (e.vars.getD i default).sigla):=rfl
  obtain ⟨x,hx⟩: ∃x,x=e.vars.getD i default:=⟨_,rfl⟩
  have ex:=hx.symm
  simp only [ex]at c28 hV hl
  obtain ⟨L,hL⟩: ∃L,L=zz names gs x.sigla:=⟨_,rfl⟩
  obtain ⟨q,hq⟩: ∃q,q=jo names gs x.sigla:=⟨_,rfl⟩
  rw [←hL]at c28 hV hl
  rw [←hq]at c28
  unfold strs qt ql at c28
  simp (disch:=omega) only [List.replicate,strs,qt,qB,vaC,k1,ex,go_sem]
  repeat' first
   |((first|refine cA (c28 _) ?_ ?_|refine cG (fun e=>c28 _) ?_ ?_|refine cU (fun _=>c28 _) ?_ ?_);(next=>exact flk);simp (disch:=omega) only [strs,qt,qB,vaC,k1,ex,go_sem])
   |((first|apply qc|apply qb);exact rvk;simp only [go_sem];first|exact VLe.refl _|apply qd|apply qa|apply qe|skip)
   |with_reducible first|refine And.intro ?_ ?_|intro _
  all_goals try exact clz
  refine qn (T:=fun k:Nat=>qI 45 [(0,strs names),(1,qt gs),(3,.int .i64 src),(6,.op h.length 1 0),(9,.int .i64 i),(10,ql L),(12,.int .i64 k)])
   (H:=fun _=>h++ [.mem 1 49 [.int .i64 e.layer,.int .i64 e.frm,.int .i64 e.to,.bool e.pos,strs e.sup,qB e.vars]])
   (inv:=fun k=>k≤L.length∧ ∀j,j<k→L.getD j 0≠src) (m:=fun k=>L.length-k) 0 ⟨Nat.zero_le _,fun j hj=>absurd hj (Nat.not_lt_zero j)⟩ (Wk.temps ?_) ?_
  ·(simp only [strs,qt,qB,ql,List.replicate,go_sem,qj,qh,qg,qi];try (repeat' first|(with_reducible refine And.intro ?_ ?_)|(apply qd;omega)|(apply qa;rfl)|exact VLe.refl _))
  rintro k ⟨m1,m2⟩ K2 hK2
  by_cases hk:k<L.length
  ·have s1:((k:Int)<L.length)=True:=eq_true (by omega)
   obtain ⟨y,hy⟩: ∃y,y=L.getD k 0:=⟨_,rfl⟩
   have ey:=hy.symm
   by_cases g:y=src
   ·have s2:(y=src)=True:=eq_true g
    have hm:src∈L:=by
     rw [←g,hy,gdqA,qU hk]
     exact List.getElem_mem hk
    rw [kM hi i2 (by rw [hV];exact decide_eq_true hm)]
    simp (disch:=omega) only [List.replicate,strs,qt,qB,ql,s1,ey,go_sem]
    repeat' first
     |((first|apply qc|apply qb);exact rvk;simp only [go_sem];first|exact VLe.refl _|apply qd|apply qa|apply qe|skip)
     |with_reducible first|refine And.intro ?_ ?_|intro _
    all_goals try exact clz
   ·have s2:(y=src)=False:=eq_false g
    simp (disch:=omega) only [List.replicate,strs,qt,qB,ql,s1,ey,go_sem]
    repeat' first
     |((first|apply qc|apply qb);exact rvk;simp only [go_sem];first|exact VLe.refl _|apply qd|apply qa|apply qe|skip)
     |with_reducible first|refine And.intro ?_ ?_|intro _
    all_goals try exact clz
    refine hK2 _ _ (k+1) ⟨hk,fun j hj=> ?_⟩ (by omega) (Wk.temps ?_)
    ·by_cases e':j=k
     ·subst e';rw [ey];exact g
     ·exact m2 j (by omega)
    ·(simp only [strs,qt,qB,ql,List.replicate,go_sem,qj,qh,qg,qi];try (repeat' first|(with_reducible refine And.intro ?_ ?_)|(apply qd;omega)|(apply qa;rfl)|exact VLe.refl _))
  have s1:((k:Int)<L.length)=False:=eq_false (by omega)
  have hno:inV names gs e src i=false:=by
   rw [hV]
   refine decide_eq_false fun hm=> ?_
   obtain ⟨j,hj,e'⟩:=List.getElem_of_mem hm
   refine m2 j (by omega) ?_
   rw [gdqA,qU hj]
   exact e'
  simp (disch:=omega) only [List.replicate,strs,qt,qB,ql,s1,go_sem]
  repeat' first
   |((first|apply qc|apply qb);exact rvk;simp only [go_sem];first|exact VLe.refl _|apply qd|apply qa|apply qe|skip)
   |with_reducible first|refine And.intro ?_ ?_|intro _
  all_goals try exact clz
  refine hK _ _ (i+1) ⟨hi,fun j hj=> ?_⟩ (by omega) (Wk.temps ?_)
  ·by_cases e':j=i
   ·subst e';exact hno
   ·exact i2 j (by omega)
  ·(simp only [strs,qt,qB,ql,List.replicate,go_sem,qj,qh,qg,qi];try (repeat' first|(with_reducible refine And.intro ?_ ?_)|(apply qd;omega)|(apply qa;rfl)|exact VLe.refl _))
 ·have k1:((i:Int)<e.vars.length)=False:=eq_false (by omega)
  rw [kz (fun j hj=>i2 j (by omega))]
  simp (disch:=omega) only [List.replicate,strs,qt,qB,k1,go_sem]
  repeat' first
   |((first|apply qc|apply qb);exact rvk;simp only [go_sem];first|exact VLe.refl _|apply qd|apply qa|apply qe|skip)
   |with_reducible first|refine And.intro ?_ ?_|intro _
  all_goals try exact clz
end RC
end
section
open Go Go.Proofs AF
def qeM:List Nat:= [93,74,79,120,147,148,161,170,63,105,131,64,31,32,57,58,29,30]
def qwR:C:=
 ((C.ops [ON 2 (.nilo 0 6 49) []]).seq (((C.ops [MV 3 0,O1 4 (.isnil .slice false) 3]).seq (C.cond (.t 4) ((C.ops [ON 2 (.nilo 0 6 49) []]).seq C.ret) C.skip)).seq ((C.ops [⟨some
 5,none,.bslc 1 6 0 49 [i6 0,i6 0,i6 0,.bool false,.nl,.nl] [],[]⟩,MV 6 0,O2 7 (.app 2 6 49 80) 5 6,MV 2 7]).seq
 C.ret)))
theorem quJ:qJ Tryz.prog 31 8 3 [RV.tmp 2] qwR:=fi Tryz.f31 [2,5,7] qeM [] (by kernel_rfl) (by kernel_rfl) (by kernel_rfl) (by kernel_rfl)
def qyP:C:=
 ((C.ops [MC 2 (.bool false)]).seq ((C.ops [MV 3 0,MV 4 0,BI 5 .neq 3 4,MV 2 5]).seq
 C.ret))
theorem qxG:qJ Tryz.prog 86 6 0 [RV.tmp 2] qyP:=fi Tryz.f86 [] qeM [] (by kernel_rfl) (by kernel_rfl) (by kernel_rfl) (by kernel_rfl)
def qqj:C:=
 ((C.ops [MV 10 1,BC 11 .add 10 (i6 1),MV 8 11]).seq (C.block 0 (((C.ops [MV 12 8,MV 13 2,BI 14 .lss 12 13]).seq (C.cond (.t 14) C.skip (C.exit 0))).seq ((C.block 1 ((C.ops [MV
 17 8,MV 9 17]).seq (C.block 2 (((C.ops [MV 18 9,MV 19 1,BI 20 .gtr 18 19,MV 21 20,MG 22 21 true 3,MG 23 21 true 0,MG 24 21 true 9,P2 25 21 true (.idxA 6) 23 24,P1 26 21
 true (.load (some 6)) 25,MG 27 21 true 0,MG 28 21 true 9,PC 29 21 true (.bin .sub) 28 (i6 1),P2 30 21 true (.idxA 6) 27 29,P1 31 21 true (.load (some 6)) 30,PN 32 21 true
 .callv [.t 22,.t 26,.t 31],PC 33 21 true (.bin .lss) 32 (i6 0),PF 34 21 33]).seq (C.cond (.t 34) C.skip (C.exit 2))).seq ((C.block 3 (C.ops [MV 37 0,MV 38 9,MV 39 0,MV 40 9,
 BC 41 .sub 40 (i6 1),MV 42 0,MV 43 9,BC 44 .sub 43 (i6 1),O2 45 (.idxA 6) 42 44,O1 46 (.load (some 6)) 45,MV 47 0,MV 48 9,O2 49 (.idxA 6) 47 48,O1 50 (.load (some 6)) 49,
 O2 51 (.idxA 6) 37 38,ST 6 51 46,O2 52 (.idxA 6) 39 41,ST 6 52 50])).seq (C.ops [MV 35 9,BC 36 .sub 35 (i6 1),MV 9 36]))).loop))).seq (C.ops [MV 15 8,BC 16 .add 15 (i6 1),MV
 8
 16]))).loop))
theorem qpu:qJ Tryz.prog 147 53 0 [] qqj:=fi Tryz.f147 [] qeM [] (by kernel_rfl) (by kernel_rfl) (by kernel_rfl) (by kernel_rfl)
end
section
open Go Go.Proofs AF HY LN
namespace RC
set_option maxHeartbeats 8000000
def qdh (a b:Int):Int:=if a<b then-1 else if b<a then 1 else 0
def qqs (a b:En):Int:=if qdh a.frm b.frm≠0 then qdh a.frm b.frm else qdh a.to b.to
theorem qy3 (a:Int) (h:List AObj):qm Tryz.prog 86 [.int .i64 a] h (.bool false) h:=by
 have k:(a=a)=True:=eq_true rfl
 refine acO qxG ?_
 simp (disch:=omega) only [qyP,List.replicate,k,go_sem]
 repeat' first
  |((first|apply qc|apply qb);exact rvk;simp only [go_sem];first|exact VLe.refl _|apply qd|apply qa|apply qe|skip)
  |with_reducible first|refine And.intro ?_ ?_|intro _
 all_goals try exact clz
theorem qw9 (a b:Int) (h:List AObj):qm Tryz.prog 122 [.int .i64 a,.int .i64 b] h (.int .i64 (qdh a b)) h:=by
 have c1:=fun h=>qy3 a h
 have c2:=fun h=>qy3 b h
 unfold qdh
 by_cases g1:a<b
 ·have k1:(a<b)=True:=eq_true g1
  rw [if_pos g1]
  refine acO qjN ?_
  simp (disch:=omega) only [qmz,List.replicate,k1,go_sem]
  repeat' first
   |((first|refine cA (c1 _) ?_ ?_|refine cG (fun e=>c1 _) ?_ ?_|refine cA (c2 _) ?_ ?_|refine cG (fun e=>c2 _) ?_ ?_|refine cU (fun _=>c1 _) ?_ ?_|refine cU (fun _=>c2 _) ?_ ?_);(next=>exact flk);simp (disch:=omega) only [k1,go_sem])
   |((first|apply qc|apply qb);exact rvk;simp only [go_sem];first|exact VLe.refl _|apply qd|apply qa|apply qe|skip)
   |with_reducible first|refine And.intro ?_ ?_|intro _
  all_goals try exact clz
 have k1:(a<b)=False:=eq_false g1
 rw [if_neg g1]
 by_cases g2:b<a
 ·have k2:(b<a)=True:=eq_true g2
  rw [if_pos g2]
  refine acO qjN ?_
  simp (disch:=omega) only [qmz,List.replicate,k1,k2,go_sem]
  repeat' first
   |((first|refine cA (c1 _) ?_ ?_|refine cG (fun e=>c1 _) ?_ ?_|refine cA (c2 _) ?_ ?_|refine cG (fun e=>c2 _) ?_ ?_|refine cU (fun _=>c1 _) ?_ ?_|refine cU (fun _=>c2 _) ?_ ?_);(next=>exact flk);simp (disch:=omega) only [k1,k2,go_sem])
   |((first|apply qc|apply qb);exact rvk;simp only [go_sem];first|exact VLe.refl _|apply qd|apply qa|apply qe|skip)
   |with_reducible first|refine And.intro ?_ ?_|intro _
  all_goals try exact clz
 ·have k2:(b<a)=False:=eq_false g2
  rw [if_neg g2]
  refine acO qjN ?_
  simp (disch:=omega) only [qmz,List.replicate,k1,k2,go_sem]
  repeat' first
   |((first|refine cA (c1 _) ?_ ?_|refine cG (fun e=>c1 _) ?_ ?_|refine cA (c2 _) ?_ ?_|refine cG (fun e=>c2 _) ?_ ?_|refine cU (fun _=>c1 _) ?_ ?_|refine cU (fun _=>c2 _) ?_ ?_);(next=>exact flk);simp (disch:=omega) only [k1,k2,go_sem])
   |((first|apply qc|apply qb);exact rvk;simp only [go_sem];first|exact VLe.refl _|apply qd|apply qa|apply qe|skip)
   |with_reducible first|refine And.intro ?_ ?_|intro _
  all_goals try exact clz
theorem orP (l:List Int) (h:List AObj) (hl:l.length≤1000000000):qm Tryz.prog 121 [ql l] h (.int .i64 (kW (fun i=>l.getD i 0) 0 l.length)) h:=by
 obtain ⟨R,hR⟩: ∃R,R=kW (fun i=>l.getD i 0) 0 l.length:=⟨_,rfl⟩
 rw [←hR]
 refine acO que ?_
 simp (disch:=omega) only [qta,List.replicate,ql,go_sem]
 repeat' first
  |((first|apply qc|apply qb);exact rvk;simp only [go_sem];first|exact VLe.refl _|apply qd|apply qa|apply qe|skip)
  |with_reducible first|refine And.intro ?_ ?_|intro _
 all_goals try exact clz
 refine qn (T:=fun i:Nat=>qI 18 [(3,.int .i64 0),(6,ql l),(7,.int .i64 l.length),(8,.int .i64 i)]) (H:=fun _=>h) (inv:=fun i=>i≤l.length∧ ∀j,j<i→l.getD j 0=0) (m:=fun i=>l.length-i) 0 ⟨Nat.zero_le _,fun j hj=>by omega⟩ (Wk.temps ?_) ?_
 ·(simp only [ql,List.replicate,go_sem,qj,qh,qg,qi];try (repeat' first|(with_reducible refine And.intro ?_ ?_)|(apply qd;omega)|(apply qa;rfl)|exact VLe.refl _))
 rintro i ⟨i1,i2⟩ K hK
 by_cases hi:i<l.length
 ·have k1:((i:Int)<l.length)=True:=eq_true (by omega)
  have hE:=qP (f:=fun i=>l.getD i 0) hi i2
  rw [←hR]at hE
  obtain ⟨v,hv⟩: ∃v,v=l.getD i 0:=⟨_,rfl⟩
  have ev:=hv.symm
  simp only [ev]at hE
  by_cases g:v=0
  ·have k2:(v=0)=True:=eq_true g
   simp (disch:=omega) only [List.replicate,ql,k1,ev,go_sem]
   repeat' first
    |((first|apply qc|apply qb);exact rvk;simp only [go_sem];first|exact VLe.refl _|apply qd|apply qa|apply qe|skip)
    |with_reducible first|refine And.intro ?_ ?_|intro _
   all_goals try exact clz
   refine hK _ _ (i+1) ⟨hi,fun j hj=> ?_⟩ (by omega) (Wk.temps ?_)
   ·by_cases e:j=i
    ·subst e;rw [ev];exact g
    ·exact i2 j (by omega)
   ·(simp only [ql,List.replicate,go_sem,qj,qh,qg,qi];try (repeat' first|(with_reducible refine And.intro ?_ ?_)|(apply qd;omega)|(apply qa;rfl)|exact VLe.refl _))
  ·have k2:(v=0)=False:=eq_false g
   rw [hE g]
   simp (disch:=omega) only [List.replicate,ql,k1,ev,go_sem]
   repeat' first
    |((first|apply qc|apply qb);exact rvk;simp only [go_sem];first|exact VLe.refl _|apply qd|apply qa|apply qe|skip)
    |with_reducible first|refine And.intro ?_ ?_|intro _
   all_goals try exact clz
 ·have k1:((i:Int)<l.length)=False:=eq_false (by omega)
  rw [show R=0 by rw [hR];exact qA (fun j hj=>i2 j (by omega))]
  simp (disch:=omega) only [List.replicate,ql,k1,go_sem]
  repeat' first
   |((first|apply qc|apply qb);exact rvk;simp only [go_sem];first|exact VLe.refl _|apply qd|apply qa|apply qe|skip)
   |with_reducible first|refine And.intro ?_ ?_|intro _
  all_goals try exact clz
theorem qzU (k v:Nat) (ty:TypeId) (L:List Int) (h:List AObj) (n:Nat) (hn0:n=L.length) (hk:qy k h=some (.mem v ty (qs L))) (hn:L.length≤1000000000):qm Tryz.prog 121 [.osl k v 1 0 n] h (.int .i64 (kW (fun i=>L.getD i 0) 0 L.length)) h:=by
 subst hn0
 refine qm.borrow ?_ rfl
 have e:([AV.osl k v 1 0 L.length]).map (rei (fun _=>true) h 8)= [AV.sl L.length (fun i=>(((qs L).drop i).take 1).map (rei (fun _=>true) h 7))]:=by
  simp only [List.map_cons,List.map_nil,rei_osl,if_true,hk,slOf_mem,qF,Nat.zero_add,Nat.mul_one,Nat.le_refl,and_self]
 rw [e]
 exact (orP L [] hn).le (qp0 (zS _ (fun n=>rfl) rfl) ki.nil) (VLe.refl _)
theorem qw8 (a b:En) (h:List AObj):qm Tryz.prog 80 [.agg (enC a),.agg (enC b)] h (.int .i64 (qqs a b)) h:=by
 have c1:=fun h=>qw9 a.frm b.frm h
 have c2:=fun h=>qw9 a.to b.to h
 have e:qqs a b=kW (fun i=> [qdh a.frm b.frm,qdh a.to b.to].getD i 0) 0 [qdh a.frm b.frm,qdh a.to b.to].length:=by
  unfold qqs
  simp only [List.length_cons,List.length_nil,kW,List.getD_cons_zero,List.getD_cons_succ]
  split
  ·rfl
  ·split
   ·rfl
   ·rename_i g;exact Classical.not_not.1 g
 rw [e]
 obtain ⟨x,hx⟩: ∃x,x=qdh a.frm b.frm:=⟨_,rfl⟩
 obtain ⟨y,hy⟩: ∃y,y=qdh a.to b.to:=⟨_,rfl⟩
 rw [←hx,←hy]
 rw [←hx]at c1
 rw [←hy]at c2
 refine acO qxE ?_
 simp (disch:=omega) only [qyN,List.replicate,enC,go_sem]
 repeat' first
  |((first|refine cA (c1 _) ?_ ?_|refine cG (fun e=>c1 _) ?_ ?_|refine cA (c2 _) ?_ ?_|refine cG (fun e=>c2 _) ?_ ?_|refine cU (fun _=>c1 _) ?_ ?_|refine cU (fun _=>c2 _) ?_ ?_);(next=>exact flk);simp (disch:=omega) only [enC,go_sem])
  |((first|apply qc|apply qb);exact rvk;simp only [go_sem];first|exact VLe.refl _|apply qd|apply qa|apply qe|skip)
  |with_reducible first|refine And.intro ?_ ?_|intro _
 all_goals try exact clz
 have eC:AV.int .i64 x::AV.int .i64 y::List.drop 1 (List.drop 1 (zk [i6 0] 2))=qs [x,y]:=rfl
 rw [eC]
 have c3:=qzU (h.length+2) 1 3 [x,y] (h++ [.mem 1 49 (enC a),.mem 1 49 (enC b),.mem 1 3 (qs [x,y])]) 2 rfl (by rw [getO_app];rfl) (by simp)
 unfold enC at c3
 repeat' first
  |((first|refine cA (c3) ?_ ?_|refine cG (fun e=>c3) ?_ ?_);(next=>exact flk);simp (disch:=omega) only [go_sem])
  |((first|apply qc|apply qb);exact rvk;simp only [go_sem];first|exact VLe.refl _|apply qd|apply qa|apply qe|skip)
  |with_reducible first|refine And.intro ?_ ?_|intro _
 all_goals try exact clz
end RC
end
section
namespace RC
variable {α : Type}
def kg (lt:α→α→Bool) (x:α):List α→List α
 | []=> [x]
 |y::r=>if lt x y=true then y::kg lt x r else x::y::r
def kG (lt:α→α→Bool):List α→List α→List α
 |acc,[]=>acc
 |acc,x::r=>kG lt (kg lt x acc) r
def qwr (lt:α→α→Bool):Prop:= ∀a b c,lt a b=false→lt b c=false→lt a c=false
def Asy (lt:α→α→Bool):Prop:= ∀a b,lt a b=true→lt b a=false
def qws (lt:α→α→Bool) (l:List α):Prop:=l.Pairwise fun a b=>lt a b=false
theorem qfN {lt:α→α→Bool} {x:α}: ∀ {l:List α} {z:α},z∈kg lt x l↔z=x∨z∈l:=by
 intro l
 induction l with
 |nil=>intro z;simp [kg]
 |cons y r ih=>
  intro z
  unfold kg
  split
  ·simp only [List.mem_cons,ih]
   constructor
   ·rintro (h|h|h)
    ·exact .inr (.inl h)
    ·exact .inl h
    ·exact .inr (.inr h)
   ·rintro (h|h|h)
    ·exact .inr (.inl h)
    ·exact .inl h
    ·exact .inr (.inr h)
  ·simp
theorem qeN {lt:α→α→Bool} (hn:qwr lt) (ha:Asy lt) {x:α}: ∀ {l:List α},qws lt l→qws lt (kg lt x l):=by
 intro l
 induction l with
 |nil=>intro _;exact List.pairwise_singleton _ _
 |cons y r ih=>
  intro h
  obtain ⟨h1,h2⟩:=List.pairwise_cons.1 h
  unfold kg
  by_cases g:lt x y=true
  ·rw [if_pos g]
   refine List.pairwise_cons.2 ⟨fun z hz=> ?_,ih h2⟩
   rcases qfN.1 hz with rfl|hz
   ·exact ha _ _ g
   ·exact h1 z hz
  ·rw [if_neg g]
   have g:lt x y=false:=by simpa using g
   refine List.pairwise_cons.2 ⟨fun z hz=> ?_,h⟩
   rcases List.mem_cons.1 hz with rfl|hz
   ·exact g
   ·exact hn _ _ _ g (h1 z hz)
theorem qj3 {lt:α→α→Bool} {x:α} {l:List α} (h: ∀z∈l,lt x z=false):kg lt x l=x::l:=by
 cases l with
 |nil=>rfl
 |cons y r=>
  unfold kg
  rw [if_neg (by rw [h y (by simp)];simp)]
theorem qeI {lt:α→α→Bool} (hn:qwr lt) (p:α→Bool) (x:α): ∀ {l:List α},qws lt l→(kg lt x l).filter p=if p x=true then kg lt x (l.filter p) else l.filter p:=by
 intro l
 induction l with
 |nil=>intro _;unfold kg;by_cases h:p x=true<;>simp [h,kg]
 |cons y r ih=>
  intro h
  obtain ⟨h1,h2⟩:=List.pairwise_cons.1 h
  by_cases g:lt x y=true
  ·have e:kg lt x (y::r)=y::kg lt x r:=by rw [kg,if_pos g]
   rw [e,List.filter_cons,List.filter_cons,ih h2]
   by_cases hy:p y=true
   ·rw [if_pos hy,if_pos hy]
    by_cases hx:p x=true
    ·rw [if_pos hx,if_pos hx,kg,if_pos g]
    ·rw [if_neg hx,if_neg hx]
   ·rw [if_neg hy,if_neg hy]
  ·have e:kg lt x (y::r)=x::y::r:=by rw [kg,if_neg g]
   have g:lt x y=false:=by simpa using g
   rw [e]
   by_cases hx:p x=true
   ·rw [if_pos hx,List.filter_cons,if_pos hx,qj3]
    intro z hz
    rcases List.mem_cons.1 (List.mem_filter.1 hz).1 with rfl|hz
    ·exact g
    ·exact hn _ _ _ g (h1 z hz)
   ·rw [if_neg hx,List.filter_cons,if_neg hx]
theorem qdD {lt:α→α→Bool} (hn:qwr lt) (ha:Asy lt) (p:α→Bool): ∀(l acc:List α),qws lt acc→(kG lt acc l).filter p=kG lt (acc.filter p) (l.filter p):=by
 intro l
 induction l with
 |nil=>intro acc _;rfl
 |cons x r ih=>
  intro acc h
  rw [kG,ih _ (qeN hn ha h),qeI hn p x h,List.filter_cons]
  by_cases hx:p x=true
  ·rw [if_pos hx,if_pos hx,kG]
  ·rw [if_neg hx,if_neg hx]
theorem qnI {β:Type} {lt:α→α→Bool} {lu:β→β→Bool} (f:α→β) (hf: ∀a b,lu (f a) (f b)=lt a b) (x:α): ∀l:List α,(kg lt x l).map f=kg lu (f x) (l.map f):=by
 intro l
 induction l with
 |nil=>rfl
 |cons y r ih=>
  rw [kg,List.map_cons,kg,hf]
  split
  ·rw [List.map_cons,ih]
  ·rfl
theorem qdT {β:Type} {lt:α→α→Bool} {lu:β→β→Bool} (f:α→β) (hf: ∀a b,lu (f a) (f b)=lt a b): ∀(l acc:List α),(kG lt acc l).map f=kG lu (acc.map f) (l.map f):=by
 intro l
 induction l with
 |nil=>intro acc;rfl
 |cons x r ih=>intro acc;rw [kG,ih,qnI f hf,List.map_cons,kG]
end RC
end
section
namespace RC
variable {α : Type}
theorem qnA {lt:α→α→Bool} {x:α}: ∀ {P Q:List α},(∀z∈P,lt x z=true)→kg lt x (P++Q)=P++kg lt x Q:=by
 intro P
 induction P with
 |nil=>intro Q _;rfl
 |cons y r ih=>
  intro Q h
  rw [List.cons_append,kg,if_pos (h y (by simp)),ih (fun z hz=>h z (by simp [hz])),List.cons_append]
theorem qj5 {lt:α→α→Bool} {x d:α} {M:List α} {k:Nat} (hk:k≤M.length) (h1: ∀j,k≤j→j<M.length→lt x (M.getD j d)=true) (h2:k=0∨lt x (M.getD (k-1) d)=false):
  (kg lt x M.reverse).reverse=M.take k++x::M.drop k:=by
 have e:M.reverse=(M.drop k).reverse++(M.take k).reverse:=by rw [←List.reverse_append,List.take_append_drop]
 rw [e,qnA,List.reverse_append,List.reverse_reverse]
 ·have e2:kg lt x (M.take k).reverse=x::(M.take k).reverse:=by
   rcases h2 with rfl|h2
   ·rfl
   ·by_cases k0:k=0
    ·subst k0;rfl
    ·have hl:k-1<M.length:=by omega
     have e3:M.take k=M.take (k-1)++ [M.getD (k-1) d]:=by
      have:=List.take_succ_eq_append_getElem hl
      rw [show k-1+1=k by omega]at this
      rw [this,gdqA,qU hl]
      rfl
     rw [e3,List.reverse_append,List.reverse_singleton,List.singleton_append,kg,if_neg (by rw [h2];simp)]
  rw [e2]
  simp
 ·intro z hz
  rw [List.mem_reverse]at hz
  obtain ⟨j,hj,rfl⟩:=List.getElem_of_mem hz
  rw [List.length_drop]at hj
  have:=h1 (k+j) (by omega) (by omega)
  rw [gdqA,qU (by omega)]at this
  rw [List.getElem_drop]
  exact this
end RC
end
section
open Go Go.Proofs AF HY LN
namespace RC
set_option maxHeartbeats 8000000
def qqP (l:List En) (i:Int):En:=l.getD i.toNat default
def qqc (l:List En) (a b:Int):Bool:=qbv (qqP l a) (qqP l b)
def qvj (names:List Str) (gs:List Gr) (l:List En) (src:Int) (n:Nat):List Int:=((List.range n).filter fun i=>decide (0≤vIx names gs (l.getD i default) src)).map Int.ofNat
def qbd (names:List Str) (gs:List Gr) (l:List En) (src:Int) (n:Nat):List Int:=(kG (qqc l) [] (qvj names gs l src n)).reverse
theorem qee {α:Type} (lt:α→α→Bool): ∀(a b acc:List α),kG lt acc (a++b)=kG lt (kG lt acc a) b:=by
 intro a
 induction a with
 |nil=>intro b acc;rfl
 |cons x r ih=>intro b acc;exact ih b _
theorem qbX (names:List Str) (gs:List Gr) (l:List En) (src:Int) (n:Nat):qbd names gs l src (n+1)=if 0≤vIx names gs (l.getD n default) src then (kg (qqc l) (n:Int) (qbd names gs l src n).reverse).reverse else qbd names gs l src n:=by
 unfold qbd qvj
 rw [List.range_succ,List.filter_append,List.map_append,qee,List.reverse_reverse]
 by_cases h:0≤vIx names gs (l.getD n default) src
 ·rw [if_pos h]
  have:List.map Int.ofNat (List.filter (fun i=>decide (0≤vIx names gs (l.getD i default) src)) [n])= [(n:Int)]:=by rw [List.filter_cons,if_pos (decide_eq_true h)];rfl
  rw [this]
  rfl
 ·rw [if_neg h]
  have:List.map Int.ofNat (List.filter (fun i=>decide (0≤vIx names gs (l.getD i default) src)) [n])= []:=by rw [List.filter_cons,if_neg (by simpa using h)];rfl
  rw [this]
  rfl
theorem qnB {α:Type} {lt:α→α→Bool} {x:α}: ∀l:List α,(kg lt x l).length=l.length+1:=by
 intro l
 induction l with
 |nil=>rfl
 |cons y r ih=>
  unfold kg
  split
  ·rw [List.length_cons,ih,List.length_cons]
  ·rfl
theorem qfY (names:List Str) (gs:List Gr) (l:List En) (src:Int): ∀n,(qbd names gs l src n).length≤n:=by
 intro n
 induction n with
 |zero=>exact Nat.le_refl _
 |succ n ih=>
  rw [qbX]
  split
  ·rw [List.length_reverse,qnB,List.length_reverse];omega
  ·omega
theorem qfZ (names:List Str) (gs:List Gr) (l:List En) (src:Int): ∀n,∀x∈qbd names gs l src n,0≤x∧x<n:=by
 intro n
 induction n with
 |zero=>intro x hx;simp [qbd,qvj,kG]at hx
 |succ n ih=>
  intro x hx
  rw [qbX]at hx
  split at hx
  ·rw [List.mem_reverse,qfN,List.mem_reverse]at hx
   rcases hx with rfl|hx
   ·omega
   ·have:=ih x hx;omega
  ·have:=ih x hx;omega
end RC
end
section
open Go Go.Proofs AF HY LN
namespace RC
set_option maxHeartbeats 8000000
theorem qcp {Z:List Int} {k:Nat} {a:Int} (h:k<Z.length):List.take k (qs Z)++ [AV.int .i64 a]++List.drop (k+1) (qs Z)=qs (Z.set k a):=by
 rw [List.set_eq_take_append_cons_drop,if_pos h]
 unfold qs
 simp
theorem qoq {Z M:List Int} {k:Nat} {i Y:Int} (hk:0<k) (hkm:k≤M.length) (h:Z.set k i=M.take k++i::M.drop k) (hY:M.getD (k-1) 0=Y):(Z.set k Y).set (k-1) i=M.take (k-1)++i::M.drop (k-1):=by
 have e1:Z.set k Y=(Z.set k i).set k Y:=by rw [List.set_set]
 have hl:k-1<M.length:=by omega
 have hY':M[k-1]=Y:=by rw [←hY,gdqA,qU hl];rfl
 have e2:M.take k=M.take (k-1)++ [Y]:=by
  have:=List.take_succ_eq_append_getElem hl
  rw [show k-1+1=k by omega]at this
  rw [this,hY']
 have e3:M.drop (k-1)=Y::M.drop k:=by
  rw [List.drop_eq_getElem_cons hl,hY',show k-1+1=k by omega]
 have l1:(M.take k).length=k:=by rw [List.length_take];omega
 have l2:(M.take (k-1)).length=k-1:=by rw [List.length_take];omega
 rw [e1,h,List.set_append_right _ _ (by omega),l1,Nat.sub_self,List.set_cons_zero,e2,List.append_assoc,List.set_append_right _ _ (by omega),l2,Nat.sub_self,e3]
 rfl
theorem qzV (names:List Str) (gs:List Gr) (l:List En) (src:Int) (h:List AObj) (hz:Szs names gs) (hl:l.length≤1000000) (hgm: ∀i,(gs.getD i default).mem.length≤1000) (hv: ∀i,(l.getD i default).vars.length≤1000000) (hsg: ∀i j,((l.getD i default).vars.getD j default).sigla.length≤1000000):
  qm Tryz.prog 47 [strs names,qt gs,qz l,.int .i64 src] h (ql (qbd names gs l src l.length)) h:=by
 refine acO qxs ?_
 simp (disch:=omega) only [qyC,List.replicate,qz,go_sem]
 repeat' first
  |((first|apply qc|apply qb);exact rvk;simp only [go_sem];first|exact VLe.refl _|apply qd|apply qa|apply qe|skip)
  |with_reducible first|refine And.intro ?_ ?_|intro _
 all_goals try exact clz
 have eM:zk [AV.int .i64 0] 0=qs (qbd names gs l src 0):=rfl
 rw [eM]
 refine qn (T:=fun i:Nat×Nat×Nat=>qI 66 [(0,strs names),(1,qt gs),(2,qz l),(3,.int .i64 src),(9,.osl (h.length+1) i.2.1 1 0 (qbd names gs l src i.1).length),(10,.int .i64 i.1)]) (H:=fun i=>h++ [.emp 1,.mem i.2.1 3 (qs (qbd names gs l src i.1)),.emp i.2.2,.emp 0])
  (inv:=fun i=>i.1≤l.length) (m:=fun i=>l.length-i.1) (0,1,0) (Nat.zero_le _) (Wk.temps ?_) ?_
 ·have e0:(qbd names gs l src 0).length=0:=rfl
  (simp only [qz,e0,List.replicate,go_sem,qj,qh,qg,qi];try (repeat' first|(with_reducible refine And.intro ?_ ?_)|(apply qd;omega)|(apply qa;rfl)|exact VLe.refl _))
 rintro ⟨i,v,w⟩ i1 K hK
 simp only at i1 hK
 have hst:=qbX names gs l src i
 have hln:=qfY names gs l src i
 have hrg:=qfZ names gs l src i
 obtain ⟨M,hM⟩: ∃M,M=qbd names gs l src i:=⟨_,rfl⟩
 have eM:=hM.symm
 have eC:=qF M
 rw [eM]at hst hln hrg
 by_cases hi:i<l.length
 ·have k1:((i:Int)<l.length)=True:=eq_true (by omega)
  have c76:=fun h=>vrR names gs (l.getD i default) src h hz (by have:=hv i;omega) hgm (hsg i)
  obtain ⟨x,hx⟩: ∃x,x=l.getD i default:=⟨_,rfl⟩
  have ex:=hx.symm
  simp only [ex]at c76 hst
  obtain ⟨q,hq⟩: ∃q,q=vIx names gs x src:=⟨_,rfl⟩
  rw [←hq]at c76 hst
  by_cases g:0≤q
  ·have k2:(q<0)=False:=eq_false (by omega)
   rw [if_pos g]at hst
   have eT:List.take M.length (qs M)=qs M:=List.take_of_length_le (by omega)
   simp only [enC]at c76
   simp (disch:=omega) only [List.replicate,qz,enC,k1,eM,ex,Nat.mul_one,go_sem]
   repeat' first
    |((first|refine cA (c76 _) ?_ ?_|refine cG (fun e=>c76 _) ?_ ?_|refine cU (fun _=>c76 _) ?_ ?_);(next=>exact flk);simp (disch:=omega) only [qz,enC,k1,k2,eM,ex,eC,eT,Nat.mul_one,go_sem])
    |((first|apply qc|apply qb);exact rvk;simp only [go_sem];first|exact VLe.refl _|apply qd|apply qa|apply qe|skip)
    |with_reducible first|refine And.intro ?_ ?_|intro _
   all_goals try exact clz
   have eA:qs M++ [AV.int .i64 (i:Int)]=qs (M++ [(i:Int)]):=by rw [qT];rfl
   rw [eA]
   refine qn (T:=fun k:Nat×Nat×List Int=>qI 66 [(0,strs names),(1,qt gs),(2,qz l),(3,.int .i64 src),(9,.osl (h.length+1) (v+1) 1 0 (M.length+1)),(10,.int .i64 i),(11,.int .i64 k.1)])
    (H:=fun k=>h++ [.emp 1,.mem (v+1) 3 (qs k.2.2),.emp k.2.1,.emp 0])
    (inv:=fun k=>k.1≤M.length∧k.2.2.length=M.length+1∧k.2.2.set k.1 (i:Int)=M.take k.1++(i:Int)::M.drop k.1∧(∀j,j<k.1→k.2.2.getD j 0=M.getD j 0)∧ ∀j,k.1≤j→j<M.length→qqc l i (M.getD j 0)=true) (m:=fun k=>k.1) (M.length,w+1+1,M++ [(i:Int)]) ⟨Nat.le_refl _,by simp,by simp,fun j hj=>by simp [gdqA,List.getElem?_append_left hj],fun j h1 h2=>by omega⟩ (Wk.trans Wk.kill2 (Wk.temps ?_)) ?_
   ·(simp only [qz,enC,strs,qt,List.replicate,go_sem,qj,qh,qg,qi];try (repeat' first|(with_reducible refine And.intro ?_ ?_)|(apply qd;omega)|(apply qa;rfl)|exact VLe.refl _))
   rintro ⟨k,w2,Z⟩ ⟨n1,n2,n3,n4,n5⟩ K2 hK2
   simp only at n1 n2 n3 n4 n5 hK2
   have eZ:=qF Z
   by_cases hk:0<k
   ·have s1:((0:Int)<k)=True:=eq_true (by omega)
    have hy:=n4 (k-1) (by omega)
    have hyM:M.getD (k-1) 0∈M:=by rw [gdqA,qU (by omega)];exact List.getElem_mem (by omega)
    have hyr:=hrg _ hyM
    obtain ⟨Y,hY⟩: ∃Y:Nat,M.getD (k-1) 0=(Y:Int):=⟨(M.getD (k-1) 0).toNat,by omega⟩
    rw [hY]at hy hyr
    have s2:(0≤(k:Int)-1)=True:=eq_true (by omega)
    have s3:((k:Int)-1<(M.length:Int)+1)=True:=eq_true (by omega)
    have s4:((k:Int)-1).toNat=k-1:=by omega
    have s5:(0≤(Y:Int))=True:=eq_true (by omega)
    have s6:((Y:Int)<l.length)=True:=eq_true (by omega)
    have s7:((k:Int)<(M.length:Int)+1)=True:=eq_true (by omega)
    have s8:(0≤(k:Int))=True:=eq_true (by omega)
    have eY:(qs Z)[k-1]?.getD AV.undef= .int .i64 (Y:Int):=by
     rw [gdqA,qU (by omega)]at hy
     unfold qs
     rw [List.getElem?_map,qU (by omega)]
     show AV.int .i64 Z[k-1]=_
     rw [show Z[k-1]=(Y:Int)from hy]
    have c77:=fun h=>qzm (l.getD i default) (l.getD Y default) h
    have hbI:qqc l (i:Int) (Y:Int)=qbv (l.getD i default) (l.getD Y default):=rfl
    simp only [enC]at c77
    cases hb:qbv (l.getD i default) (l.getD Y default)with
    |true=>
     rw [hb]at c77 hbI
     simp (disch:=omega) only [List.replicate,qz,enC,s1,s2,s3,s4,s5,s6,s7,s8,k1,eZ,n2,eY,Int.toNat_natCast,go_sem]
     repeat' first
      |((first|refine cA (c77 _) ?_ ?_|refine cG (fun e=>c77 _) ?_ ?_|refine cU (fun _=>c77 _) ?_ ?_);(next=>exact flk);simp (disch:=omega) only [qz,enC,s1,s2,s3,s4,s5,s6,s7,s8,k1,eZ,n2,eY,Int.toNat_natCast,go_sem])
      |((first|apply qc|apply qb);exact rvk;simp only [go_sem];first|exact VLe.refl _|apply qd|apply qa|apply qe|skip)
      |with_reducible first|refine And.intro ?_ ?_|intro _
     all_goals try exact clz
     have e1:(k:Int)-1=((k-1:Nat):Int):=by omega
     rw [qcp (by omega),e1]
     refine hK2 _ _ (k-1,w2,Z.set k (Y:Int)) ⟨by simp only;omega,by rw [List.length_set];exact n2,qoq hk n1 n3 hY,fun j hj=> ?_,fun j h1 h2=> ?_⟩ (by simp only;omega) (Wk.temps ?_)
     ·simp only at hj ⊢
      rw [gdqA,List.getElem?_set_ne (by omega),←gdqA]
      exact n4 j (by omega)
     ·by_cases e':j=k-1
      ·subst e';rw [hY];exact hbI
      ·exact n5 j (by simp only at h1;omega) h2
     ·(simp only [qz,enC,strs,qt,List.replicate,go_sem,qj,qh,qg,qi];try (repeat' first|(with_reducible refine And.intro ?_ ?_)|(apply qd;omega)|(apply qa;rfl)|exact VLe.refl _))
    |false=>
     rw [hb]at c77 hbI
     have hfin:(kg (qqc l) (i:Int) M.reverse).reverse=M.take k++(i:Int)::M.drop k:=qj5 (d:=0) n1 n5 (.inr (by rw [hY];exact hbI))
     rw [hfin]at hst
     simp (disch:=omega) only [List.replicate,qz,enC,s1,s2,s3,s4,s5,s6,s7,s8,k1,eZ,n2,eY,Int.toNat_natCast,go_sem]
     repeat' first
      |((first|refine cA (c77 _) ?_ ?_|refine cG (fun e=>c77 _) ?_ ?_|refine cU (fun _=>c77 _) ?_ ?_);(next=>exact flk);simp (disch:=omega) only [qz,enC,s1,s2,s3,s4,s5,s6,s7,s8,k1,eZ,n2,eY,Int.toNat_natCast,go_sem])
      |((first|apply qc|apply qb);exact rvk;simp only [go_sem];first|exact VLe.refl _|apply qd|apply qa|apply qe|skip)
      |with_reducible first|refine And.intro ?_ ?_|intro _
     all_goals try exact clz
     have eN:M.length+1=(qbd names gs l src (i+1)).length:=by rw [hst];simp;omega
     rw [qcp (by omega),n3,←hst,eN]
     refine hK _ _ (i+1,v+1,w2) hi (by simp only;omega) (Wk.temps ?_)
     (simp only [qz,enC,strs,qt,List.replicate,go_sem,qj,qh,qg,qi];try (repeat' first|(with_reducible refine And.intro ?_ ?_)|(apply qd;omega)|(apply qa;rfl)|exact VLe.refl _))
   ·have s1:((0:Int)<k)=False:=eq_false (by omega)
    obtain rfl:k=0:=by omega
    have hfin:(kg (qqc l) (i:Int) M.reverse).reverse=M.take 0++(i:Int)::M.drop 0:=qj5 (d:=0) (Nat.zero_le _) n5 (.inl rfl)
    rw [hfin]at hst
    have s2:((0:Int)<(M.length:Int)+1)=True:=eq_true (by omega)
    simp (disch:=omega) only [List.replicate,qz,enC,s1,Int.natCast_zero,go_sem]
    repeat' first
     |(refine qo ( .bool false) ?_;simp (disch:=omega) only [qz,enC,s1,s2,eZ,n2,Int.natCast_zero,go_sem])
     |((first|apply qc|apply qb);exact rvk;simp only [go_sem];first|exact VLe.refl _|apply qd|apply qa|apply qe|skip)
     |with_reducible first|refine And.intro ?_ ?_|intro _
    all_goals try exact clz
    have eF:AV.int .i64 (i:Int)::List.drop 1 (qs Z)=qs (Z.set 0 (i:Int)):=by
     cases Z with
     |nil=>simp at n2
     |cons a Z=>rfl
    have eN:M.length+1=(qbd names gs l src (i+1)).length:=by rw [hst];simp
    rw [eF,n3,←hst,eN]
    refine hK _ _ (i+1,v+1,w2) hi (by simp only;omega) (Wk.temps ?_)
    (simp only [qz,enC,strs,qt,List.replicate,go_sem,qj,qh,qg,qi];try (repeat' first|(with_reducible refine And.intro ?_ ?_)|(apply qd;omega)|(apply qa;rfl)|exact VLe.refl _))
  ·have k2:(q<0)=True:=eq_true (by omega)
   rw [if_neg g]at hst
   simp only [enC]at c76
   simp (disch:=omega) only [List.replicate,qz,enC,k1,eM,ex,go_sem]
   repeat' first
    |((first|refine cA (c76 _) ?_ ?_|refine cG (fun e=>c76 _) ?_ ?_|refine cU (fun _=>c76 _) ?_ ?_);(next=>exact flk);simp (disch:=omega) only [qz,enC,k1,k2,eM,ex,go_sem])
    |((first|apply qc|apply qb);exact rvk;simp only [go_sem];first|exact VLe.refl _|apply qd|apply qa|apply qe|skip)
    |with_reducible first|refine And.intro ?_ ?_|intro _
   all_goals try exact clz
   refine hK _ _ (i+1,v,w) hi (by simp only;omega) ?_
   simp only [hst]
   refine Wk.temps ?_
   (simp only [qz,enC,List.replicate,go_sem,qj,qh,qg,qi];try (repeat' first|(with_reducible refine And.intro ?_ ?_)|(apply qd;omega)|(apply qa;rfl)|exact VLe.refl _))
 have k1:((i:Int)<l.length)=False:=eq_false (by omega)
 obtain rfl:i=l.length:=by omega
 rw [eM]
 simp (disch:=omega) only [List.replicate,qz,k1,eM,go_sem]
 repeat' first
  |((first|apply qc|apply qb);exact rvk;simp only [go_sem];first|exact VLe.refl _|apply qd|apply qa|apply qe|skip)
  |with_reducible first|refine And.intro ?_ ?_|intro _
 all_goals try exact clz
 rw [if_pos (by omega)]
 exact zS _ (fun n=>rfl) rfl
end RC
end
section
open Go Go.Proofs AF HY LN
namespace RC
set_option maxHeartbeats 4000000
theorem qcH {a b:En}:qbv a b=true↔a.frm<b.frm∨a.frm=b.frm∧a.to<b.to:=by
 unfold qbv
 simp [Bool.or_eq_true,Bool.and_eq_true]
theorem qci {a b:En}:qbv a b=false↔b.frm<a.frm∨a.frm=b.frm∧b.to≤a.to:=by
 have:= @qcH a b
 cases h:qbv a b with
 |true=>rw [h]at this;simp only [true_iff]at this;simp only [Bool.true_eq_false,false_iff];omega
 |false=>rw [h]at this;simp only [Bool.false_eq_true,false_iff]at this;simp only [true_iff];omega
theorem qmt:qwr qbv:=by
 intro a b c h1 h2
 rw [qci]at*
 omega
theorem qms:Asy qbv:=by
 intro a b h
 rw [qcH]at h
 rw [qci]
 omega
def z7 (l:List En):List En:=(kG qbv [] l).reverse
def qai (names:List Str) (gs:List Gr) (src:Int) (e:En):Bool:=decide (0≤vIx names gs e src)
def ofE (names:List Str) (gs:List Gr) (l:List En) (src:Int):List En:=(z7 l).filter (qai names gs src)
theorem qru (names:List Str) (gs:List Gr) (l:List En) (src:Int):(qvj names gs l src l.length).map (qqP l)=l.filter (qai names gs src):=by
 unfold qvj
 rw [List.map_map]
 have e:(qqP l∘Int.ofNat)=fun i=>l.getD i default:=by funext i;simp [qqP]
 rw [e]
 have e2:(List.range l.length).map (fun i=>l.getD i default)=l:=by
  apply List.ext_getElem (by simp)
  intro i h1 h2
  simp at h1
  simp [gdqA,h1]
 have e3:l.filter (qai names gs src)=((List.range l.length).map (fun i=>l.getD i default)).filter (qai names gs src):=by rw [e2]
 rw [e3,List.filter_map]
 rfl
theorem qkI (names:List Str) (gs:List Gr) (l:List En) (src:Int):(qbd names gs l src l.length).map (qqP l)=ofE names gs l src:=by
 unfold qbd ofE z7
 rw [List.map_reverse,qdT (lt:=qqc l) (lu:=qbv) (qqP l) (fun _ _=>rfl),qru,List.filter_reverse,qdD qmt qms _ _ _ List.Pairwise.nil]
 rfl
theorem qj4 {α:Type} {lt:α→α→Bool} {x:α}: ∀l:List α,(kg lt x l).Perm (x::l):=by
 intro l
 induction l with
 |nil=>exact List.Perm.refl _
 |cons y r ih=>
  unfold kg
  split
  ·exact (List.Perm.cons y ih).trans (List.Perm.swap x y r)
  ·exact List.Perm.refl _
theorem qcB {α:Type} {lt:α→α→Bool}: ∀l acc:List α,(kG lt acc l).Perm (acc++l):=by
 intro l
 induction l with
 |nil=>intro acc;rw [List.append_nil];exact List.Perm.refl _
 |cons x r ih=>
  intro acc
  refine (ih _).trans ((List.Perm.append_right r (qj4 acc)).trans ?_)
  exact (List.perm_middle (a:=x) (l₁:=acc) (l₂:=r)).symm
theorem kH (l:List En):(z7 l).Perm l:=(List.reverse_perm _).trans (by simpa using qcB (lt:=qbv) l [])
theorem j8 (l:List En):(z7 l).length=l.length:=(kH l).length_eq
def jV (a b:En):Bool:=decide (b.frm<a.to)||decide (a.frm=b.frm)&&decide (a.to=b.to)
def jT:List En→Bool
 |a::b::r=>jV a b||jT (b::r)
 |_=>false
theorem qbO (L:List En):jT L=true↔ ∃i,i+1<L.length∧jV (L.getD i default) (L.getD (i+1) default)=true:=by
 induction L with
 |nil=>simp [jT]
 |cons a L ih=>
  cases L with
  |nil=>simp [jT]
  |cons b r=>
   rw [jT,Bool.or_eq_true,ih]
   constructor
   ·rintro (h|⟨i,h1,h2⟩)
    ·exact ⟨0,by simp,h⟩
    ·exact ⟨i+1,by simpa using h1,h2⟩
   ·rintro ⟨i,h1,h2⟩
    cases i with
    |zero=>exact .inl h2
    |succ i=>exact .inr ⟨i,by simpa using h1,h2⟩
def zG (names:List Str) (gs:List Gr) (l:List En):Bool:=jb (fun s=>jT (ofE names gs l (s:Int))) names.length
def rdE (names:List Str) (gs:List Gr) (t:List Str) (l:List En):Int:=
 if sgE names gs≠0 then 1 else if 4096<l.length then 4 else
  if kW (fun i=>kj names gs t (l.getD i default)) 0 l.length≠0 then kW (fun i=>kj names gs t (l.getD i default)) 0 l.length else
   if zG names gs l=true then 17 else 0
def qgi (names:List Str) (gs:List Gr) (e:En) (src:Int):List Str:=(e.vars.getD (vIx names gs e src).toNat default).words
def qhH (names:List Str) (gs:List Gr) (t:List Str) (src:Int):List En→Nat→List Str
 | [],k=>t.drop k
 |e::r,k=>jB t k e.frm.toNat++(qgi names gs e src++qhH names gs t src r e.to.toNat)
def qfj (names:List Str) (gs:List Gr) (t:List Str) (l:List En) (src:Int):List Str:=qhH names gs t src (ofE names gs l src) 0
end RC
end
section
open Go Go.Proofs AF HY LN
namespace RC
set_option maxHeartbeats 4000000
def jv (L:List En):List AV:=L.flatMap enC
theorem qaL (e:En):(enC e).length=6:=rfl
theorem jW (L:List En):(jv L).length=L.length*6:=by
 unfold jv
 induction L with
 |nil=>rfl
 |cons a L ih=>rw [List.flatMap_cons,List.length_append,ih,List.length_cons,qaL];omega
theorem qfG (A B:List En):jv (A++B)=jv A++jv B:=by simp [jv]
theorem qmX (a:En):jv [a]=enC a:=by simp [jv]
theorem qjv (L:List En): ∀i,(jv L).take (i*6)=jv (L.take i):=by
 induction L with
 |nil=>intro i;simp [jv]
 |cons a L ih=>
  intro i
  cases i with
  |zero=>simp [jv]
  |succ i=>
   have e:jv (a::L)=enC a++jv L:=rfl
   rw [List.take_succ_cons,e,List.take_append,qaL,show (i+1)*6-6=i*6 by omega,ih]
   rw [List.take_of_length_le (by rw [qaL];omega)]
   rfl
theorem qdC (L:List En): ∀i,(jv L).drop (i*6)=jv (L.drop i):=by
 induction L with
 |nil=>intro i;simp [jv]
 |cons a L ih=>
  intro i
  cases i with
  |zero=>simp
  |succ i=>
   have e:jv (a::L)=enC a++jv L:=rfl
   rw [List.drop_succ_cons,e,List.drop_append,qaL,show (i+1)*6-6=i*6 by omega,ih]
   rw [List.drop_eq_nil_of_le (by rw [qaL];omega)]
   rfl
theorem qby {L:List En} {i:Nat} (hi:i<L.length):((jv L).drop (i*6)).take 6=enC (L.getD i default):=by
 rw [qdC,List.drop_eq_getElem_cons hi,gdqA,qU hi]
 rfl
theorem qcN {L:List En} {i:Nat} (e:En) (hi:i<L.length):(jv L).take (i*6)++enC e++(jv L).drop (i*6+6)=jv (L.set i e):=by
 rw [List.set_eq_take_append_cons_drop,if_pos hi,show i*6+6=(i+1)*6 by omega,qjv,qdC,qfG]
 rw [show e::List.drop (i+1) L= [e]++List.drop (i+1) L from rfl,qfG,qmX,List.append_assoc]
theorem qnf (L:List En):((List.range L.length).flatMap fun i=>enC (L.getD i default))=jv L:=by
 unfold jv
 have e:L=(List.range L.length).map fun i=>L.getD i default:=by
  apply List.ext_getElem (by simp)
  intro i h1 h2
  simp [gdqA,h1]
 conv=>rhs;rw [e]
 rw [List.flatMap_map]
theorem qlt (h:List AObj) (L:List En):qr h (qz L)=some (L.length,jv L):=by
 show some (L.length,_)=_
 rw [qnf]
theorem qbz (L:List En) (n:Nat): ∀c∈jv L,zy n c=true:=by
 intro c hc
 unfold jv at hc
 obtain ⟨x,_,hx⟩:=List.mem_flatMap.1 hc
 unfold enC at hx
 simp only [List.mem_cons,List.not_mem_nil,or_false]at hx
 rcases hx with rfl|rfl|rfl|rfl|rfl|rfl<;>rfl
def jZ (M:List En) (x:En) (j:Nat) (r:List En):List En:=M.take j++x::(M.drop j++r)
theorem qj2 {M:List En} {x:En} {j:Nat} {r:List En} (hj:j≤M.length):(jZ M x j r).length=M.length+1+r.length:=by
 unfold jZ;simp;omega
theorem qro {M:List En} {x:En} {j:Nat} {r:List En} (hj:j≤M.length):(jZ M x j r).getD j default=x:=by
 unfold jZ
 have l1:(M.take j).length=j:=by rw [List.length_take];omega
 rw [gdqA,List.getElem?_append_right (by omega),l1,Nat.sub_self]
 rfl
theorem qrp {M:List En} {x:En} {j:Nat} {r:List En} (hj:j+1≤M.length):(jZ M x (j+1) r).getD j default=M.getD j default:=by
 unfold jZ
 have l1:(M.take (j+1)).length=j+1:=by rw [List.length_take];omega
 rw [gdqA,List.getElem?_append_left (by omega),List.getElem?_take,if_pos (by omega),←gdqA]
theorem qgX {M:List En} {x:En} {j:Nat} {r:List En} (hj:j+1≤M.length):((jZ M x (j+1) r).set (j+1) (M.getD j default)).set j x=jZ M x j r:=by
 have l1:(M.take (j+1)).length=j+1:=by rw [List.length_take];omega
 have l2:(M.take j).length=j:=by rw [List.length_take];omega
 have hl:j<M.length:=by omega
 have hY:M.getD j default=M[j]:=by rw [gdqA,qU hl];rfl
 unfold jZ
 rw [List.set_append_right _ _ (by omega),l1,Nat.sub_self,List.set_cons_zero,hY,List.take_succ_eq_append_getElem hl,List.append_assoc,List.set_append_right _ _ (by omega),l2,Nat.sub_self,List.singleton_append,List.set_cons_zero,List.drop_eq_getElem_cons hl]
 rfl
def qf0 (l:List En) (i:Nat):List En:=(kG qbv [] (l.take i)).reverse
theorem qc3 {l:List En} {i:Nat} (hi:i≤l.length):(qf0 l i).length=i:=by
 unfold qf0
 rw [List.length_reverse,(qcB (lt:=qbv) (l.take i) []).length_eq,List.nil_append,List.length_take]
 omega
theorem qkZ {l:List En} {i:Nat} (hi:i<l.length):qf0 l (i+1)=(kg qbv (l.getD i default) (qf0 l i).reverse).reverse:=by
 unfold qf0
 rw [List.take_succ_eq_append_getElem hi,qee,List.reverse_reverse,gdqA,qU hi]
 rfl
theorem qoa (l:List En):qf0 l l.length=z7 l:=by unfold qf0 z7;rw [List.take_length]
def qnC (l:List En) (i:Nat):List En:=qf0 l i++l.drop i
theorem qrq {l:List En} {i:Nat} (hi:i<l.length):qnC l i=jZ (qf0 l i) (l.getD i default) i (l.drop (i+1)):=by
 unfold qnC jZ
 have h1:=qc3 (l:=l) (i:=i) (by omega)
 have h2:List.drop i (qf0 l i)= []:=List.drop_eq_nil_of_le (by omega)
 rw [List.take_of_length_le (by omega),h2,List.nil_append,List.drop_eq_getElem_cons hi,gdqA,qU hi]
 rfl
theorem qnD {l:List En} {i j:Nat} (hi:i<l.length) (hj:j≤i) (h1: ∀k,j≤k→k<i→qbv (l.getD i default) ((qf0 l i).getD k default)=true) (h2:j=0∨qbv (l.getD i default) ((qf0 l i).getD (j-1) default)=false):
  jZ (qf0 l i) (l.getD i default) j (l.drop (i+1))=qnC l (i+1):=by
 have hl:=qc3 (l:=l) (i:=i) (by omega)
 unfold qnC
 rw [qkZ hi,qj5 (d:=default) (k:=j) (by omega) (fun k hk hk2=>h1 k hk (by omega)) h2]
 unfold jZ
 simp
theorem qnE {l:List En} (h:0<l.length):qnC l 1=l:=by
 cases l with
 |nil=>simp at h
 |cons a l=>rfl
theorem qjl (a b:En):qqs a b<0↔qbv a b=true:=by
 rw [qcH]
 unfold qqs qdh
 by_cases h1:a.frm<b.frm
 ·simp [h1]
 ·by_cases h2:b.frm<a.frm
  ·simp [h1,h2];omega
  ·by_cases h3:a.to<b.to
   ·simp [h1,h2,h3];omega
   ·by_cases h4:b.to<a.to
    ·simp [h1,h2,h3,h4]
    ·simp [h1,h2,h3,h4]
end RC
end
section
open Go Go.Proofs AF HY LN
namespace RC
set_option maxHeartbeats 4000000
theorem qmJ {L:List En} (hc:jT L=false) {i:Nat} (hi:i+1<L.length):(L.getD i default).to≤(L.getD (i+1) default).frm:=by
 cases h:jV (L.getD i default) (L.getD (i+1) default)with
 |true=>rw [(qbO L).2 ⟨i,hi,h⟩]at hc;cases hc
 |false=>
  unfold jV at h
  rw [Bool.or_eq_false_iff,decide_eq_false_iff_not]at h
  omega
theorem qb7 {names:List Str} {gs:List Gr} {l:List En} (h:zG names gs l=false) {s:Nat} (hs:s<names.length):jT (ofE names gs l (s:Int))=false:=
 qE.1 h s hs
structure qpZ (names:List Str) (gs:List Gr) (t:List Str) (l:List En):Prop where
 sg:sgE names gs=0
 n:l.length≤4096
 ck: ∀e∈l,kj names gs t e=0
 cl:zG names gs l=false
theorem qcs {names:List Str} {gs:List Gr} {t:List Str} {l:List En}:rdE names gs t l=0↔qpZ names gs t l:=by
 have key:(∀e∈l,kj names gs t e=0)↔kW (fun i=>kj names gs t (l.getD i default)) 0 l.length=0:=by
  rw [jY]
  constructor
  ·intro h i hi
   refine h _ ?_
   rw [gdqA,qU hi]
   exact List.getElem_mem hi
  ·intro h e he
   obtain ⟨i,hi,rfl⟩:=List.getElem_of_mem he
   have:=h i hi
   rw [gdqA,qU hi]at this
   exact this
 unfold rdE
 constructor
 ·intro h
  split at h
  ·cases h
  rename_i h1
  split at h
  ·cases h
  rename_i h2
  split at h
  ·rename_i h3;exact absurd h h3
  rename_i h3
  split at h
  ·cases h
  rename_i h4
  exact ⟨Classical.not_not.1 h1,by omega,key.2 (Classical.not_not.1 h3),by simpa using h4⟩
 ·rintro ⟨h1,h2,h3,h4⟩
  rw [if_neg (fun hc=>hc h1),if_neg (by omega),if_neg (fun hc=>hc (key.1 h3)),if_neg (by rw [h4];simp)]
structure qwI (names:List Str) (gs:List Gr) (t:List Str) (e:En):Prop where
 sg:sgE names gs=0
 tn:t.length≤4096
 tw:jz t=0
 lay:0≤e.layer∧e.layer<16
 rng:0≤e.frm∧e.frm≤e.to∧e.to≤t.length
 sp:0<e.sup.length→e.pos=true
 ne:e.vars.length≠0
 va: ∀i,i<e.vars.length→qbs t e i=0
 es:jo names gs e.sup=0
 ev: ∀i,i<e.vars.length→jo names gs (e.vars.getD i default).sigla=0
 tc:(kI names gs e e.vars.length).2=false
theorem kw {names:List Str} {gs:List Gr} {t:List Str} {e:En}:kj names gs t e=0↔qwI names gs t e:=by
 unfold kj
 constructor
 ·intro h
  split at h
  ·cases h
  rename_i h1
  split at h
  ·cases h
  rename_i h2
  split at h
  ·cases h
  rename_i h3
  split at h
  ·cases h
  rename_i h4
  split at h
  ·cases h
  rename_i h5
  split at h
  ·cases h
  rename_i h6
  split at h
  ·rename_i h7;exact absurd h h7
  rename_i h7
  split at h
  ·rename_i h8;exact absurd h h8
  rename_i h8
  split at h
  ·rename_i h9;exact absurd h h9
  rename_i h9
  split at h
  ·cases h
  rename_i h10
  unfold qhZ at h4
  refine ⟨Classical.not_not.1 h1,by omega,Classical.not_not.1 h3,by omega,by omega,fun h=> ?_,h6,jY.1 (Classical.not_not.1 h7),Classical.not_not.1 h8,jY.1 (Classical.not_not.1 h9),?_⟩
  ·cases hp:e.pos with
   |true=>rfl
   |false=>exact absurd ⟨h,hp⟩ h5
  ·rw [qaj]at h10
   simpa using h10
 ·rintro ⟨h1,h2,h3,h4,h5,h6,h7,h8,h9,h10,h11⟩
  have hr: ¬qhZ t e:=by unfold qhZ;omega
  rw [if_neg (fun hc=>hc h1),if_neg (by omega),if_neg (fun hc=>hc h3),if_neg hr,if_neg (by rintro ⟨a,b⟩;rw [h6 a]at b;cases b),if_neg h7,if_neg (fun hc=>hc (qA (f:=qbs t e) h8)),if_neg (fun hc=>hc h9),
   if_neg (fun hc=>hc (qA (f:=fun i=>jo names gs (e.vars.getD i default).sigla) h10)),if_neg (by rw [qaj,h11];simp)]
theorem qen (names:List Str) (gs:List Gr) (e:En): ∀i,(kI names gs e i).2=false→ ∀x:Int,(x∈(kI names gs e i).1↔x∈zz names gs e.sup∨ ∃j,j<i∧x∈zz names gs (e.vars.getD j default).sigla):=by
 intro i
 induction i with
 |zero=>intro _ x;simp [kI]
 |succ i ih=>
  intro h x
  rw [jR]at h ⊢
  simp only [Bool.or_eq_false_iff]at h
  have hi:=ih h.1 x
  have hb1:x∈(kI names gs e i).1→0≤x∧x<64:=fun hx=>zN (kD (qh3 names gs e i).1).1 x hx
  have hb2:x∈zz names gs (e.vars.getD i default).sigla→0≤x∧x<64:=fun hx=>zN (kD (qap names gs _).1).1 x hx
  have hm:x∈qS (fun k=>decide ((k:Int)∈(kI names gs e i).1)||decide ((k:Int)∈zz names gs (e.vars.getD i default).sigla)) 64↔x∈(kI names gs e i).1∨x∈zz names gs (e.vars.getD i default).sigla:=by
   unfold qS
   rw [List.mem_map]
   constructor
   ·rintro ⟨k,hk,rfl⟩
    have:=(List.mem_filter.1 hk).2
    simpa [Bool.or_eq_true] using this
   ·intro hx
    have hb:0≤x∧x<64:=hx.elim hb1 hb2
    refine ⟨x.toNat,List.mem_filter.2 ⟨List.mem_range.2 (by omega),?_⟩,by simp;omega⟩
    rw [show ((x.toNat:Nat):Int)=x by omega]
    simpa [Bool.or_eq_true] using hx
  simp only [hm,hi]
  constructor
  ·rintro ((h|⟨j,hj,hx⟩)|hx)
   ·exact .inl h
   ·exact .inr ⟨j,by omega,hx⟩
   ·exact .inr ⟨i,by omega,hx⟩
  ·rintro (h|⟨j,hj,hx⟩)
   ·exact .inl (.inl h)
   ·by_cases e':j=i
    ·subst e';exact .inr hx
    ·exact .inl (.inr ⟨j,by omega,hx⟩)
theorem qfy (names:List Str) (gs:List Gr) (e:En) {i k:Nat} (hik:i≤k) (h:(kI names gs e k).2=false):(kI names gs e i).2=false:=by
 induction hik with
 |refl=>exact h
 |step _ ih=>rw [jR]at h;simp only [Bool.or_eq_false_iff]at h;exact ih h.1
theorem qbH {names:List Str} {gs:List Gr} {e:En} {n:Nat} (h:(kI names gs e n).2=false) {i k:Nat} (hik:i<k) (hk:k<n) {x:Int} (hx:x∈zz names gs (e.vars.getD i default).sigla): ¬x∈zz names gs (e.vars.getD k default).sigla:=by
 have h1:=qfy names gs e (show k+1≤n from hk) h
 have h0:=qfy names gs e (show k≤n by omega) h
 rw [jR]at h1
 simp only [Bool.or_eq_false_iff,List.any_eq_false]at h1
 have:=h1.2 x ((qen names gs e k h0 x).2 (.inr ⟨i,hik,hx⟩))
 simpa using this
end RC
end
section
open Go Go.Proofs AF HY LN
namespace RC
set_option maxHeartbeats 8000000
section
variable {k v w : Nat} {h : List AObj} {o o' : AObj} {ty : TypeId} {cs : List AV}
theorem cellsOf_setm (hk:k<h.length):cellsOf (qD k h (.mem w ty cs)) k v=if w=v then some cs else none:=by
 have:=qex (l:= []) (v:=v) (w:=w) (ty:=ty) (cs:=cs) hk
 simpa using this
theorem setO_setm:qD k (qD k h o) o'=qD k h o':=qeb
theorem tyOf_setm (hk:k<h.length):qvS (qy k (qD k h (.mem w ty cs)))=ty:=by rw [zR hk];rfl
end
attribute [go_sem] cellsOf_setm setO_setm tyOf_setm
theorem qcY {k v:Nat} {h:List AObj} {ty:TypeId} {cs:List AV} (hl: ∀n,∀c∈cs,zy n c=true): ∀o∈qD k h (.mem v ty cs),o∈h∨k9 h.length o:=by
 intro o ho
 rcases qay ho with h1|rfl
 ·exact .inl h1
 ·exact .inr (fun c hc=>hl _ c hc)
theorem qzM (l:List En) (k v:Nat) (ty:TypeId) (h:List AObj) (hk:qy k h=some (.mem v ty (jv l))) (hl:l.length≤1000000) (h0:0<l.length):
  qm Tryz.prog 147 [.osl k v 6 0 l.length,.int .i64 0,.int .i64 l.length,.fn (.func 80) [] []] h (.tup []) (qD k h (.mem v ty (jv (z7 l)))):=by
 have c80:=fun a b h=>qw8 a b h
 have hkl:=zI hk
 have e0:h=qD k h (.mem v ty (jv (qnC l 1))):=by rw [qnE h0];exact (qea hk).symm
 obtain ⟨n,hn⟩: ∃n,n=l.length:=⟨_,rfl⟩
 rw [←hn]at hl h0 ⊢
 refine acO qpu ?_
 simp (disch:=omega) only [qqj,List.replicate,go_sem]
 repeat' first
  |((first|apply qc|apply qb);exact rvk;simp only [go_sem];first|exact VLe.refl _|apply qd|apply qa|apply qe|skip)
  |with_reducible first|refine And.intro ?_ ?_|intro _
 all_goals try exact clz
 refine qn (T:=fun i:Nat=>qI 53 [(0,.osl k v 6 0 n),(1,.int .i64 0),(2,.int .i64 n),(3,.fn (.func 80) [] []),(8,.int .i64 i)]) (H:=fun i=>qD k h (.mem v ty (jv (qnC l i))))
  (inv:=fun i=>1≤i∧i≤n) (m:=fun i=>n-i) 1 ⟨by omega,by omega⟩ ?_ ?_
 ·rw [←e0]
  refine Wk.temps ?_
  (simp only [List.replicate,go_sem,qj,qh,qg,qi];try (repeat' first|(with_reducible refine And.intro ?_ ?_)|(apply qd;omega)|(apply qa;rfl)|exact VLe.refl _))
 rintro i ⟨i1,i2⟩ K hK
 by_cases hi:i<n
 ·have q0:((i:Int)<n)=True:=eq_true (by omega)
  simp (disch:=omega) only [List.replicate,q0,go_sem]
  repeat' first
   |((first|apply qc|apply qb);exact rvk;simp only [go_sem];first|exact VLe.refl _|apply qd|apply qa|apply qe|skip)
   |with_reducible first|refine And.intro ?_ ?_|intro _
  all_goals try exact clz
  have hil:i<l.length:=by omega
  have hst:=qrq hil
  have hend:=fun j=>qnD (l:=l) (i:=i) (j:=j) hil
  have hML:=qc3 (l:=l) (i:=i) (by omega)
  obtain ⟨x,hx⟩: ∃x,x=l.getD i default:=⟨_,rfl⟩
  obtain ⟨M,hM⟩: ∃M,M=qf0 l i:=⟨_,rfl⟩
  obtain ⟨r,hr⟩: ∃r,r=l.drop (i+1):=⟨_,rfl⟩
  have hrl:r.length=n-(i+1):=by rw [hr,List.length_drop,hn]
  rw [←hx,←hM,←hr]at hst
  simp only [←hx,←hM,←hr]at hend
  rw [←hM]at hML
  refine qn (T:=fun j:Nat=>qI 53 [(0,.osl k v 6 0 n),(1,.int .i64 0),(2,.int .i64 n),(3,.fn (.func 80) [] []),(8,.int .i64 i),(9,.int .i64 j)]) (H:=fun j=>qD k h (.mem v ty (jv (jZ M x j r))))
   (inv:=fun j=>j≤i∧ ∀u,j≤u→u<i→qbv x (M.getD u default)=true) (m:=fun j=>j) i ⟨Nat.le_refl _,fun u h1 h2=>by omega⟩ ?_ ?_
  ·rw [hst]
   refine Wk.temps ?_
   (simp only [List.replicate,go_sem,qj,qh,qg,qi];try (repeat' first|(with_reducible refine And.intro ?_ ?_)|(apply qd;omega)|(apply qa;rfl)|exact VLe.refl _))
  rintro j ⟨j1,j2⟩ K2 hK2
  have eL:=qj2 (M:=M) (x:=x) (j:=j) (r:=r) (by omega)
  have eC:=jW (jZ M x j r)
  rw [eL]at eC
  cases j with
  |zero=>
   have z0:((0:Nat):Int)=0:=rfl
   have z1:((0:Int)<0)=False:=eq_false (by omega)
   rw [z0]
   simp (disch:=omega) only [List.replicate,z1,go_sem]
   repeat' first
    |(refine qo ( .bool false) ?_;simp (disch:=omega) only [z1,go_sem])
    |((first|apply qc|apply qb);exact rvk;simp only [go_sem];first|exact VLe.refl _|apply qd|apply qa|apply qe|skip)
    |with_reducible first|refine And.intro ?_ ?_|intro _
   all_goals try exact clz
   refine hK _ _ (i+1) ⟨by omega,by omega⟩ (by omega) ?_
   rw [hend 0 (Nat.zero_le _) j2 (.inl rfl)]
   refine Wk.temps ?_
   (simp only [List.replicate,go_sem,qj,qh,qg,qi];try (repeat' first|(with_reducible refine And.intro ?_ ?_)|(apply qd;omega)|(apply qa;rfl)|exact VLe.refl _))
  |succ m=>
   have ec:((m+1:Nat):Int)=(m:Int)+1:=by omega
   rw [ec]
   have q1:(0<(m:Int)+1)=True:=eq_true (by omega)
   have q2:((m:Int)+1<n)=True:=eq_true (by omega)
   have q3:((m:Int)<n)=True:=eq_true (by omega)
   have q4:(0≤(m:Int)+1)=True:=eq_true (by omega)
   have q5:(0≤(m:Int))=True:=eq_true (by omega)
   have rt1:((m:Int)+1).toNat=m+1:=by omega
   have g1:=qby (L:=jZ M x (m+1) r) (i:=m+1) (by omega)
   have g2:=qby (L:=jZ M x (m+1) r) (i:=m) (by omega)
   rw [qro (by omega)]at g1
   rw [qrp (by omega)]at g2
   have f1:((m+1)*6+6≤(M.length+1+r.length)*6)=True:=eq_true (by omega)
   have f2:(m*6+6≤(M.length+1+r.length)*6)=True:=eq_true (by omega)
   have f3:=qaL
   obtain ⟨y,hy⟩: ∃y,y=M.getD m default:=⟨_,rfl⟩
   rw [←hy]at g2
   have es1:=qcN (L:=jZ M x (m+1) r) (i:=m+1) y (by omega)
   have esw:=qgX (M:=M) (x:=x) (j:=m) (r:=r) (by omega)
   rw [←hy]at esw
   obtain ⟨zs,hzs⟩: ∃zs,zs=(jZ M x (m+1) r).set (m+1) y:=⟨_,rfl⟩
   rw [←hzs]at es1 esw
   have ezl:zs.length=M.length+1+r.length:=by rw [hzs,List.length_set,eL]
   have eC2:=jW zs
   rw [ezl]at eC2
   have es2:=qcN (L:=zs) (i:=m) x (by omega)
   rw [esw]at es2
   cases hlt:qbv x y with
   |true=>
    have hd:(qqs x y<0)=True:=eq_true ((qjl x y).2 hlt)
    simp (disch:=omega) only [List.replicate,q1,q2,q3,q4,q5,rt1,g1,g2,f1,f2,f3,Int.add_sub_cancel,Int.toNat_natCast,eC,go_sem]
    repeat' first
     |(refine jd (c80 _ _ _) ?_;simp (disch:=omega) only [q1,q2,q3,q4,q5,rt1,g1,g2,f1,f2,f3,Int.add_sub_cancel,Int.toNat_natCast,eC,eC2,hd,es1,es2,go_sem])
     |((first|apply qc|apply qb);exact rvk;simp only [go_sem];first|exact VLe.refl _|apply qd|apply qa|apply qe|skip)
     |with_reducible first|refine And.intro ?_ ?_|intro _
    all_goals try exact clz
    refine hK2 _ _ m ⟨by omega,fun u h1 h2=> ?_⟩ (by omega) (Wk.temps ?_)
    ·by_cases e:u=m
     ·subst e;rw [←hy];exact hlt
     ·exact j2 u (by omega) h2
    ·(simp only [List.replicate,go_sem,qj,qh,qg,qi];try (repeat' first|(with_reducible refine And.intro ?_ ?_)|(apply qd;omega)|(apply qa;rfl)|exact VLe.refl _))
   |false=>
    have hd:(qqs x y<0)=False:=eq_false (fun hc=>by rw [(qjl x y).1 hc]at hlt;cases hlt)
    simp (disch:=omega) only [List.replicate,q1,q2,q3,q4,q5,rt1,g1,g2,f1,f2,f3,Int.add_sub_cancel,Int.toNat_natCast,eC,go_sem]
    repeat' first
     |(refine jd (c80 _ _ _) ?_;simp (disch:=omega) only [q1,q2,q3,q4,q5,rt1,g1,g2,f1,f2,f3,Int.add_sub_cancel,Int.toNat_natCast,eC,hd,go_sem])
     |((first|apply qc|apply qb);exact rvk;simp only [go_sem];first|exact VLe.refl _|apply qd|apply qa|apply qe|skip)
     |with_reducible first|refine And.intro ?_ ?_|intro _
    all_goals try exact clz
    refine hK _ _ (i+1) ⟨by omega,by omega⟩ (by omega) ?_
    rw [hend (m+1) j1 j2 (.inr (by rw [show m+1-1=m by omega,←hy];exact hlt))]
    refine Wk.temps ?_
    (simp only [List.replicate,go_sem,qj,qh,qg,qi];try (repeat' first|(with_reducible refine And.intro ?_ ?_)|(apply qd;omega)|(apply qa;rfl)|exact VLe.refl _))
 ·have e:i=n:=by omega
  subst e
  have q0:((i:Int)<i)=False:=eq_false (by omega)
  simp (disch:=omega) only [List.replicate,q0,go_sem]
  repeat' first
   |((first|apply qc|apply qb);exact rvk;simp only [go_sem];first|exact VLe.refl _|apply qd|apply qa|apply qe|skip)
   |with_reducible first|refine And.intro ?_ ?_|intro _
  all_goals try exact clz
  have e2:qnC l i=z7 l:=by
   unfold qnC
   rw [hn,qoa,List.drop_length,List.append_nil]
  rw [e2]
  exact jG trivial qR (qcY (qbz _)) ⟨rfl,rfl⟩ (VLe.refl _)
end RC
end
section
open Go Go.Proofs AF HY LN
namespace AF
theorem jm {P:Program} {b:Nat} {x y z:C} {Q:Ex→Nx} {t:List AV} {h:List AObj} (H:qO P b ((x.seq y).seq z) Q t h):qO P b (x.seq (y.seq z)) Q t h:=by
 refine jF (x:=x) (fun e t h H=> ?_) H
 cases e with
 |normal=>exact H
 |ret=>exact H
 |exit id=>exact H
theorem qr3 {P:Program} {b:Nat} {x y:C} {Q:Ex→Nx} {t:List AV} {h:List AObj} (I:List AV→List AObj→Prop) (hx: ∀K:Nx,(∀t h,I t h→K t h)→qO P b x (Ex.andThen K Q) t h)
  (hy: ∀t h,I t h→qO P b y Q t h):qO P b (x.seq y) Q t h:=hx _ hy
theorem Wk.cells {t:List AV} {h:List AObj} {j v:Nat} {ty:TypeId} {cs cs':List AV} (hj:qy j h=some (.mem v ty cs)) (hc:ki cs cs'):Wk t h t (qD j h (.mem v ty cs')):=by
 intro N w σ a H
 have hjl:j<σ.length:=by rw [H.hr.len];exact zI hj
 have ho:=qU hjl
 obtain ⟨m1,m2,b,arr,m3,m4,m5,m6,m7,m8⟩:=H.hr.obj j _ _ hj ho
 have q:=H.hr.recell (cs':=cs') hj ho m3 m4 m5 (by rw [hc.length];exact m6) (fun i x hi hx=>m7 i x (by rw [←hc.length];exact hi) hx) (fun i c x hi hx=>by
  obtain ⟨c0,h1,h2⟩:=hc.get i c hi
  exact h2 _ _ _ (m8 i c0 x h1 hx))
 exact ⟨σ,⟨q,H.sz,H.tm,H.df⟩,Ext.refl _ _⟩
end AF
namespace RC
set_option maxHeartbeats 4000000
theorem qz4 (l:List En) (k v:Nat) (ty:TypeId) (h:List AObj) (hk:qy k h=some (.mem v ty (jv l))) (hl:l.length<20) (h0:0<l.length):
  qm Tryz.prog 120 [.osl k v 6 0 l.length,.int .i64 l.length,.fn (.func 80) [] []] h (.tup []) (qD k h (.mem v ty (jv (z7 l)))):=by
 have c147:=qzM l k v ty h hk (by omega) h0
 have q1:((20:Int)≤l.length)=False:=eq_false (by omega)
 have q2:((20:Int)<l.length)=False:=eq_false (by omega)
 refine acO qpq ?_
 simp (disch:=omega) only [qqf,List.replicate,go_sem]
 repeat' first
  |((first|apply qc|apply qb);exact rvk;simp only [go_sem];first|exact VLe.refl _|apply qd|apply qa|apply qe|skip)
  |with_reducible first|refine And.intro ?_ ?_|intro _
 all_goals try exact clz
 refine qn (T:=fun _:Unit=>qI 63 [(0,.osl k v 6 0 l.length),(1,.int .i64 l.length),(2,.fn (.func 80) [] []),(6,.int .i64 20),(7,.int .i64 0),(8,.int .i64 20)]) (H:=fun _=>h) (inv:=fun _=>True) (m:=fun _=>0) () trivial (Wk.temps ?_) ?_
 ·(simp only [List.replicate,go_sem,qj,qh,qg,qi];try (repeat' first|(with_reducible refine And.intro ?_ ?_)|(apply qd;omega)|(apply qa;rfl)|exact VLe.refl _))
 rintro _ _ K hK
 simp (disch:=omega) only [List.replicate,q1,go_sem]
 repeat' first
  |((first|apply qc|apply qb);exact rvk;simp only [go_sem];first|exact VLe.refl _|apply qd|apply qa|apply qe|skip)
  |with_reducible first|refine And.intro ?_ ?_|intro _
 all_goals try exact clz
 refine zD c147 (by exact flk) ?_
 simp (disch:=omega) only [go_sem]
 repeat' first
  |((first|apply qc|apply qb);exact rvk;simp only [go_sem];first|exact VLe.refl _|apply qd|apply qa|apply qe|skip)
  |with_reducible first|refine And.intro ?_ ?_|intro _
 all_goals try exact clz
 refine qn (T:=fun _:Unit=>qI 63 [(0,.osl k v 6 0 l.length),(1,.int .i64 l.length),(2,.fn (.func 80) [] []),(6,.int .i64 20)]) (H:=fun _=>qD k h (.mem v ty (jv (z7 l)))) (inv:=fun _=>True) (m:=fun _=>0) () trivial (Wk.temps ?_) ?_
 ·(simp only [List.replicate,go_sem,qj,qh,qg,qi];try (repeat' first|(with_reducible refine And.intro ?_ ?_)|(apply qd;omega)|(apply qa;rfl)|exact VLe.refl _))
 rintro _ _ K2 hK2
 simp (disch:=omega) only [List.replicate,q2,go_sem]
 repeat' first
  |((first|apply qc|apply qb);exact rvk;simp only [go_sem];first|exact VLe.refl _|apply qd|apply qa|apply qe|skip)
  |with_reducible first|refine And.intro ?_ ?_|intro _
 all_goals try exact clz
 exact jG trivial qR (qcY (qbz _)) ⟨rfl,rfl⟩ (VLe.refl _)
theorem qz2 (l:List En) (k v:Nat) (ty:TypeId) (h:List AObj) (hk:qy k h=some (.mem v ty (jv l))) (hl:l.length<20) (h0:0<l.length):
  qm Tryz.prog 79 [.osl k v 6 0 l.length,.fn (.func 80) [] []] h (.tup []) (qD k h (.mem v ty (jv (z7 l)))):=by
 have c120:=qz4 l k v ty h hk hl h0
 have hv:zd h k v=true:=by rw [qdS,hk];simp [qfQ]
 refine acO quS ?_
 simp (disch:=omega) only [qw0,List.replicate,hv,go_sem]
 repeat' first
  |((first|apply qc|apply qb);exact rvk;simp only [go_sem];first|exact VLe.refl _|apply qd|apply qa|apply qe|skip)
  |with_reducible first|refine And.intro ?_ ?_|intro _
 all_goals try exact clz
 refine zD c120 (by exact flk) ?_
 simp (disch:=omega) only [go_sem]
 repeat' first
  |((first|apply qc|apply qb);exact rvk;simp only [go_sem];first|exact VLe.refl _|apply qd|apply qa|apply qe|skip)
  |with_reducible first|refine And.intro ?_ ?_|intro _
 all_goals try exact clz
 exact jG trivial qR (qcY (qbz _)) ⟨rfl,rfl⟩ (VLe.refl _)
theorem qj9 {L:List En} (h:L≠ []):valP (.isnil .slice false) [qz L]= .bool false:=by
 unfold qz
 rw [qaF,if_neg (by simpa using h)]
 rfl
theorem qzu (h:List AObj):qm Tryz.prog 31 [qz []] h (qz []) h:=by
 have s1:=fun h=>qlt h []
 have z0:valP (.isnil .slice false) [qz []]= .anyb:=rfl
 have z1:okP (.isnil .slice false) [qz []]=True:=eq_true trivial
 have e0:jv []= []:=rfl
 refine acO quJ ?_
 simp (disch:=omega) only [qwR,List.replicate,s1,z0,z1,e0,go_sem]
 repeat' first
  |((first|apply qc|apply qb);exact rvk;simp only [go_sem];first|exact VLe.refl _|apply qd|apply qa|apply qe|skip)
  |with_reducible first|refine And.intro ?_ ?_|intro _
 all_goals try exact clz
 ·exact zP
 ·rfl
 ·exact VLe.sl_eq rfl (fun i hi=>absurd hi (by simp))
theorem qyX (L:List En) (h:List AObj) (k:Nat) (hk:qN h k=true) (h0:L≠ []) (hl:L.length≤1000000):
  qm Tryz.prog 31 [qz L] h (.osl k (qx (qy k h)+1) 6 0 L.length) (qD k h (.mem (qx (qy k h)+1) 49 (jv L))):=by
 have s1:=fun h=>qlt h L
 have eP:=jW L
 have hp:=List.length_pos_iff.2 h0
 have z0:=qj9 h0
 have z1:okP (.isnil .slice false) [qz L]=True:=eq_true trivial
 refine qp2 quJ k (by simp) ?_
 simp only [List.length_cons,List.length_nil,Nat.reduceAdd,Nat.reduceSub,List.replicate,List.cons_append,List.nil_append,List.append_nil]
 simp (disch:=omega) only [qwR,s1,z0,z1,go_sem]
 repeat' first
  |(with_reducible refine And.intro ?_ ?_)
  |(with_reducible intro _)
 all_goals first
  |omega
  |contradiction
  |skip
 ·rfl
 exact ⟨h.length+1,2,6,0,L.length,49,jv L,_,⟨trivial,trivial⟩,rfl,rfl,by omega,by simp only [go_sem],qbz L _,hk,rfl,rfl⟩
end RC
end
section
open Go Go.Proofs AF HY LN
namespace RC
set_option maxHeartbeats 4000000
theorem qp7 (L:List Int) (src:Int):jb (fun j=>decide (src=L.getD j 0)) L.length=decide (src∈L):=by
 by_cases h:src∈L
 ·rw [decide_eq_true h,za]
  obtain ⟨j,hj,e⟩:=List.getElem_of_mem h
  exact ⟨j,hj,decide_eq_true (by rw [gdqA,qU hj];exact e.symm)⟩
 ·rw [decide_eq_false h,qE]
  intro j hj
  refine decide_eq_false fun e=>h ?_
  rw [e,gdqA,qU hj]
  exact List.getElem_mem hj
theorem qxb (L:List Int) (x:Int) (h:List AObj) (hn:L.length≤1000000000):qm Tryz.prog 27 [ql L,.int .i64 x] h (.bool (decide (x∈L))) h:=by
 have:=qva qxu L.length (fun j=> .i (L.getD j 0)) (.i x) h (fun _ _=>rfl) (by omega)
 simp only [At.v,At.i.injEq]at this
 have c:=qtI qxn ⟨rfl,rfl⟩ ⟨rfl,rfl⟩ this
 rw [←qp7]
 exact c
theorem qzT (L:List Int) (x:Int) (h:List AObj) (hn:L.length≤1000000000):qm Tryz.prog 115 [ql L,.ip [.int .i64 x]] h (.bool (decide (x∈L))) h:=by
 have c27:=fun h=>qxb L x h hn
 refine acO qt9 ?_
 simp (disch:=omega) only [qs6,List.replicate,go_sem]
 repeat' first
  |((first|refine cA (c27 _) ?_ ?_|refine cG (fun e=>c27 _) ?_ ?_|refine cU (fun _=>c27 _) ?_ ?_);(next=>exact flk);simp (disch:=omega) only [go_sem])
  |((first|apply qc|apply qb);exact rvk;simp only [go_sem];first|exact VLe.refl _|apply qd|apply qa|apply qe|skip)
  |with_reducible first|refine And.intro ?_ ?_|intro _
 all_goals try exact clz
def stV (names:List Str) (gs:List Gr) (e:En):AV:= .sl e.vars.length fun j=> [ql (zz names gs (e.vars.getD j default).sigla)]
def msV (names:List Str) (gs:List Gr) (L:List En):AV:= .sl L.length fun i=> [stV names gs (L.getD i default)]
def edL (names:List Str) (gs:List Gr) (t:List Str) (L:List En):List AV:= [strs names,qt gs,strs t,qz L,msV names gs L]
theorem qnb (names:List Str) (gs:List Gr) (e:En):(stV names gs e).flag=true:=rfl
theorem qlC (names:List Str) (gs:List Gr) (e:En):(stV names gs e).strip=stV names gs e:=rfl
theorem qm9 (names:List Str) (gs:List Gr) (L:List En):(msV names gs L).flag=true:=rfl
theorem qlA (names:List Str) (gs:List Gr) (L:List En):(msV names gs L).strip=msV names gs L:=rfl
theorem qq9 {fz:Nat→Bool} {h:List AObj} {n:Nat} (names:List Str) (gs:List Gr) (e:En):frz fz h (n+1) (stV names gs e)=stV names gs e:=rfl
theorem qrZ {fz:Nat→Bool} {h:List AObj} {n:Nat} (names:List Str) (gs:List Gr) (e:En):rei fz h (n+1) (stV names gs e)=stV names gs e:=rfl
theorem qq8 {fz:Nat→Bool} {h:List AObj} {n:Nat} (names:List Str) (gs:List Gr) (L:List En):frz fz h (n+1) (msV names gs L)=msV names gs L:=rfl
theorem qrY {fz:Nat→Bool} {h:List AObj} {n:Nat} (names:List Str) (gs:List Gr) (L:List En):rei fz h (n+1) (msV names gs L)=msV names gs L:=rfl
attribute [go_sem] qnb qlC qm9 qlA qq9 qrZ qq8 qrY
theorem qxV (names:List Str) (gs:List Gr) (e:En) (src:Int) (h:List AObj) (hl:e.vars.length≤1000000000):
  qm Tryz.prog 114 [stV names gs e,.fn (.func 115) [] [.ip [.int .i64 src]]] h (.int .i64 (vIx names gs e src)) h:=by
 unfold stV vIx
 refine qj0 qt8 e.vars.length (fun j=> [ql (zz names gs (e.vars.getD j default).sigla)]) (fun j=>ql (zz names gs (e.vars.getD j default).sigla)) _ [] [.ip [.int .i64 src]] (inV names gs e src) h (fun i _=>⟨rfl,by simp [jA],rfl,rfl,rfl⟩) (fun i _=> ?_) (by omega)
 exact qzT _ src h (by have:=(qap names gs (e.vars.getD i default).sigla).2;omega)
def xsE (names:List Str) (gs:List Gr) (L:List En) (src:Int):List (List AV):=(L.filter (qai names gs src)).map fun e=> [.agg (enC e),strs (qgi names gs e src)]
theorem qqX {L:List En} {p:En→Bool} {i:Nat} (hi:i<L.length) (hp:p (L.getD i default)=true): ∃h:((L.take i).filter p).length<(L.filter p).length,(L.filter p)[((L.take i).filter p).length]=L.getD i default:=by
 have e1:L.getD i default=L[i]:=by rw [gdqA,qU hi];rfl
 have e:L.filter p=(L.take i).filter p++L[i]::(L.drop (i+1)).filter p:=by
  conv=>lhs;rw [←List.take_append_drop i L,List.filter_append,List.drop_eq_getElem_cons hi,List.filter_cons,if_pos (by rw [←e1];exact hp)]
 refine ⟨by rw [e];simp,?_⟩
 simp only [e]
 rw [List.getElem_append_right (Nat.le_refl _)]
 simp only [Nat.sub_self,List.getElem_cons_zero]
 exact e1.symm
theorem qjB {L:List En} {p:En→Bool} {i:Nat} (hi:i<L.length):((L.take (i+1)).filter p).length=((L.take i).filter p).length+if p (L.getD i default)=true then 1 else 0:=by
 have e1:L.getD i default=L[i]:=by rw [gdqA,qU hi];rfl
 rw [List.take_succ_eq_append_getElem hi,List.filter_append,List.length_append,List.filter_cons,e1]
 split<;>rfl
theorem qvT (names:List Str) (gs:List Gr) (e:En) (src:Int):vIx names gs e src<e.vars.length:=by
 unfold vIx
 rcases jH (inV names gs e src) e.vars.length with ⟨i,h1,_,_,h4⟩|⟨_,h2⟩
 ·rw [h4];omega
 ·rw [h2];omega
set_option maxHeartbeats 8000000 in
theorem itO (names:List Str) (gs:List Gr) (t:List Str) (L:List En) (src:Int) (hl:L.length≤1000000) (hv: ∀i,(L.getD i default).vars.length≤1000000000):
  qsU Tryz.prog 113 [.ip (edL names gs t L),.ip [.int .i64 src]] (xsE names gs L src):=by
 intro h ts LI S E hS hE body start hts
 refine acQ qt7 ?_
 simp (disch:=omega) only [qs5,List.replicate,edL,qz,go_sem]
 repeat' first
  |((first|apply qc|apply qb);exact rvk;simp only [go_sem];first|exact VLe.refl _|apply qd|apply qa|apply qe|skip)
  |with_reducible first|refine And.intro ?_ ?_|intro _
 all_goals try exact clz
 obtain ⟨p,hp⟩: ∃p,p=qai names gs src:=⟨_,rfl⟩
 have hxl:(xsE names gs L src).length=(L.filter p).length:=by rw [hp];simp [xsE]
 refine qn (T:=fun i:Nat×List AObj×AObj=>qI 37 [(0,.yld h.length),(1,.ip (edL names gs t L)),(2,.ip [.int .i64 src]),(8,qz L),(9,.int .i64 L.length),(10,.int .i64 i.1)])
  (H:=fun i=>i.2.1++ [.lp .ready ts LI]++ [i.2.2])
  (inv:=fun i=>i.1≤L.length∧S ((L.take i.1).filter p).length i.2.1∧qN [i.2.2] 0=true) (m:=fun i=>L.length-i.1) (0,h,.emp 0) ⟨Nat.zero_le _,start,rfl⟩ (Wk.temps ?_) ?_
 ·(simp only [edL,qz,List.replicate,go_sem,qj,qh,qg,qi];try (repeat' first|(with_reducible refine And.intro ?_ ?_)|(apply qd;omega)|(apply qa;rfl)|exact VLe.refl _))
 rintro ⟨i,hh,O⟩ ⟨i1,i2,i3⟩ K hK
 simp only at i1 i2 i3 hK
 obtain ⟨hlen,hlow⟩:=hS _ _ i2
 have hb:(h++ [AObj.lp LS.ready ts LI]).length=(hh++ [AObj.lp LS.ready ts LI]).length:=by simp [hlen]
 rw [hb]
 have i3': ∀m,qN (O::m) 0=true:=fun _=>i3
 by_cases hi:i<L.length
 ·have q0:((i:Int)<L.length)=True:=eq_true (by omega)
  have hst:=qjB (p:=p) hi
  have hfx:=qqX (p:=p) hi
  have hvl:=hv i
  have c114:=fun h=>qxV names gs (L.getD i default) src h hvl
  have hlt:=qvT names gs (L.getD i default) src
  have hpe:p (L.getD i default)=decide (0≤vIx names gs (L.getD i default) src):=by rw [hp];rfl
  have hX: ∀(hd:((L.take i).filter p).length<(xsE names gs L src).length),p (L.getD i default)=true→(xsE names gs L src)[((L.take i).filter p).length]= [.agg (enC (L.getD i default)),strs (qgi names gs (L.getD i default) src)]:=by
   intro hd hpp
   obtain ⟨h1,h2⟩:=hfx hpp
   unfold xsE
   simp only [List.getElem_map,←hp]
   rw [h2]
  have hW:qgi names gs (L.getD i default) src=((L.getD i default).vars.getD (vIx names gs (L.getD i default) src).toNat default).words:=rfl
  obtain ⟨x,hx⟩: ∃x,x=L.getD i default:=⟨_,rfl⟩
  have ex:=hx.symm
  simp only [ex]at c114 hst hlt hpe hX hvl hW hfx
  obtain ⟨d,hd⟩: ∃d,d=((L.take i).filter p).length:=⟨_,rfl⟩
  rw [←hd]at i2 hst hfx
  simp only [←hd]at hX
  obtain ⟨k,hk⟩: ∃k,k=vIx names gs x src:=⟨_,rfl⟩
  rw [←hk]at c114 hlt hpe hW
  by_cases hk0:0≤k
  ·obtain ⟨u,rfl⟩: ∃u:Nat,k=(u:Int):=⟨k.toNat,by omega⟩
   rw [Int.toNat_natCast]at hW
   rw [decide_eq_true hk0]at hpe
   rw [hpe,if_pos rfl]at hst
   have q1:((0:Int)≤u)=True:=eq_true hk0
   have q2:((u:Int)<x.vars.length)=True:=eq_true hlt
   have hdl:d<(xsE names gs L src).length:=by rw [hxl];exact (hfx hpe).1
   have hxx:=hX hdl hpe
   obtain ⟨wd,hwd⟩: ∃wd,wd=x.vars.getD u default:=⟨_,rfl⟩
   have ewd:=hwd.symm
   rw [ewd]at hW
   rw [hW]at hxx
   have hb':=fun O'=>body d hh [O'] hdl i2
   rw [hxx]at hb'
   simp (disch:=omega) only [List.replicate,edL,qz,msV,enC,i3',q0,ex,go_sem]
   unfold stV at c114
   repeat' first
    |((first|refine cA (c114 _) ?_ ?_|refine cG (fun e=>c114 _) ?_ ?_|refine cU (fun _=>c114 _) ?_ ?_);(next=>exact flk);simp (disch:=omega) only [edL,qz,msV,stV,enC,qB,vaC,i3',q0,q1,q2,ex,ewd,go_sem])
    |((first|apply qc|apply qb);exact rvk;simp only [go_sem];first|exact VLe.refl _|apply qd|apply qa|apply qe|skip)
    |with_reducible first|refine And.intro ?_ ?_|intro _
   all_goals try exact clz
   ·exact ⟨.ready,ts,LI,by rw [List.append_assoc];exact ky hlen⟩
   ·rw [List.append_assoc]
    refine kk.mono ?_ (hb' _)
    rintro v h' ⟨hh',⟨rfl,hn,rfl⟩|⟨st,rfl,hs',rfl⟩⟩
    ·simp (disch:=omega) only [q1,go_sem]
     repeat' first
      |((first|apply qc|apply qb);exact rvk;simp only [go_sem];first|exact VLe.refl _|apply qd|apply qa|apply qe|skip)
      |with_reducible first|refine And.intro ?_ ?_|intro _
     all_goals try exact clz
     refine hK _ _ (i+1,hh',.mem (qx (some O)+1) 49 (enC x)) ⟨hi,by simp only;rw [hst];exact hn,rfl⟩ (by simp only;omega) ?_
     simp only [List.append_assoc]
     refine Wk.temps ?_
     (simp only [edL,qz,List.replicate,go_sem,qj,qh,qg,qi];try (repeat' first|(with_reducible refine And.intro ?_ ?_)|(apply qd;omega)|(apply qa;rfl)|exact VLe.refl _))
    ·simp (disch:=omega) only [q1,go_sem]
     obtain ⟨r1,r2⟩:=(hE _ _ hs').ret (L:=LI) st hts
     have eO: ∀O',hh'++AObj.lp st ts LI:: [O']=(hh'++ [AObj.lp st ts LI])++ [O']:=fun _=>by simp
     rw [eO]
     exact qjQ trivial r1 r2 ⟨_,.inr ⟨st,hs',rfl⟩⟩ (VLe.refl _)
  ·have q1:(0≤k)=False:=eq_false hk0
   rw [decide_eq_false hk0]at hpe
   rw [hpe,if_neg (by simp),Nat.add_zero]at hst
   simp (disch:=omega) only [List.replicate,edL,qz,msV,enC,i3',q0,ex,go_sem]
   unfold stV at c114
   repeat' first
    |((first|refine cA (c114 _) ?_ ?_|refine cG (fun e=>c114 _) ?_ ?_|refine cU (fun _=>c114 _) ?_ ?_);(next=>exact flk);simp (disch:=omega) only [edL,qz,msV,stV,enC,qB,vaC,i3',q0,q1,ex,go_sem])
    |((first|apply qc|apply qb);exact rvk;simp only [go_sem];first|exact VLe.refl _|apply qd|apply qa|apply qe|skip)
    |with_reducible first|refine And.intro ?_ ?_|intro _
   all_goals try exact clz
   refine hK _ _ (i+1,hh,.mem (qx (some O)+1) 49 (enC x)) ⟨hi,by simp only;rw [hst];exact i2,rfl⟩ (by simp only;omega) ?_
   simp only
   refine Wk.temps ?_
   (simp only [edL,qz,List.replicate,go_sem,qj,qh,qg,qi];try (repeat' first|(with_reducible refine And.intro ?_ ?_)|(apply qd;omega)|(apply qa;rfl)|exact VLe.refl _))
 ·have e:i=L.length:=by omega
  subst e
  have q0:((L.length:Int)<L.length)=False:=eq_false (by omega)
  rw [List.take_length]at i2
  simp (disch:=omega) only [List.replicate,edL,qz,i3',q0,go_sem]
  repeat' first
   |((first|apply qc|apply qb);exact rvk;simp only [go_sem];first|exact VLe.refl _|apply qd|apply qa|apply qe|skip)
   |with_reducible first|refine And.intro ?_ ?_|intro _
  all_goals try exact clz
  obtain ⟨r1,r2⟩:=(hS _ _ i2).ret (L:=LI) .ready hts
  exact qno trivial r1 r2 ⟨hh,.inl ⟨by rw [hxl];exact i2,rfl⟩⟩ (VLe.refl _)
end RC
end
section
open Go Go.Proofs AF HY LN
namespace AF
theorem j5 {P:Program} {f:FuncId} {cap:List AV} {xs:List (List AV)} (hf:qsU P f cap xs) {ps:List Nat} {b:Nat} {x y:C} {Q:Ex→Nx} {ts:List AV} {h:List AObj} (hps: ∀a∈xs,a.length=ps.length)
  (S:Nat→List AObj→Prop) (E:Ex→List AObj→Prop) (hS: ∀i hh,S i hh→LowI h hh) (hE: ∀s hh,E s hh→LowI h hh)
  (start:S 0 h) (hts: ∀c∈ts,zy (h.length+1) c=true)
  (body: ∀i hh tl L TS,(hi:i<xs.length)→S i hh→hh.length=h.length→ ∀(K:Nx) (K2:Ex→Nx),
   (∀t2 X hm,X=hm++ .lp .ready TS L::tl→hm.length=h.length→qO P b y K2 t2 (hm++ .lp .busy TS L::tl)→K t2 X)→
   (∀t3 X hh',X=hh'++ .lp .busy TS L::tl→hh'.length=h.length→S (i+1) hh'→K2 .normal t3 X)→
   (∀t3 X hh',X=hh'++ .lp .busy TS L::tl→hh'.length=h.length→E .ret hh'→K2 .ret t3 X)→
   (∀id t3 X hh',X=hh'++ .lp .busy TS L::tl→hh'.length=h.length→E (.exit id) hh'→K2 (.exit id) t3 X)→
   qO P b x (Ex.andThen K (fun _ _ _=>False)) (qaX ts ps (xs[i])) (hh++ .lp .ready TS L::tl))
  (done: ∀hh,S xs.length hh→Q .normal ts hh) (doneE: ∀e hh,E e hh→match e with
   | .normal=>False
   |e=>Q e ts hh):
  qd3 P (.fn (.func f) [] cap) ps (qO P b x) (qO P b y) Q ts h:=by
 intro L hy
 show zV _ _ _ _ _
 have key:=hf h ts L S (fun s hh=>match s with
  | .ret=>E .ret hh
  | .exit id=>E (.exit id) hh
  |_=>False) hS
  (by
   intro s hh hs
   cases s with
   |ret=>exact hE _ _ hs
   |exit id=>exact hE _ _ hs
   |ready=>exact hs.elim
   |busy=>exact hs.elim)
  (by
   intro i hh tl hi i4
   have hlen:=(hS _ _ i4).1
   refine hy h.length ts _ _ _ (ky hlen) (hps _ (List.getElem_mem hi)) ?_
   refine jF (Q:=Ex.andThen (fun t2 h2=> ∃hm,hm.length=h.length∧h2=hm++ .lp .ready ts L::tl∧
    qO P b y (fun e t3 h3=> ∃hh',h3=hh'++ .lp .busy ts L::tl∧hh'.length=h.length∧match e with
     | .normal=>S (i+1) hh'
     | .ret=>E .ret hh'
     | .exit id=>E (.exit id) hh') t2 (hm++ .lp .busy ts L::tl)) (fun _ _ _=>False)) ?_
    (body i hh tl L ts hi i4 hlen _ _ (fun t2 X hm e1 e2 e3=>⟨hm,e2,e1,e3⟩) (fun t3 X hh' e1 e2 e3=>⟨hh',e1,e2,e3⟩) (fun t3 X hh' e1 e2 e3=>⟨hh',e1,e2,e3⟩) (fun id t3 X hh' e1 e2 e3=>⟨hh',e1,e2,e3⟩))
   intro e t2 h2 hq
   cases e with
   |ret=>exact hq.elim
   |exit id=>exact hq.elim
   |normal=>
    obtain ⟨hm,hml,rfl,h3⟩:=hq
    refine ⟨rfl,⟨ts,ky hml⟩,fun ts' hts'=> ?_⟩
    rw [ky hml]at hts'
    cases hts'
    rw [qbi hml]
    refine jF ?_ h3
    rintro e t3 h3' ⟨hh',rfl,g1,g2⟩
    refine ⟨ts,ky g1,?_⟩
    cases e with
    |normal=>exact ⟨hh',.inl ⟨rfl,g2,qbi g1⟩⟩
    |ret=>exact ⟨hh',.inr ⟨.ret,rfl,g2,qbi g1⟩⟩
    |exit id=>exact ⟨hh',.inr ⟨.exit id,rfl,g2,qbi g1⟩⟩)
  start hts
 refine key.le (ki.refl _) ?_
 rintro v h' ⟨hh,⟨g1,rfl⟩|⟨s,g1,rfl⟩⟩
 ·have hl:=hS _ _ g1
  exact ⟨v,VLe.refl _,hh,.ready,ts,L,rfl,hl.1,fun o ho=>(hl.2 o ho).imp (fun h=>h) And.left,done hh g1⟩
 ·cases s with
  |ready=>exact g1.elim
  |busy=>exact g1.elim
  |ret=>
   have hl:=hE _ _ g1
   exact ⟨v,VLe.refl _,hh,.ret,ts,L,rfl,hl.1,fun o ho=>(hl.2 o ho).imp (fun h=>h) And.left,doneE _ _ g1⟩
  |exit id=>
   have hl:=hE _ _ g1
   exact ⟨v,VLe.refl _,hh,.exit id,ts,L,rfl,hl.1,fun o ho=>(hl.2 o ho).imp (fun h=>h) And.left,doneE _ _ g1⟩
end AF
namespace RC
set_option maxHeartbeats 4000000
theorem ofP (names:List Str) (gs:List Gr) (t:List Str) (L:List En) (src:Int) (h:List AObj):
  qm Tryz.prog 75 [.agg (edL names gs t L),.int .i64 src] h (.fn (.func 113) [] [.ip (edL names gs t L),.ip [.int .i64 src]]) h:=by
 unfold edL
 refine acO qxC ?_
 simp (disch:=omega) only [qyL,List.replicate,go_sem]
 repeat' first
  |((first|apply qc|apply qb);exact rvk;simp only [go_sem];first|exact VLe.refl _|apply qd|apply qa|apply qe|skip)
  |with_reducible first|refine And.intro ?_ ?_|intro _
 all_goals try exact clz
theorem qbB (n:Nat) (L:List Str):zy n (strs L)=true:=rfl
theorem qcX (n:Nat) (L:List Gr):zy n (qt L)=true:=rfl
theorem qcW (n:Nat) (L:List En):zy n (qz L)=true:=rfl
theorem qeP (n:Nat) (names:List Str) (gs:List Gr) (L:List En):zy n (msV names gs L)=true:=rfl
theorem qa3 (names:List Str) (gs:List Gr) (L:List En) (src:Int):(xsE names gs L src).length=(L.filter (qai names gs src)).length:=by simp [xsE]
theorem qfv (names:List Str) (gs:List Gr) (L:List En) (src:Int) {i:Nat} (hi:i<(xsE names gs L src).length):
  (xsE names gs L src)[i]= [.agg (enC ((L.filter (qai names gs src)).getD i default)),strs (qgi names gs ((L.filter (qai names gs src)).getD i default) src)]:=by
 have hi':i<(L.filter (qai names gs src)).length:=by rw [qa3]at hi;exact hi
 simp only [xsE,List.getElem_map]
 rw [gdqA,qU hi']
 rfl
theorem qfw (names:List Str) (gs:List Gr) (L:List En) (src:Int): ∀a∈xsE names gs L src,a.length=2:=by
 intro a ha
 unfold xsE at ha
 obtain ⟨_,_,rfl⟩:=List.mem_map.1 ha
 rfl
theorem qy0 (names:List Str) (gs:List Gr) (t:List Str) (L:List En) (src:Int) (h:List AObj) (hl:L.length≤1000000) (hv: ∀i,(L.getD i default).vars.length≤1000000000):
  qm Tryz.prog 46 [.agg (edL names gs t L),.int .i64 src] h (.int .i64 (L.filter (qai names gs src)).length) h:=by
 have c75:=fun h=>ofP names gs t L src h
 have hle:=List.length_filter_le (qai names gs src) L
 unfold edL at c75
 refine acO qxr ?_
 simp (disch:=omega) only [qyB,List.replicate,edL,go_sem]
 repeat' first
  |((first|refine cA (c75 _) ?_ ?_|refine cG (fun e=>c75 _) ?_ ?_|refine cU (fun _=>c75 _) ?_ ?_);(next=>exact flk);simp (disch:=omega) only [go_sem])
  |((first|apply qc|apply qb);exact rvk;simp only [go_sem];first|exact VLe.refl _|apply qd|apply qa|apply qe|skip)
  |with_reducible first|refine And.intro ?_ ?_|intro _
 all_goals try exact clz
 refine j5 (xs:=xsE names gs L src) (itO names gs t L src hl hv) (qfw names gs L src)
  (S:=fun i hh=>hh=h++ [.mem 1 71 (edL names gs t L),.mem 1 3 [.int .i64 i]]) (E:=fun _ _=>False) ?_ (fun _ _ h=>h.elim) ?_ ?_ ?_ ?_ (fun _ _ h=>h.elim)
 ·rintro i hh rfl
  refine LowI.app rfl (fun o ho=> ?_)
  simp only [List.mem_cons,List.not_mem_nil,or_false]at ho
  rcases ho with rfl|rfl
  ·left;simp [edL]
  ·right;constructor<;>(intro c hc;simp at hc;subst hc;rfl)
 ·rfl
 ·simp [zy,zy.lowVs,edL,qbB,qcX,qcW,qeP]
  try omega
 ·rintro i hh tl LI TS hi rfl hlen K K2 hK hN hR hX
  rw [qfv names gs L src hi]
  rw [qa3]at hi
  simp only [qaX]
  simp (disch:=omega) only [List.append_assoc,go_sem]
  refine hK _ _ (h++ [.mem 1 71 (edL names gs t L),.mem 1 3 [.int .i64 i]]) (by simp) (by simp) ?_
  simp (disch:=omega) only [List.append_assoc,go_sem]
  repeat' first
   |((first|apply qc|apply qb);exact rvk;simp only [go_sem];first|exact VLe.refl _|apply qd|apply qa|apply qe|skip)
   |with_reducible first|refine And.intro ?_ ?_|intro _
  all_goals try exact clz
  refine hN _ _ (h++ [.mem 1 71 (edL names gs t L),.mem 1 3 [.int .i64 ((i+1:Nat):Int)]]) (by simp) (by simp) rfl
 ·rintro hh rfl
  rw [qa3]
  simp (disch:=omega) only [go_sem]
  repeat' first
   |((first|apply qc|apply qb);exact rvk;simp only [go_sem];first|exact VLe.refl _|apply qd|apply qa|apply qe|skip)
   |with_reducible first|refine And.intro ?_ ?_|intro _
  all_goals try exact clz
end RC
end
section
open Go Go.Proofs AF HY LN
namespace AF
theorem Wk.ownNil {t:List AV} {h:List AObj} {j v i k ve sz:Nat} {ty:TypeId} {cs:List AV} (hj:qy j h=some (.mem v ty cs)) (hi:cs[i]? =some .nl) (hk:qy k h=some (.emp ve)):
  Wk t h t (qD j h (.mem v ty (cs.set i (.osl k ve sz 0 0)))):=by
 intro N w σ a H
 have hjl:j<σ.length:=by rw [H.hr.len];exact zI hj
 have hkl:k<σ.length:=by rw [H.hr.len];exact zI hk
 have ho:=qU hjl
 have hok:=qU hkl
 obtain ⟨e1,e2⟩:=H.hr.obj k _ _ hk hok
 obtain ⟨m1,m2,b,arr,m3,m4,m5,m6,m7,m8⟩:=H.hr.obj j _ _ hj ho
 have q:=H.hr.recell (cs':=cs.set i (.osl k ve sz 0 0)) hj ho m3 m4 m5 (by simpa using m6) (fun n x hn hx=>m7 n x (by simpa using hn) hx) (fun n c x hn hx=>by
  rw [List.getElem?_set]at hn
  split at hn
  ·rename_i e
   subst e
   split at hn
   ·cases hn
    have hv:=m8 i _ x hi hx
    cases hv with
    |imm hv=>
     cases hv
     exact .osl _ hok ⟨none,0,0,rfl⟩ (Nat.le_of_eq e1.symm) (fun _=> .inl ⟨e2,rfl,rfl,rfl⟩)
   ·cases hn
  ·exact m8 n c x hn hx)
 exact ⟨σ,⟨q,H.sz,H.tm,H.df⟩,Ext.refl _ _⟩
end AF
namespace RC
set_option maxHeartbeats 4000000
def qb2 (names:List Str) (gs:List Gr) (t:List Str) (src:Int) (L:List En):List Str×Nat:=
 L.foldl (fun o e=>(o.1++(jB t o.2 e.frm.toNat++qgi names gs e src),e.to.toNat)) ([],0)
theorem qlI (names:List Str) (gs:List Gr) (t:List Str) (src:Int) (L:List En) (e:En):
  qb2 names gs t src (L++ [e])=((qb2 names gs t src L).1++(jB t (qb2 names gs t src L).2 e.frm.toNat++qgi names gs e src),e.to.toNat):=by
 unfold qb2
 rw [List.foldl_append]
 rfl
theorem qsj (names:List Str) (gs:List Gr) (t:List Str) (src:Int) (L:List En): ∀(o:List Str) (k:Nat),
  (L.foldl (fun o e=>(o.1++(jB t o.2 e.frm.toNat++qgi names gs e src),e.to.toNat)) (o,k)).1++jB t (L.foldl (fun o e=>(o.1++(jB t o.2 e.frm.toNat++qgi names gs e src),e.to.toNat)) (o,k)).2 t.length=o++qhH names gs t src L k:=by
 induction L with
 |nil=>
  intro o k
  simp only [List.foldl_nil,qhH,jB]
  rw [List.take_of_length_le (by simp)]
 |cons e r ih=>
  intro o k
  rw [List.foldl_cons,ih]
  simp [qhH]
theorem qge (names:List Str) (gs:List Gr) (t:List Str) (src:Int) (L:List En):
  (qb2 names gs t src L).1++jB t (qb2 names gs t src L).2 t.length=qhH names gs t src L 0:=by
 have:=qsj names gs t src L [] 0
 rw [List.nil_append]at this
 exact this
structure qwt (t:List Str) (L:List En):Prop where
 rg: ∀i,i<L.length→0≤(L.getD i default).frm∧(L.getD i default).frm≤(L.getD i default).to∧(L.getD i default).to≤t.length
 nx: ∀i,i+1<L.length→(L.getD i default).to≤(L.getD (i+1) default).frm
theorem qlH {L:List En} {i:Nat} (hi:i<L.length):L.take (i+1)=L.take i++ [L.getD i default]:=by
 rw [List.take_succ_eq_append_getElem hi,gdqA,qU hi]
 rfl
theorem qaE {names:List Str} {gs:List Gr} {t:List Str} {src:Int} {L:List En} {i:Nat} (hi:i<L.length):
  qb2 names gs t src (L.take (i+1))=((qb2 names gs t src (L.take i)).1++(jB t (qb2 names gs t src (L.take i)).2 (L.getD i default).frm.toNat++qgi names gs (L.getD i default) src),(L.getD i default).to.toNat):=by
 rw [qlH hi,qlI]
theorem qsi {names:List Str} {gs:List Gr} {t:List Str} {src:Int} {L:List En} (ok:qwt t L): ∀i,i<L.length→((qb2 names gs t src (L.take i)).2:Int)≤(L.getD i default).frm:=by
 intro i hi
 cases i with
 |zero=>exact (ok.rg 0 hi).1
 |succ i=>
  rw [qaE (by omega)]
  have:=ok.nx i hi
  have h2:=ok.rg i (by omega)
  show (((L.getD i default).to.toNat:Nat):Int)≤_
  omega
theorem qsk {names:List Str} {gs:List Gr} {t:List Str} {src:Int} {L:List En} (ok:qwt t L): ∀i,i≤L.length→(qb2 names gs t src (L.take i)).2≤t.length:=by
 intro i hi
 cases i with
 |zero=>exact Nat.zero_le _
 |succ i=>
  rw [qaE (by omega)]
  have h2:=ok.rg i (by omega)
  show ((L.getD i default).to.toNat:Nat)≤_
  omega
theorem ql6 {names:List Str} {gs:List Gr} {e:En} {src:Int} {W:Nat} (h: ∀i,(e.vars.getD i default).words.length≤W):(qgi names gs e src).length≤W:=h _
theorem qgf {names:List Str} {gs:List Gr} {t:List Str} {src:Int} {W:Nat} {L:List En} (h: ∀i,i<L.length→ ∀k,((L.getD i default).vars.getD k default).words.length≤W):
  ∀i,i≤L.length→(qb2 names gs t src (L.take i)).1.length≤i*(t.length+W):=by
 intro i
 induction i with
 |zero=>intro _;exact Nat.zero_le _
 |succ i ih=>
  intro hi
  rw [qaE (by omega)]
  have h1:=ih (by omega)
  have h2:=ql6 (names:=names) (gs:=gs) (src:=src) (h i (by omega))
  have h3:(jB t (qb2 names gs t src (L.take i)).2 (L.getD i default).frm.toNat).length≤t.length:=by unfold jB;simp;omega
  simp only [List.length_append,Nat.add_mul,Nat.one_mul]
  omega
theorem qeQ {names:List Str} {gs:List Gr} {l:List En} {src:Int} {e:En} (h:e∈ofE names gs l src):e∈l:=(kH l).subset (List.mem_filter.1 h).1
theorem zQ {L:List En} {i:Nat} (hi:i<L.length):L.getD i default∈L:=by
 rw [gdqA,qU hi]
 exact List.getElem_mem hi
theorem qpZ.tx {names:List Str} {gs:List Gr} {t:List Str} {l:List En} (h:qpZ names gs t l) {s:Nat} (hs:s<names.length):qwt t (ofE names gs l (s:Int)):=
 ⟨fun i hi=>(kw.1 (h.ck _ (qeQ (zQ hi)))).rng,fun i hi=>qmJ (qb7 h.cl hs) hi⟩
end RC
end
section
open Go Go.Proofs AF HY LN
namespace RC
set_option maxHeartbeats 4000000
structure CSz (names:List Str) (gs:List Gr) (t:List Str) (l:List En):Prop where
 hz:Szs names gs
 ht:TSz t
 tn:t.length≤1000
 ln:l.length≤10
 nn:names.length≤1000
 gm: ∀i,(gs.getD i default).mem.length≤1000
 he: ∀i,ESz (l.getD i default)
 vl: ∀i,(l.getD i default).vars.length≤1000
 sg: ∀i j,((l.getD i default).vars.getD j default).sigla.length≤1000
 wl: ∀i j,((l.getD i default).vars.getD j default).words.length≤1000
 sp: ∀i,(l.getD i default).sup.length≤1000
def inR (names:List Str) (src:Int):Bool:=decide (0≤src)&&decide (src<names.length)
def opE (e:Int):Int:=if e=0 then 0 else 1
def qmh (names:List Str) (gs:List Gr) (t:List Str) (l:List En) (src:Int):Int:=if rdE names gs t l=0 then (if inR names src=true then 0 else 2) else 1
def qx7 (names:List Str) (gs:List Gr) (t:List Str) (l:List En) (src:Int):List Str:=if qmh names gs t l src=0 then qfj names gs t l src else []
def qhX (names:List Str) (gs:List Gr) (t:List Str) (l:List En) (n:Nat):List (List Str):=(List.range n).map fun (s:Nat)=>qfj names gs t l (s:Int)
def qmc (names:List Str) (gs:List Gr) (t:List Str) (l:List En):List (List Str):=if rdE names gs t l=0 then qhX names gs t l names.length else []
def qxc (names:List Str) (gs:List Gr) (t:List Str) (l:List En) (src:Int):Int:=if qmh names gs t l src=0 then (ofE names gs l src).length else 0
def noE (names:List Str) (gs:List Gr) (l:List En) (s:Nat):Bool:=decide ((ofE names gs l (s:Int)).length=0)
def qwJ (names:List Str) (gs:List Gr) (t:List Str) (l:List En):List Int:=if rdE names gs t l=0 then qS (noE names gs l) names.length else []
def jC (L:List (List Str)):AV:= .sl L.length fun i=> [strs (L.getD i [])]
def qdj (L:List (List Str)):List AV:=L.map strs
theorem qgd (L:List (List Str)):(qdj L).length=L.length:=by simp [qdj]
theorem qoP (L M:List (List Str)):qdj (L++M)=qdj L++qdj M:=by simp [qdj]
theorem qoQ {L:List (List Str)} {i:Nat} (hi:i<L.length):((qdj L).drop i).take 1= [strs (L.getD i [])]:=by
 unfold qdj
 rw [←List.map_drop,List.drop_eq_getElem_cons hi,List.map_cons,List.take_succ_cons,List.take_zero,gdqA,qU hi]
 rfl
theorem qh5 (names:List Str) (gs:List Gr) (t:List Str) (l:List En) (n:Nat):qhX names gs t l (n+1)=qhX names gs t l n++ [qfj names gs t l (n:Int)]:=by
 unfold qhX;rw [List.range_succ,List.map_append];rfl
theorem qcD (names:List Str) (gs:List Gr) (t:List Str) (l:List En) (n:Nat):(qhX names gs t l n).length=n:=by simp [qhX]
theorem qgP (L:List (List Str)):(jC L).flag=true:=rfl
theorem qff (L:List (List Str)):(jC L).strip=jC L:=rfl
attribute [go_sem] qgP qff
theorem zO (L:List Str):(jp L).length=L.length:=by simp [jp]
theorem qbF (L M:List Str):jp (L++M)=jp L++jp M:=by simp [jp]
theorem qoH {L:List Str}:jp L= []↔L= []:=by simp [jp]
theorem qoI {L:List Str} {n:Nat} (g:AV→AV) (hg: ∀s,g (.str s)= .str s) (hn:n=L.length):VLe (.sl n fun i=>(((jp L).drop i).take 1).map g) (strs L):=by
 subst hn
 refine VLe.sl_eq rfl (fun i hi=> ?_)
 unfold jp
 rw [←List.map_drop,List.drop_eq_getElem_cons hi,List.map_cons,List.take_succ_cons,List.take_zero,List.map_cons,List.map_nil,hg,gdqA,qU hi]
 rfl
theorem qoR {L:List (List Str)} {n:Nat} (g:AV→AV) (hg: ∀s,g (strs s)=strs s) (hn:n=L.length):VLe (.sl n fun i=>(((qdj L).drop i).take 1).map g) (jC L):=by
 subst hn
 refine VLe.sl_eq rfl (fun i hi=> ?_)
 rw [qoQ hi,List.map_cons,List.map_nil,hg]
theorem qnh {α β:Type} (f:α→β) (L:List α):L.flatMap (fun i=> [f i])=L.map f:=by
 induction L with
 |nil=>rfl
 |cons a L ih=>rw [List.flatMap_cons,ih];rfl
theorem qe8 (h:List AObj) {t:List Str} {a b:Nat} (h1:a≤b) (h2:b≤t.length):qr h (.sl (b-a) fun i=> [.str (t.getD (a+i) [])])=some (b-a,jp (jB t a b)):=by
 show some (b-a,(List.range (b-a)).flatMap fun i=> [AV.str (t.getD (a+i) [])])=_
 rw [qnh (fun i=>AV.str (t.getD (a+i) []))]
 congr 2
 unfold jp jB
 apply List.ext_getElem
 ·simp;omega
 ·intro i g1 g2
  have hi:i<b-a:=by simpa using g1
  have hl:a+i<t.length:=by omega
  simp [gdqA,hl]
theorem qga (h:List AObj) (t:List Str):qr h (strs t)=some (t.length,jp t):=by
 have:=qe8 h (t:=t) (a:=0) (b:=t.length) (Nat.zero_le _) (Nat.le_refl _)
 simp only [Nat.sub_zero,Nat.zero_add]at this
 have e:jB t 0 t.length=t:=by simp [jB]
 rw [e]at this
 exact this
end RC
end
section
open Go Go.Proofs AF HY LN
namespace RC
set_option maxHeartbeats 8000000
def gwB (ws:List Str) (n:Nat):Bool:=jb (fun i=>decide (20<(ws.getD i []).length)) ws.length||decide (n<ws.length)
theorem kJ {p:Nat→Bool} {i:Nat} (h: ∀j,j<i→p j=false) (hp:p i=false): ∀j,j<i+1→p j=false:=by
 intro j hj
 by_cases e:j=i
 ·subst e;exact hp
 ·exact h j (by omega)
theorem gwP (ws:List Str) (n:Nat) (h:List AObj) (hn:ws.length≤9223372036854775807):qm Tryz.prog 144 [strs ws,.int .i64 n] h (.bool (gwB ws n)) h:=by
 obtain ⟨R,hR⟩: ∃R,R=gwB ws n:=⟨_,rfl⟩
 rw [←hR]
 unfold gwB at hR
 refine acO qul ?_
 simp (disch:=omega) only [qth,List.replicate,strs,go_sem]
 repeat' first
  |((first|apply qc|apply qb);exact rvk;simp only [go_sem];first|exact VLe.refl _|apply qd|apply qa|apply qe|skip)
  |with_reducible first|refine And.intro ?_ ?_|intro _
 all_goals try exact clz
 refine qn (T:=fun i:Nat=>qI 22 [(0,strs ws),(1,.int .i64 n),(5,.int .i64 i)]) (H:=fun _=>h) (inv:=fun i=>i≤ws.length∧ ∀j,j<i→(fun i=>decide (20<(ws.getD i []).length)) j=false) (m:=fun i=>ws.length-i) 0 ⟨Nat.zero_le _,fun j hj=>by omega⟩ (Wk.temps ?_) ?_
 ·(simp only [strs,List.replicate,go_sem,qj,qh,qg,qi];try (repeat' first|(with_reducible refine And.intro ?_ ?_)|(apply qd;omega)|(apply qa;rfl)|exact VLe.refl _))
 rintro i ⟨i1,i2⟩ K hK
 by_cases hi:i<ws.length
 ·have k1:((i:Int)<ws.length)=True:=eq_true (by omega)
  by_cases g:20<(ws.getD i []).length
  ·have hV:R=true:=by rw [hR,za.2 ⟨i,hi,decide_eq_true g⟩];rfl
   obtain ⟨s,hs⟩: ∃s,s=ws.getD i []:=⟨_,rfl⟩
   have es:=hs.symm
   rw [es]at g
   have k2:((20:Int)<s.length)=True:=eq_true (by omega)
   rw [hV]
   simp (disch:=omega) only [List.replicate,strs,k1,k2,es,go_sem]
   repeat' first
    |((first|apply qc|apply qb);exact rvk;simp only [go_sem];first|exact VLe.refl _|apply qd|apply qa|apply qe|skip)
    |with_reducible first|refine And.intro ?_ ?_|intro _
   all_goals try exact clz
  ·have i3:=kJ i2 (decide_eq_false g)
   obtain ⟨s,hs⟩: ∃s,s=ws.getD i []:=⟨_,rfl⟩
   have es:=hs.symm
   rw [es]at g
   have k2:((20:Int)<s.length)=False:=eq_false (by omega)
   simp (disch:=omega) only [List.replicate,strs,k1,k2,es,go_sem]
   repeat' first
    |((first|apply qc|apply qb);exact rvk;simp only [go_sem];first|exact VLe.refl _|apply qd|apply qa|apply qe|skip)
    |with_reducible first|refine And.intro ?_ ?_|intro _
   all_goals try exact clz
   refine hK _ _ (i+1) ⟨hi,i3⟩ (by omega) (Wk.temps ?_)
   (simp only [strs,List.replicate,go_sem,qj,qh,qg,qi];try (repeat' first|(with_reducible refine And.intro ?_ ?_)|(apply qd;omega)|(apply qa;rfl)|exact VLe.refl _))
 ·have k1:((i:Int)<ws.length)=False:=eq_false (by omega)
  rw [qE.2 (fun j hj=>i2 j (by omega)),Bool.false_or]at hR
  have e:decide ((n:Int)<ws.length)=R:=by rw [hR];exact decide_eq_decide.2 (by omega)
  simp (disch:=omega) only [List.replicate,strs,k1,go_sem]
  repeat' first
   |((first|apply qc|apply qb);exact rvk;simp only [go_sem];first|exact VLe.refl _|apply qd|apply qa|apply qe|skip)
   |with_reducible first|refine And.intro ?_ ?_|intro _
  all_goals try exact clz
structure EnB (e:En):Prop where
 v:e.vars.length≤9223372036854775807
 s:e.sup.length≤9223372036854775807
 w: ∀i,(e.vars.getD i default).words.length≤9223372036854775807
 g: ∀i,(e.vars.getD i default).sigla.length≤9223372036854775807
def geB (e:En):Bool:=(decide (6<e.vars.length)||gwB e.sup 8)||jb (fun i=>gwB (e.vars.getD i default).words 8||gwB (e.vars.getD i default).sigla 8) e.vars.length
theorem geP (e:En) (h:List AObj) (hb:EnB e):qm Tryz.prog 112 [.agg (enC e)] h (.bool (geB e)) h:=by
 have cs:=fun h=>gwP e.sup 8 h hb.s
 have cw:=fun i h=>gwP (e.vars.getD i default).words 8 h (hb.w i)
 have cg:=fun i h=>gwP (e.vars.getD i default).sigla 8 h (hb.g i)
 have hv:=hb.v
 have z8:((8:Nat):Int)=8:=rfl
 simp only [z8]at cs cw cg
 obtain ⟨R,hR⟩: ∃R,R=geB e:=⟨_,rfl⟩
 rw [←hR]
 unfold geB at hR
 by_cases g1:6<e.vars.length
 ·have k1:((6:Int)<e.vars.length)=True:=eq_true (by omega)
  rw [decide_eq_true g1]at hR
  rw [hR]
  refine acO qjM ?_
  simp (disch:=omega) only [qmy,List.replicate,enC,qB,k1,go_sem]
  repeat' first
   |(refine qo (.bool true) ?_;simp (disch:=omega) only [enC,qB,k1,go_sem])
   |((first|apply qc|apply qb);exact rvk;simp only [go_sem];first|exact VLe.refl _|apply qd|apply qa|apply qe|skip)
   |with_reducible first|refine And.intro ?_ ?_|intro _
  all_goals try exact clz
 have k1:((6:Int)<e.vars.length)=False:=eq_false (by omega)
 rw [decide_eq_false g1,Bool.false_or]at hR
 cases g2:gwB e.sup 8 with
 |true=>
  rw [g2]at hR cs
  rw [hR]
  refine acO qjM ?_
  simp (disch:=omega) only [qmy,List.replicate,enC,qB,k1,go_sem]
  repeat' first
   |((first|refine cA (cs _) ?_ ?_|refine cG (fun e=>cs _) ?_ ?_|refine cU (fun _=>cs _) ?_ ?_);(next=>exact flk);simp (disch:=omega) only [enC,qB,k1,go_sem])
   |((first|apply qc|apply qb);exact rvk;simp only [go_sem];first|exact VLe.refl _|apply qd|apply qa|apply qe|skip)
   |with_reducible first|refine And.intro ?_ ?_|intro _
  all_goals try exact clz
 |false=>
 rw [g2,Bool.false_or]at hR
 rw [g2]at cs
 refine acO qjM ?_
 simp (disch:=omega) only [qmy,List.replicate,enC,qB,k1,go_sem]
 repeat' first
  |((first|refine cA (cs _) ?_ ?_|refine cG (fun e=>cs _) ?_ ?_|refine cU (fun _=>cs _) ?_ ?_);(next=>exact flk);simp (disch:=omega) only [enC,qB,k1,go_sem])
  |((first|apply qc|apply qb);exact rvk;simp only [go_sem];first|exact VLe.refl _|apply qd|apply qa|apply qe|skip)
  |with_reducible first|refine And.intro ?_ ?_|intro _
 all_goals try exact clz
 refine qn (T:=fun i:Nat=>qI 36 [(1,.op h.length 1 0),(3,.int .i64 i)]) (H:=fun _=>h++ [.mem 1 49 (enC e)]) (inv:=fun i=>i≤e.vars.length∧ ∀j,j<i→(fun i=>gwB (e.vars.getD i default).words 8||gwB (e.vars.getD i default).sigla 8) j=false) (m:=fun i=>e.vars.length-i) 0 ⟨Nat.zero_le _,fun j hj=>by omega⟩ ?_ ?_
 ·refine Wk.temps ?_
  (simp only [List.replicate,go_sem,qj,qh,qg,qi];try (repeat' first|(with_reducible refine And.intro ?_ ?_)|(apply qd;omega)|(apply qa;rfl)|exact VLe.refl _))
 rintro i ⟨i1,i2⟩ K hK
 by_cases hi:i<e.vars.length
 ·have k2:((i:Int)<e.vars.length)=True:=eq_true (by omega)
  have cw:=cw i
  have cg:=cg i
  have hit:(gwB (e.vars.getD i default).words 8||gwB (e.vars.getD i default).sigla 8)=true→R=true:=fun hc=>by rw [hR];exact za.2 ⟨i,hi,hc⟩
  have i3:=fun hc=>kJ (p:=fun i=>gwB (e.vars.getD i default).words 8||gwB (e.vars.getD i default).sigla 8) i2 hc
  obtain ⟨v,hv⟩: ∃v,v=e.vars.getD i default:=⟨_,rfl⟩
  have ev:=hv.symm
  simp only [ev]at cw cg hit i3
  cases g3:gwB v.words 8 with
  |true=>
   rw [g3]at cw hit
   rw [hit rfl]
   simp (disch:=omega) only [List.replicate,enC,qB,vaC,k2,ev,go_sem]
   repeat' first
    |(refine qo (.bool true) ?_;simp (disch:=omega) only [enC,qB,vaC,k2,ev,go_sem])
    |((first|refine cA (cw _) ?_ ?_|refine cG (fun e=>cw _) ?_ ?_|refine cU (fun _=>cw _) ?_ ?_);(next=>exact flk);simp (disch:=omega) only [enC,qB,vaC,k2,ev,go_sem])
    |((first|apply qc|apply qb);exact rvk;simp only [go_sem];first|exact VLe.refl _|apply qd|apply qa|apply qe|skip)
    |with_reducible first|refine And.intro ?_ ?_|intro _
   all_goals try exact clz
  |false=>
   rw [g3]at cw hit
   cases g4:gwB v.sigla 8 with
   |true=>
    rw [g4]at cg hit
    rw [hit rfl]
    simp (disch:=omega) only [List.replicate,enC,qB,vaC,k2,ev,go_sem]
    repeat' first
     |((first|refine cA (cw _) ?_ ?_|refine cG (fun e=>cw _) ?_ ?_|refine cA (cg _) ?_ ?_|refine cG (fun e=>cg _) ?_ ?_|refine cU (fun _=>cw _) ?_ ?_|refine cU (fun _=>cg _) ?_ ?_);(next=>exact flk);simp (disch:=omega) only [enC,qB,vaC,k2,ev,go_sem])
     |((first|apply qc|apply qb);exact rvk;simp only [go_sem];first|exact VLe.refl _|apply qd|apply qa|apply qe|skip)
     |with_reducible first|refine And.intro ?_ ?_|intro _
    all_goals try exact clz
   |false=>
    rw [g4]at cg
    simp (disch:=omega) only [List.replicate,enC,qB,vaC,k2,ev,go_sem]
    repeat' first
     |((first|refine cA (cw _) ?_ ?_|refine cG (fun e=>cw _) ?_ ?_|refine cA (cg _) ?_ ?_|refine cG (fun e=>cg _) ?_ ?_|refine cU (fun _=>cw _) ?_ ?_|refine cU (fun _=>cg _) ?_ ?_);(next=>exact flk);simp (disch:=omega) only [enC,qB,vaC,k2,ev,go_sem])
     |((first|apply qc|apply qb);exact rvk;simp only [go_sem];first|exact VLe.refl _|apply qd|apply qa|apply qe|skip)
     |with_reducible first|refine And.intro ?_ ?_|intro _
    all_goals try exact clz
    refine hK _ _ (i+1) ⟨hi,i3 (by rw [g3,g4];rfl)⟩ (by omega) (Wk.temps ?_)
    (simp only [List.replicate,go_sem,qj,qh,qg,qi];try (repeat' first|(with_reducible refine And.intro ?_ ?_)|(apply qd;omega)|(apply qa;rfl)|exact VLe.refl _))
 ·have k2:((i:Int)<e.vars.length)=False:=eq_false (by omega)
  rw [qE.2 (fun j hj=>i2 j (by omega))]at hR
  rw [hR]
  simp (disch:=omega) only [List.replicate,enC,qB,k2,go_sem]
  repeat' first
   |((first|apply qc|apply qb);exact rvk;simp only [go_sem];first|exact VLe.refl _|apply qd|apply qa|apply qe|skip)
   |with_reducible first|refine And.intro ?_ ?_|intro _
  all_goals try exact clz
def qsP (l:List En):Bool:=decide (10<l.length)||jb (fun i=>geB (l.getD i default)) l.length
theorem qzF (l:List En) (h:List AObj) (hb: ∀i,EnB (l.getD i default)) (hn:l.length≤9223372036854775807):qm Tryz.prog 73 [qz l] h (.bool (qsP l)) h:=by
 have c:=fun i h=>geP (l.getD i default) h (hb i)
 obtain ⟨R,hR⟩: ∃R,R=qsP l:=⟨_,rfl⟩
 rw [←hR]
 unfold qsP at hR
 by_cases g1:10<l.length
 ·have k1:((10:Int)<l.length)=True:=eq_true (by omega)
  have k2:((l.length:Int)≤10)=False:=eq_false (by omega)
  have k3:((0:Int)<l.length)=True:=eq_true (by omega)
  rw [decide_eq_true g1]at hR
  rw [hR]
  refine acO quR ?_
  simp (disch:=omega) only [qwZ,List.replicate,qz,k1,k2,k3,go_sem]
  repeat' first
   |((first|apply qc|apply qb);exact rvk;simp only [go_sem];first|exact VLe.refl _|apply qd|apply qa|apply qe|skip)
   |with_reducible first|refine And.intro ?_ ?_|intro _
  all_goals try exact clz
  refine qn (T:=fun _:Unit=>qI 23 [(0,qz l),(3,.int .i64 0)]) (H:=fun _=>h) (inv:=fun _=>True) (m:=fun _=>0) () trivial (Wk.temps ?_) ?_
  ·(simp only [qz,List.replicate,go_sem,qj,qh,qg,qi];try (repeat' first|(with_reducible refine And.intro ?_ ?_)|(apply qd;omega)|(apply qa;rfl)|exact VLe.refl _))
  rintro _ _ K hK
  simp (disch:=omega) only [List.replicate,qz,k1,k2,k3,go_sem]
  repeat' first
   |((first|apply qc|apply qb);exact rvk;simp only [go_sem];first|exact VLe.refl _|apply qd|apply qa|apply qe|skip)
   |with_reducible first|refine And.intro ?_ ?_|intro _
  all_goals try exact clz
 have k1:((10:Int)<l.length)=False:=eq_false (by omega)
 have k2:((l.length:Int)≤10)=True:=eq_true (by omega)
 rw [decide_eq_false g1,Bool.false_or]at hR
 refine acO quR ?_
 simp (disch:=omega) only [qwZ,List.replicate,qz,k1,k2,go_sem]
 repeat' first
  |((first|apply qc|apply qb);exact rvk;simp only [go_sem];first|exact VLe.refl _|apply qd|apply qa|apply qe|skip)
  |with_reducible first|refine And.intro ?_ ?_|intro _
 all_goals try exact clz
 refine qn (T:=fun i:Nat=>qI 23 [(0,qz l),(3,.int .i64 i)]) (H:=fun _=>h) (inv:=fun i=>i≤l.length∧ ∀j,j<i→(fun i=>geB (l.getD i default)) j=false) (m:=fun i=>l.length-i) 0 ⟨Nat.zero_le _,fun j hj=>by omega⟩ (Wk.temps ?_) ?_
 ·(simp only [qz,List.replicate,go_sem,qj,qh,qg,qi];try (repeat' first|(with_reducible refine And.intro ?_ ?_)|(apply qd;omega)|(apply qa;rfl)|exact VLe.refl _))
 rintro i ⟨i1,i2⟩ K hK
 by_cases hi:i<l.length
 ·have k3:((i:Int)<l.length)=True:=eq_true (by omega)
  have c:=c i
  have hit:geB (l.getD i default)=true→R=true:=fun hc=>by rw [hR];exact za.2 ⟨i,hi,hc⟩
  have i3:=fun hc=>kJ (p:=fun i=>geB (l.getD i default)) i2 hc
  obtain ⟨x,hx⟩: ∃x,x=l.getD i default:=⟨_,rfl⟩
  have ex:=hx.symm
  simp only [ex]at c hit i3
  simp only [enC]at c
  cases g3:geB x with
  |true=>
   rw [g3]at c
   rw [hit g3]
   simp (disch:=omega) only [List.replicate,qz,enC,k2,k3,ex,go_sem]
   repeat' first
    |((first|refine cA (c _) ?_ ?_|refine cG (fun e=>c _) ?_ ?_|refine cU (fun _=>c _) ?_ ?_);(next=>exact flk);simp (disch:=omega) only [qz,enC,k2,k3,ex,go_sem])
    |((first|apply qc|apply qb);exact rvk;simp only [go_sem];first|exact VLe.refl _|apply qd|apply qa|apply qe|skip)
    |with_reducible first|refine And.intro ?_ ?_|intro _
   all_goals try exact clz
  |false=>
   rw [g3]at c
   simp (disch:=omega) only [List.replicate,qz,enC,k2,k3,ex,go_sem]
   repeat' first
    |((first|refine cA (c _) ?_ ?_|refine cG (fun e=>c _) ?_ ?_|refine cU (fun _=>c _) ?_ ?_);(next=>exact flk);simp (disch:=omega) only [qz,enC,k2,k3,ex,go_sem])
    |((first|apply qc|apply qb);exact rvk;simp only [go_sem];first|exact VLe.refl _|apply qd|apply qa|apply qe|skip)
    |with_reducible first|refine And.intro ?_ ?_|intro _
   all_goals try exact clz
   refine hK _ _ (i+1) ⟨hi,i3 g3⟩ (by omega) (Wk.temps ?_)
   (simp only [qz,List.replicate,go_sem,qj,qh,qg,qi];try (repeat' first|(with_reducible refine And.intro ?_ ?_)|(apply qd;omega)|(apply qa;rfl)|exact VLe.refl _))
 ·have k3:((i:Int)<l.length)=False:=eq_false (by omega)
  rw [qE.2 (fun j hj=>i2 j (by omega))]at hR
  rw [hR]
  simp (disch:=omega) only [List.replicate,qz,k1,k2,k3,go_sem]
  repeat' first
   |((first|apply qc|apply qb);exact rvk;simp only [go_sem];first|exact VLe.refl _|apply qd|apply qa|apply qe|skip)
   |with_reducible first|refine And.intro ?_ ?_|intro _
  all_goals try exact clz
end RC
end
