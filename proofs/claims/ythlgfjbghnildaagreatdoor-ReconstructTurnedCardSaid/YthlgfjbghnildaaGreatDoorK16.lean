import Derived.Test.YthlgfjbghnildaaGreatDoorK15
import Derived.Test.YthlgfjbghnildaaGreatDoorK2
import Derived.Test.YthlgfjbghnildaaGreatDoorK4
import Derived.Test.YthlgfjbghnildaaGreatDoorK7
import Derived.Test.YthlgfjbghnildaaGreatDoorProg
import Derived.Test.YthlgfjbghnildaaGreatDoorK14
import Derived.Test.YthlgfjbghnildaaGreatDoorK13
import Derived.Test.YthlgfjbghnildaaGreatDoorRows
import Derived.LaidLaws
set_option linter.all false
set_option linter.unusedSimpArgs false
set_option linter.unusedVariables false
set_option linter.unusedSectionVars false
set_option maxRecDepth 100000
section
open Go Go.Proofs AF HY LN
namespace RC
set_option maxHeartbeats 16000000
def noS (e:En):En:= { e with sup:= [] }
def vsC (names:List Str) (gs:List Gr) (e:En) (i:Nat):List Int:=cnt names gs (noS e) i
def vsE (names:List Str) (gs:List Gr) (e:En):Int:=
 if sgE names gs≠0 then 1 else if kW (fun i=>jo names gs (e.vars.getD i default).sigla) 0 e.vars.length≠0 then kW (fun i=>jo names gs (e.vars.getD i default).sigla) 0 e.vars.length
 else if qhG (vsC names gs e e.vars.length)=true then 17 else 0
def vsB (names:List Str) (gs:List Gr) (e:En) (k:Nat):Bool:=decide (0<(vsC names gs e e.vars.length).getD k 0)
def vsL (names:List Str) (gs:List Gr) (e:En):List Int:=if vsE names gs e=0 then qS (vsB names gs e) 32 else []
theorem qpa (names:List Str) (gs:List Gr) (e:En):vsC names gs e 0=List.replicate 32 0:=by
 show qbL (List.replicate 32 0) (zz names gs [])=_
 rw [qcQ]
 rfl
theorem vsP (names:List Str) (gs:List Gr) (e:En) (h:List AObj) (hz:Szs names gs) (hv:e.vars.length≤1000000000) (hg: ∀i,(e.vars.getD i default).sigla.length≤1000000000):
  qm Tryz.prog 60 [strs names,qt gs,.agg (enC e)] h (.tup [ql (vsL names gs e),.int .i64 (vsE names gs e)]) h:=by
 have c59:=fun h=>sgP names gs h hz
 obtain ⟨R,hR⟩: ∃R,R=vsE names gs e:=⟨_,rfl⟩
 have hLR:vsL names gs e=if R=0 then qS (vsB names gs e) 32 else []:=by rw [hR];rfl
 rw [hLR,←hR]
 unfold vsE at hR
 obtain ⟨s,hs⟩: ∃s,s=sgE names gs:=⟨_,rfl⟩
 rw [←hs]at c59 hR
 by_cases g0:s≠0
 ·have k0:(s=0)=False:=eq_false g0
  rw [if_pos g0]at hR
  rw [hR,if_neg (by decide)]
  refine acO quO ?_
  simp (disch:=omega) only [qwW,List.replicate,enC,go_sem]
  repeat' first
   |((first|refine cA (c59 _) ?_ ?_|refine cG (fun e=>c59 _) ?_ ?_|refine cU (fun _=>c59 _) ?_ ?_);(next=>exact flk);simp (disch:=omega) only [k0,go_sem])
   |((first|apply qc|apply qb);exact rvk;simp only [go_sem];first|exact VLe.refl _|apply qd|apply qa|apply qe|skip)
   |with_reducible first|refine And.intro ?_ ?_|intro _
  all_goals try exact clz
  first|exact zE|exact qV ⟨zE,VLe.refl _,trivial⟩
 have g0:s=0:=Classical.not_not.1 g0
 have k0:(s=0)=True:=eq_true g0
 rw [if_neg (fun hc=>hc g0)]at hR
 refine acO quO ?_
 simp (disch:=omega) only [qwW,List.replicate,enC,qB,go_sem]
 repeat' first
  |((first|refine cA (c59 _) ?_ ?_|refine cG (fun e=>c59 _) ?_ ?_|refine cU (fun _=>c59 _) ?_ ?_);(next=>exact flk);simp (disch:=omega) only [k0,qB,go_sem])
  |((first|apply qc|apply qb);exact rvk;simp only [go_sem];first|exact VLe.refl _|apply qd|apply qa|apply qe|skip)
  |with_reducible first|refine And.intro ?_ ?_|intro _
 all_goals try exact clz
 have e0:([AV.int .i64 0,AV.int .i64 0,AV.int .i64 0,AV.int .i64 0,AV.int .i64 0,AV.int .i64 0,AV.int .i64 0,AV.int .i64 0,AV.int .i64 0,AV.int .i64 0,AV.int .i64 0,AV.int .i64 0,AV.int .i64 0,AV.int .i64 0,AV.int .i64 0,AV.int .i64 0,AV.int .i64 0,AV.int .i64 0,AV.int .i64 0,AV.int .i64 0,AV.int .i64 0,AV.int .i64 0,AV.int .i64 0,AV.int .i64 0,AV.int .i64 0,AV.int .i64 0,AV.int .i64 0,AV.int .i64 0,AV.int .i64 0,AV.int .i64 0,AV.int .i64 0,AV.int .i64 0]:List AV)=qs (vsC names gs e 0):=by rw [qpa];rfl
 rw [e0]
 refine qn (T:=fun i:Nat×AObj=>qI 50 [(0,strs names),(1,qt gs),(8,.op (h.length+2) 1 0),(20,qB e.vars),(21,.int .i64 e.vars.length),(22,.int .i64 i.1)])
  (H:=fun i=>h++ [.mem 1 49 [.int .i64 e.layer,.int .i64 e.frm,.int .i64 e.to,.bool e.pos,strs e.sup,qB e.vars],.emp 1,.mem 1 117 (qs (vsC names gs e i.1)),i.2,.emp 0,.emp 0,.emp 0])
  (inv:=fun i=>i.1≤e.vars.length∧qN [i.2] 0=true∧ ∀j,j<i.1→jo names gs (e.vars.getD j default).sigla=0) (m:=fun i=>e.vars.length-i.1) (0,.emp 0) ⟨Nat.zero_le _,rfl,fun j hj=>absurd hj (Nat.not_lt_zero j)⟩ (Wk.temps ?_) ?_
 ·(simp only [strs,qB,List.replicate,go_sem,qj,qh,qg,qi];try (repeat' first|(with_reducible refine And.intro ?_ ?_)|(apply qd;omega)|(apply qa;rfl)|exact VLe.refl _))
 rintro ⟨n,O⟩ ⟨n1,i2,n2⟩ K hK
 simp only at n1 i2 n2 hK
 have i2': ∀m,qN (O::m) 0=true:=fun _=>i2
 by_cases hn:n<e.vars.length
 ·have r2:((n:Int)<e.vars.length)=True:=eq_true (by omega)
  have hE:=qP (f:=fun i=>jo names gs (e.vars.getD i default).sigla) hn n2
  have zs:=hg n
  have hcs:vsC names gs e (n+1)=qbL (vsC names gs e n) (zz names gs (e.vars.getD n default).sigla):=rfl
  have hbn:=qjm names gs (noS e) n
  have hln:=qcK names gs (noS e) n
  obtain ⟨D,hD⟩: ∃D,D=vsC names gs e n:=⟨_,rfl⟩
  have eD:=hD.symm
  have eD':cnt names gs (noS e) n=D:=eD
  rw [eD']at hbn hln
  rw [eD]at hcs
  obtain ⟨x,hx⟩: ∃x,x=e.vars.getD n default:=⟨_,rfl⟩
  have ex:=hx.symm
  simp only [ex]at hE hcs zs
  simp (disch:=omega) only [List.replicate,strs,qB,vaC,r2,ex,eD,i2',go_sem]
  repeat' first
   |((first|apply qc|apply qb);exact rvk;simp only [go_sem];first|exact VLe.refl _|apply qd|apply qa|apply qe|skip)
   |with_reducible first|refine And.intro ?_ ?_|intro _
  all_goals try exact clz
  refine cE (qxa names gs x.sigla D (h.length+2) 1 117 _ hz zs (by rw [getO_app];rfl) hln (64*((n:Int)+1)) (by omega) hbn) (by exact flk) ?_
  rw [←hcs]
  obtain ⟨q,hq⟩: ∃q,q=jo names gs x.sigla:=⟨_,rfl⟩
  rw [←hq]at hE ⊢
  by_cases b2:q≠0
  ·have p2:(q=0)=False:=eq_false b2
   rw [hE b2,if_pos b2]at hR
   rw [hR,if_neg b2]
   simp (disch:=omega) only [List.replicate,strs,qB,p2,go_sem]
   repeat' first
    |((first|apply qc|apply qb);exact rvk;simp only [go_sem];first|exact VLe.refl _|apply qd|apply qa|apply qe|skip)
    |with_reducible first|refine And.intro ?_ ?_|intro _
   all_goals try exact clz
   first|exact zE|exact qV ⟨zE,VLe.refl _,trivial⟩
  ·have b2:q=0:=Classical.not_not.1 b2
   have p2:(q=0)=True:=eq_true b2
   simp (disch:=omega) only [List.replicate,strs,qB,p2,go_sem]
   repeat' first
    |((first|apply qc|apply qb);exact rvk;simp only [go_sem];first|exact VLe.refl _|apply qd|apply qa|apply qe|skip)
    |with_reducible first|refine And.intro ?_ ?_|intro _
   all_goals try exact clz
   refine hK _ _ (n+1,.mem (qx (some O)+1) 51 [strs x.words,strs x.sigla]) ⟨hn,rfl,fun j hj=> ?_⟩ (by simp only;omega) (Wk.temps ?_)
   ·by_cases e':j=n
    ·subst e';rw [ex,←hq,b2]
    ·exact n2 j (by simp only at hj;omega)
   ·(simp only [strs,qB,List.replicate,go_sem,qj,qh,qg,qi];try (repeat' first|(with_reducible refine And.intro ?_ ?_)|(apply qd;omega)|(apply qa;rfl)|exact VLe.refl _))
 ·have r2:((n:Int)<e.vars.length)=False:=eq_false (by omega)
  have e':n=e.vars.length:=by omega
  subst e'
  rw [if_neg (fun hc=>hc (qA (f:=fun i=>jo names gs (e.vars.getD i default).sigla) (fun j hj=>n2 j hj)))]at hR
  have hln:(vsC names gs e e.vars.length).length=32:=qcK names gs (noS e) e.vars.length
  unfold qhG at hR
  rw [hln]at hR
  have c94:=fun h=>twP (vsC names gs e e.vars.length) h hln
  rw [hln]at c94
  obtain ⟨pB,hpB⟩: ∃pB,pB=vsB names gs e:=⟨_,rfl⟩
  rw [←hpB]
  have hpk: ∀k,pB k=decide (0<(vsC names gs e e.vars.length).getD k 0):=fun k=>by rw [hpB];rfl
  obtain ⟨D,hD⟩: ∃D,D=vsC names gs e e.vars.length:=⟨_,rfl⟩
  have eD:=hD.symm
  simp only [eD]at hR hln c94 hpk
  have fT:List.take 32 (qs D)=List.map (fun n=>AV.int .i64 n) D:=List.take_of_length_le (by rw [qF];omega)
  have fL:=qF D
  rw [hln]at fL
  cases b3:jb (fun i=>decide (1<D.getD i 0)) 32 with
  |true=>
   rw [b3]at c94 hR
   rw [if_pos rfl]at hR
   rw [hR,if_neg (by decide)]
   simp (disch:=omega) only [List.replicate,strs,qB,r2,eD,fT,fL,go_sem]
   repeat' first
    |((first|refine cA (c94 _) ?_ ?_|refine cG (fun e=>c94 _) ?_ ?_|refine cU (fun _=>c94 _) ?_ ?_);(next=>exact flk);simp (disch:=omega) only [strs,qB,r2,eD,fT,fL,go_sem])
    |((first|apply qc|apply qb);exact rvk;simp only [go_sem];first|exact VLe.refl _|apply qd|apply qa|apply qe|skip)
    |with_reducible first|refine And.intro ?_ ?_|intro _
   all_goals try exact clz
   first|exact zE|exact qV ⟨zE,VLe.refl _,trivial⟩
  |false=>
   rw [b3]at c94 hR
   rw [if_neg (by simp)]at hR
   rw [hR,if_pos rfl]
   simp (disch:=omega) only [List.replicate,strs,qB,r2,eD,fT,fL,go_sem]
   repeat' first
    |((first|refine cA (c94 _) ?_ ?_|refine cG (fun e=>c94 _) ?_ ?_|refine cU (fun _=>c94 _) ?_ ?_);(next=>exact flk);simp (disch:=omega) only [strs,qB,r2,eD,fT,fL,go_sem])
    |((first|apply qc|apply qb);exact rvk;simp only [go_sem];first|exact VLe.refl _|apply qd|apply qa|apply qe|skip)
    |with_reducible first|refine And.intro ?_ ?_|intro _
   all_goals try exact clz
   clear hK
   refine qn (T:=fun s:Nat×Nat×AObj=>qI 50 [(12,.osl (h.length+4) s.2.1 1 0 (qS pB s.1).length),(37,.agg (List.map (fun n=>AV.int .i64 n) D)),(38,.int .i64 s.1)])
    (H:=fun s=>h++ [.mem 1 49 [.int .i64 e.layer,.int .i64 e.frm,.int .i64 e.to,.bool e.pos,strs e.sup,qB e.vars],.emp 1,.mem 1 117 (qs D),O,zt s.2.1 3 (qs (qS pB s.1)),s.2.2,.emp 0])
    (inv:=fun s=>s.1≤32∧qN [s.2.2] 0=true) (m:=fun s=>32-s.1) (0,1,.emp 0) ⟨Nat.zero_le _,rfl⟩ (Wk.temps ?_) ?_
   ·(simp only [List.replicate,qS,List.range_zero,List.filter_nil,List.length_nil,List.map_nil,go_sem,qj,qh,qg,qi];try (repeat' first|(with_reducible refine And.intro ?_ ?_)|(apply qd;omega)|(apply qa;rfl)|exact VLe.refl _))
   rintro ⟨i,v,O5⟩ ⟨j1,j2⟩ K hK
   simp only at j1 j2 hK
   have j2': ∀m,qN (O5::m) 0=true:=fun _=>j2
   have hst:=zT pB i
   have hll:=qX pB i
   have hp:=hpk i
   obtain ⟨L,hL⟩: ∃L,L=qS pB i:=⟨_,rfl⟩
   rw [←hL]at hst hll
   have eL:=hL.symm
   have eC:=qF L
   have eTk:List.take L.length (qs L)=qs L:=List.take_of_length_le (by omega)
   by_cases hi:i<32
   ·have k1:((i:Int)<32)=True:=eq_true (by omega)
    have k2:(0≤(i:Int))=True:=eq_true (by omega)
    have k3:(i<D.length)=True:=eq_true (by omega)
    have eG:D[i]? =some (D.getD i 0):=by rw [gdqA,qU (by omega)];rfl
    obtain ⟨y,hy⟩: ∃y,y=D.getD i 0:=⟨_,rfl⟩
    rw [←hy]at hp eG
    by_cases hyp:0<y
    ·have k4:(0<y)=True:=eq_true hyp
     rw [hp,if_pos (decide_eq_true hyp)]at hst
     simp (disch:=omega) only [List.replicate,k1,k2,k3,k4,eG,j2',eL,Nat.mul_one,Int.toNat_natCast,List.getElem?_map,List.length_map,Option.map_some,Option.getD_some,go_sem]
     repeat' first
      |((first|apply qc|apply qb);exact rvk;simp only [go_sem];first|exact VLe.refl _|apply qd|apply qa|apply qe|skip)
      |with_reducible first|refine And.intro ?_ ?_|intro _
     all_goals try exact clz
     have eA:qs L++ [AV.int .i64 (i:Int)]=qs (qS pB (i+1)):=by rw [hst,qT];rfl
     try rw [eTk]
     rw [eA]
     refine hK _ _ (i+1,v+1,.mem (qx (some O5)+1) 3 [.int .i64 (i:Int)]) ⟨hi,rfl⟩ (by simp only;omega) ?_
     simp only [hst,List.length_append,List.length_cons,List.length_nil]
     refine Wk.temps ?_
     (simp only [List.replicate,go_sem,qj,qh,qg,qi];try (repeat' first|(with_reducible refine And.intro ?_ ?_)|(apply qd;omega)|(apply qa;rfl)|exact VLe.refl _))
    ·have k4:(0<y)=False:=eq_false hyp
     rw [hp,if_neg (by simpa using hyp),List.append_nil]at hst
     simp (disch:=omega) only [List.replicate,k1,k2,k3,k4,eG,j2',eL,Nat.mul_one,Int.toNat_natCast,List.getElem?_map,List.length_map,Option.map_some,Option.getD_some,go_sem]
     repeat' first
      |((first|apply qc|apply qb);exact rvk;simp only [go_sem];first|exact VLe.refl _|apply qd|apply qa|apply qe|skip)
      |with_reducible first|refine And.intro ?_ ?_|intro _
     all_goals try exact clz
     refine hK _ _ (i+1,v,O5) ⟨hi,j2⟩ (by simp only;omega) ?_
     simp only [hst]
     refine Wk.temps ?_
     (simp only [List.replicate,go_sem,qj,qh,qg,qi];try (repeat' first|(with_reducible refine And.intro ?_ ?_)|(apply qd;omega)|(apply qa;rfl)|exact VLe.refl _))
   ·obtain rfl:i=32:=by omega
    have k1:(((32:Nat):Int)<32)=False:=eq_false (by omega)
    rw [eL]
    simp (disch:=omega) only [List.replicate,k1,eL,go_sem]
    repeat' first
     |((first|apply qc|apply qb);exact rvk;simp only [go_sem];first|exact VLe.refl _|apply qd|apply qa|apply qe|skip)
     |with_reducible first|refine And.intro ?_ ?_|intro _
    all_goals try exact clz
    exact qV ⟨j7 (fun _=>rfl) rfl,VLe.refl _,trivial⟩
end RC
end
section
open Go Go.Proofs AF HY LN
namespace RC
set_option maxHeartbeats 4000000
theorem qpM {names:List Str} {gs:List Gr} (h:qh0 names gs) {i j:Nat} (hi:i<names.length) (hj:j<names.length) (e:names.getD i []=names.getD j []):i=j:=by
 have key: ∀i j,j<i→i<names.length→names.getD i []=names.getD j []→False:=fun i j hji hi e=>by
  have:=h.na i hi
  unfold kf at this
  split at this
  ·cases this
  split at this
  ·cases this
  rename_i hc
  exact of_decide_eq_false (qE.1 (by simpa using hc) j hji) e
 rcases Nat.lt_trichotomy i j with hl|hl|hl
 ·exact absurd e.symm (fun e=>key j i hl hj e)
 ·exact hl
 ·exact absurd e (fun e=>key i j hl hi e)
theorem qrf {names:List Str} {gs:List Gr} (h:qh0 names gs) {i j:Nat} (hi:i<gs.length) (hj:j<names.length):(gs.getD i default).name≠names.getD j []:=by
 have:=h.gr i hi
 unfold qbS at this
 split at this
 ·cases this
 split at this
 ·cases this
 rename_i hc
 exact of_decide_eq_false (qE.1 (by simpa using hc) j hj)
theorem qpA {names:List Str} {gs:List Gr} (h:qh0 names gs) {i j:Nat} (hi:i<gs.length) (hj:j<gs.length) (e:(gs.getD i default).name=(gs.getD j default).name):i=j:=by
 have key: ∀i j,j<i→i<gs.length→(gs.getD i default).name=(gs.getD j default).name→False:=fun i j hji hi e=>by
  have:=h.gr i hi
  unfold qbS at this
  split at this
  ·cases this
  split at this
  ·cases this
  split at this
  ·cases this
  rename_i hc
  exact of_decide_eq_false (qE.1 (by simpa using hc) j hji) e
 rcases Nat.lt_trichotomy i j with hl|hl|hl
 ·exact absurd e.symm (fun e=>key j i hl hj e)
 ·exact hl
 ·exact absurd e (fun e=>key i j hl hi e)
theorem qae {names:List Str} {gs:List Gr} {k:Nat} (hk:k<gs.length):kS names gs (k:Int)=(gs.getD k default).name:=by
 unfold kS
 rw [if_pos (by omega),Int.toNat_natCast]
theorem qaf {names:List Str} {gs:List Gr} (k:Nat):kS names gs ((gs.length:Int)+k)=names.getD k []:=by
 unfold kS
 rw [if_neg (by omega),show ((gs.length:Int)+k-gs.length).toNat=k by omega]
theorem qjt {names:List Str} {gs:List Gr} (h:qh0 names gs) {k:Nat} (hk:k<gs.length):els names gs (gs.getD k default).name=(gs.getD k default).mem∧gIx gs (gs.getD k default).name=k:=by
 have hn:nIx names (gs.getD k default).name= -1:=by
  rcases kB names (gs.getD k default).name with ⟨j,h1,h2,_⟩|⟨_,h2⟩
  ·exact absurd h2.symm (qrf h hk h1)
  ·exact h2
 have hg:gIx gs (gs.getD k default).name=k:=by
  rcases qar gs (gs.getD k default).name with ⟨j,h1,h2,h3⟩|⟨h1,_⟩
  ·rw [h3,qpA h h1 hk h2]
  ·exact absurd rfl (h1 k hk)
 refine ⟨?_,hg⟩
 unfold els
 rw [hn,if_neg (by omega),hg,Int.toNat_natCast]
theorem qju {names:List Str} {gs:List Gr} (h:qh0 names gs) {k:Nat} (hk:k<names.length):els names gs (names.getD k [])= [(k:Int)]∧nIx names (names.getD k [])=k:=by
 have hn:nIx names (names.getD k [])=k:=by
  rcases kB names (names.getD k [])with ⟨j,h1,h2,h3⟩|⟨h1,_⟩
  ·rw [h3,qpM h h1 hk h2]
  ·exact absurd rfl (h1 k hk)
 refine ⟨?_,hn⟩
 unfold els
 rw [hn,if_pos (by omega)]
theorem qbY {names:List Str} {gs:List Gr} {p:Int} (h:0≤p∧p<gs.length+names.length):(∃k:Nat,k<gs.length∧p=(k:Int))∨ ∃k:Nat,k<names.length∧p=(gs.length:Int)+k:=by
 by_cases hp:p<gs.length
 ·exact .inl ⟨p.toNat,by omega,by omega⟩
 ·exact .inr ⟨(p-gs.length).toNat,by omega,by omega⟩
theorem qos {names:List Str} {gs:List Gr} (h:qh0 names gs) {p q:Int} (hp:0≤p∧p<gs.length+names.length) (hq:0≤q∧q<gs.length+names.length) (e:kS names gs p=kS names gs q):p=q:=by
 rcases qbY hp with ⟨k,hk,rfl⟩|⟨k,hk,rfl⟩<;>rcases qbY hq with ⟨j,hj,rfl⟩|⟨j,hj,rfl⟩
 ·rw [qae hk,qae hj]at e
  rw [qpA h hk hj e]
 ·rw [qae hk,qaf]at e
  exact absurd e (qrf h hk hj)
 ·rw [qae hj,qaf]at e
  exact absurd e.symm (qrf h hj hk)
 ·rw [qaf,qaf]at e
  rw [qpM h hk hj e]
theorem qsb {names:List Str} {gs:List Gr} {B:List Int} (h:sgE names gs=0) (hB: ∀p∈B,0≤p∧p<gs.length+names.length) (hn:B.Nodup):
  jo names gs (B.map (kS names gs))=0∧zz names gs (B.map (kS names gs))=qS (fun k=>decide (∃p,p∈B∧(k:Int)∈els names gs (kS names gs p))) 64:=by
 have ho:=qbk h
 have hget: ∀i,i<B.length→(B.map (kS names gs)).getD i []=kS names gs (B.getD i 0):=fun i hi=>by
  rw [gdqA,List.getElem?_map,qU hi,gdqA,qU hi]
  rfl
 have hmem: ∀i,i<B.length→B.getD i 0∈B:=fun i hi=>by
  rw [gdqA,qU hi];exact List.getElem_mem hi
 have hs: ∀i,i<B.length→qag names gs (B.map (kS names gs)) i=0:=fun i hi=>by
  unfold qag
  rw [hget i hi,if_neg,if_neg]
  ·rw [qE.2 fun j hj=> ?_]
   ·simp
   ·rw [hget j (by omega)]
    refine decide_eq_false fun e=> ?_
    have e2:=qos ho (hB _ (hmem i hi)) (hB _ (hmem j (by omega))) e
    rw [gdqA,qU hi,gdqA,qU (by omega:j<B.length)]at e2
    have:=(List.getElem_inj hn).1 e2
    omega
  ·rcases qbY (hB _ (hmem i hi))with ⟨k,hk,e⟩|⟨k,hk,e⟩
   ·rw [e,qae hk,(qjt ho hk).2];omega
   ·rw [e,qaf,(qju ho hk).2];omega
 have he:jo names gs (B.map (kS names gs))=0:=by
  unfold jo
  rw [if_neg (fun hc=>hc h),jY]
  intro i hi
  rw [List.length_map]at hi
  exact hs i hi
 refine ⟨he,?_⟩
 unfold zz
 rw [if_pos he]
 refine qaO fun k _=> ?_
 rw [(qcC ho (i:=(B.map (kS names gs)).length) (fun j hj=>hs j (by rwa [List.length_map]at hj))).2 k]
 refine decide_eq_decide.2 ⟨?_,?_⟩
 ·rintro ⟨j,hj,hm⟩
  rw [List.length_map]at hj
  rw [hget j hj]at hm
  exact ⟨_,hmem j hj,hm⟩
 ·rintro ⟨p,hp,hm⟩
  obtain ⟨j,hj,rfl⟩:=List.getElem_of_mem hp
  refine ⟨j,by rwa [List.length_map],?_⟩
  rw [hget j hj,gdqA,qU hj]
  exact hm
theorem qkY {gs:List Gr} {all c:Nat} (hc:c<2^(kc gs all).length):(jQ gs all (kc gs all) c).Nodup:=by
 unfold jQ
 rw [List.nodup_append]
 refine ⟨?_,?_,?_⟩
 ·rw [List.Nodup,List.pairwise_map]
  refine List.Pairwise.imp_of_mem ?_ (kP c.testBit 64)
  intro a b ha hb hab e
  obtain ⟨i,rfl,_,hi⟩:=ze ha
  obtain ⟨j,rfl,_,hj⟩:=ze hb
  have hi:=qab hc hi
  have hj:=qab hc hj
  rw [Int.toNat_natCast,Int.toNat_natCast,gdqA,qU hi,gdqA,qU hj]at e
  have:=(List.getElem_inj (show (kc gs all).Nodup from kP _ _)).1 e
  exact hab (by rw [this])
 ·rw [List.Nodup,List.pairwise_map]
  refine List.Pairwise.imp ?_ (kP _ 64)
  intro a b hab e
  exact hab (by omega)
 ·intro a ha b hb e
  obtain ⟨k,h1,rfl⟩:=List.mem_map.1 ha
  obtain ⟨i,rfl,_,hi⟩:=ze h1
  have hi:=qab hc hi
  obtain ⟨s,h2,rfl⟩:=List.mem_map.1 hb
  obtain ⟨j,rfl,_,_⟩:=ze h2
  have hm:(kc gs all).getD i 0∈kc gs all:=by
   rw [gdqA,qU hi];exact List.getElem_mem hi
  obtain ⟨g,e1,hg⟩:=qfu hm
  rw [Int.toNat_natCast,e1]at e
  omega
end RC
end
section
open Go Go.Proofs AF HY LN
namespace RC
set_option maxHeartbeats 4000000
theorem qsa {names:List Str} {gs:List Gr} {set:List Int} (h:qgb names gs set=0):jo names gs (shR names gs set)=0∧zz names gs (shR names gs set)=set:=by
 have hse:sgE names gs=0∧qad names.length set=0:=by
  unfold qgb at h
  split at h
  ·rename_i h1;exact ⟨h1,h⟩
  ·cases h
 have ho:=qbk hse.1
 have hn:=ho.n32
 have hg16:=ho.g16
 have hin:=(kD hse.2).1
 have hin64:inB 64 set:=fun i hi=>by have:=hin i hi;omega
 have hmi:=qjW hse.1
 have hset:=qop (by omega) hse.2
 obtain ⟨c,hc1,hc2⟩:=qiV gs (zU set) (kc gs (zU set)) (2^(kc gs (zU set)).length-1)
 have h2p:1≤2^(kc gs (zU set)).length:=Nat.one_le_two_pow
 have hc:c<2^(kc gs (zU set)).length:=by omega
 have hLl:(kc gs (zU set)).length≤gs.length:=qX _ _
 have hpin:=fun {p}=>qpO (names:=names) (gs:=gs) (set:=set) (all:=zU set) hin (by omega) rfl hc (p:=p)
 have hnd:=qkY (gs:=gs) (all:=zU set) hc
 have hall:zU set<2^64:=qbb hin64
 have hch:chN (usM gs (kc gs (zU set))) c<2^64:=qpn (qpW hmi _) c
 have hR:shR names gs set=(jQ gs (zU set) (kc gs (zU set)) c).map (kS names gs):=by
  unfold shR
  rw [if_pos h]
  unfold qwv
  rw [hc2]
 obtain ⟨h1,h2⟩:=qsb hse.1 (fun p hp=>hpin hp) hnd
 rw [hR]
 refine ⟨h1,?_⟩
 rw [h2]
 conv=>rhs;rw [hset]
 refine qaO fun k hk=> ?_
 rw [zY hin64]
 refine decide_eq_decide.2 ⟨?_,fun hks=> ?_⟩
 ·rintro ⟨p,hp,hk2⟩
  have hpr:=hpin hp
  unfold jQ at hp
  rcases List.mem_append.1 hp with hp|hp
  ·obtain ⟨q,hq,rfl⟩:=List.mem_map.1 hp
   obtain ⟨i,rfl,_,hi⟩:=ze hq
   have hi:=qab hc hi
   have hm:(kc gs (zU set)).getD i 0∈kc gs (zU set):=by
    rw [gdqA,qU hi];exact List.getElem_mem hi
   obtain ⟨g,e1,hg,hb⟩:=ze (show (kc gs (zU set)).getD i 0∈qS (qhW gs (zU set)) gs.length from hm)
   rw [Int.toNat_natCast,e1,qae hg,(qjt ho hg).1]at hk2
   rw [qsK (hmi g) hin64]at hb
   exact of_decide_eq_true hb _ hk2
  ·obtain ⟨q,hq,rfl⟩:=List.mem_map.1 hp
   obtain ⟨s,rfl,_,hb⟩:=ze hq
   have hsn:s<names.length:=by omega
   rw [qaf,(qju ho hsn).1]at hk2
   have e:(k:Int)=s:=by simpa using hk2
   rw [qcE hall hch,Bool.and_eq_true]at hb
   have hb1:=hb.1
   rw [zY hin64]at hb1
   rw [e]
   exact of_decide_eq_true hb1
 ·have hkn:k<names.length:=by
   obtain ⟨j,hj,e⟩:=List.getElem_of_mem hks
   have:=hin j hj
   rw [gdqA,qU hj]at this
   simp only [Option.getD_some]at this
   omega
  have hkb:(zU set).testBit k=true:=by rw [zY hin64];exact decide_eq_true hks
  cases hcb:(chN (usM gs (kc gs (zU set))) c).testBit k with
  |true=>
   have hcb2:=hcb
   unfold chN at hcb2
   rw [qnK,za]at hcb2
   obtain ⟨j,hj,hb⟩:=hcb2
   rw [qfl]at hj
   rw [Bool.and_eq_true,qfk hj]at hb
   obtain ⟨hb1,hb2⟩:=hb
   have hm:(kc gs (zU set)).getD j 0∈kc gs (zU set):=by
    rw [gdqA,qU hj];exact List.getElem_mem hj
   obtain ⟨g,e1,hg,_⟩:=ze (show (kc gs (zU set)).getD j 0∈qS (qhW gs (zU set)) gs.length from hm)
   rw [e1,Int.toNat_natCast,zY (hmi g)]at hb2
   refine ⟨(kc gs (zU set)).getD j 0,?_,?_⟩
   ·unfold jQ
    refine List.mem_append.2 (.inl (List.mem_map.2 ⟨(j:Int),kO.2 ⟨j,by omega,hb1,rfl⟩,?_⟩))
    rw [Int.toNat_natCast]
   ·rw [e1,qae hg,(qjt ho hg).1]
    exact of_decide_eq_true hb2
  |false=>
   refine ⟨(gs.length:Int)+k,?_,?_⟩
   ·unfold jQ
    refine List.mem_append.2 (.inr (List.mem_map.2 ⟨(k:Int),kO.2 ⟨k,hk,?_,rfl⟩,rfl⟩))
    rw [qcE hall hch,hkb,hcb]
    rfl
   ·rw [qaf,(qju ho hkn).1]
    simp
end RC
end
section
open Go Go.Proofs AF
def qrm:List Nat:= [93,74,79,120,147,148,161,170,63,105,131,64,31,32,57,58,29,30]
def qtx:C:=
 ((C.ops [⟨some 8,none,.alloc 0 49 [i6 0,i6 0,i6 0,.bool false,.nl,.nl],[]⟩,MC 9 (i6 0)]).seq ((C.block 0 ((C.ops [MV 23 0,MV 24 1,O2 25 (.call 59 true) 23 24,BC 26 .neq
 25 (i6 0),MV 22 26]).seq (C.cond (.t 22) ((C.ops [⟨some 27,none,.build [i6 0,i6 0,i6 0,.bool false,.nl,.nl] [],[]⟩,ST 6 8 27,MC 9 (i6 1)]).seq C.ret) ((C.ops [MV 29 3,
 BC 30 .lss 29 (i6 0),MV 31 30,MG 32 31 false 3,MG 33 31 false 2,P1 34 31 false .len 33,P2 35 31 false (.bin .geq) 32 34,PT 36 31 35,MV 28 36]).seq (C.cond (.t 28) ((C.ops
 [⟨some 37,none,.build [i6 0,i6 0,i6 0,.bool false,.nl,.nl] [],[]⟩,ST 6 8 37,MC 9 (i6 6)]).seq C.ret) C.skip))))).seq ((C.ops [MV 38 2,MV 39 3,O2 40 (.idxA 6) 38 39,O1
 41 (.load (some 6)) 40,⟨some 10,none,.alloc 1 49 [i6 0,i6 0,i6 0,.bool false,.nl,.nl],[]⟩,ST 6 10 41]).seq ((C.ops [⟨some 11,none,.alloc 2 89 [.bool false,.bool false,
 .bool false,.bool false,.bool false,.bool false,.bool false,.bool false,.bool false,.bool false,.bool false,.bool false,.bool false,.bool false,.bool false,.bool
 false,.bool false,.bool false,.bool false,.bool false,.bool false,.bool false,.bool false,.bool false,.bool false,.bool false,.bool false,.bool false,.bool false,
 .bool false,.bool false,.bool false],[]⟩]).seq (((C.ops [MV 42 2,O1 43 .len 42,MC 44 (i6 0)]).seq (C.block 1 ((C.ops [BI 45 .lss 44 43]).seq ((C.cond (.t 45) C.skip (C.exit
 1)).seq ((C.block 2 ((C.ops [O2 46 (.idxA 6) 42 44,O1 47 (.load (some 6)) 46,⟨some 13,none,.alloc 3 49 [i6 0,i6 0,i6 0,.bool false,.nl,.nl],[]⟩,ST 6 13 47]).seq (((C.ops
 [O1 48 (.fldA 1) 13,LD 49 48,O1 50 (.fldA 1) 10,LD 51 50,BI 52 .neq 49 51,MV 53 52,P1 54 53 false (.fldA 2) 13,P1 55 53 false (.load none) 54,P1 56 53 false (.fldA 2) 10,
 P1 57 53 false (.load none) 56,P2 58 53 false (.bin .neq) 55 57,PT 59 53 58]).seq (C.cond (.t 59) (C.exit 2) C.skip)).seq ((C.ops [MV 61 0,MV 62 1,O1 63 (.load (some 6)) 13,ON
 64 (.call 60 true) [.t 61,.t 62,.t 63],MV 60 64,O1 65 (.ext 0) 60,O1 66 (.ext 1) 60,MV 14 65,MV 15 66]).seq (((C.ops [MV 67 15,BC 68 .neq 67 (i6 0)]).seq (C.cond (.t 68)
 ((C.ops [⟨some 69,none,.build [i6 0,i6 0,i6 0,.bool false,.nl,.nl] [],[]⟩,MV 70 15,ST 6 8 69,MV 9 70]).seq C.ret) C.skip)).seq ((C.ops [MV 71 14,O1 72 .len 71,MC 73
 (i6 0)]).seq (C.block 3 ((C.ops [BI 74 .lss 73 72]).seq ((C.cond (.t 74) C.skip (C.exit 3)).seq ((C.block 4 ((C.ops [O2 75 (.idxA 1) 71 73,LD 76 75,MV 17 76]).seq (C.ops [MV 77
 17,O2 78 (.idxArr 32 1) 11 77,⟨none,none,.store 1,[.t 78,.c (.bool true)]⟩]))).seq (C.ops [BC 79 .add 73 (i6 1),MV 73 79])))).loop))))))).seq (C.ops [BC 80 .add 44 (i6 1),
 MV 44 80])))).loop)).seq ((C.ops [O1 81 (.fldA 3) 10,LD 82 81,O1 83 (.un UnOp.not) 82,O1 84 (.fldA 3) 10,ST 1 84 83]).seq ((C.ops [O1 85 (.fldA 4) 10,⟨none,none,.store 1,
 [.t 85,.c .nl]⟩]).seq (((C.ops [O1 86 (.fldA 3) 10,LD 87 86,O1 88 (.un UnOp.not) 87]).seq (C.cond (.t 88) ((C.ops [O1 89 (.load (some 6)) 10,ST 6 8 89,MC 9 (i6 0)]).seq C.ret)
 C.skip)).seq ((C.ops [ON 18 (.nilo 4 1 3) []]).seq (((C.ops [MV 90 0,O1 91 .len 90,MC 92 (i6 0)]).seq (C.block 5 ((C.ops [BI 93 .lss 92 91]).seq ((C.cond (.t 93) C.skip (C.exit
 5)).seq ((C.block 6 ((C.ops [MV 94 92,MV 19 94]).seq ((C.ops [MV 95 19,O2 96 (.idxArr 32 1) 11 95,LD 97 96,O1 98 (.un UnOp.not) 97]).seq (C.cond (.t 98) (C.ops [MV 99 18,MV
 100 19,⟨some 101,none,.bslc 5 1 1 3 [i6 0] [(0,1)],[.t 100]⟩,O2 102 (.app 6 1 3 8) 99 101,MV 18 102]) C.skip)))).seq (C.ops [BC 103 .add 92 (i6 1),MV 92 103])))).loop)).seq
 ((C.wk.seq (C.ops [MV 105 0,MV 106 1,MV 107 18,ON 108 (.call 61 true) [.t 105,.t 106,.t 107],MV 104 108,O1 109 (.ext 0) 104,O1 110 (.ext 1) 104,MV 20 109,MV 21 110])).seq
 (((C.ops [MV 111 21,BC 112 .neq 111 (i6 0)]).seq (C.cond (.t 112) ((C.ops [⟨some 113,none,.build [i6 0,i6 0,i6 0,.bool false,.nl,.nl] [],[]⟩,MV 114 21,ST 6 8 113,MV 9
 114]).seq C.ret) C.skip)).seq ((C.ops [MV 115 20,O1 116 (.fldA 4) 10,ST 1 116 115]).seq ((C.ops [O1 117 (.load (some 6)) 10,ST 6 8 117,MC 9 (i6 0)]).seq
 C.ret))))))))))))))
theorem qnk:qJ Tryz.prog 33 118 7 [RV.cell 8 (some 6),RV.tmp 9] qtx:=fi Tryz.f33 [8,10,11,13,18,101,102] qrm [31] (by kernel_rfl) (by kernel_rfl) (by kernel_rfl) (by kernel_rfl)
end
section
open Go Go.Proofs AF HY LN
namespace RC
set_option maxHeartbeats 16000000
def smE (l:List En) (o:En) (j:Nat):Bool:=decide ((l.getD j default).frm=o.frm)&&decide ((l.getD j default).to=o.to)
def trF (VE:En→Int) (l:List En) (o:En) (j:Nat):Int:=if smE l o j=true then VE (l.getD j default) else 0
def vrB (VL:En→List Int) (l:List En) (o:En):Nat→Nat→Bool
 |0,_=>false
 |j+1,k=>vrB VL l o j k||(smE l o j&&decide ((k:Int)∈VL (l.getD j default)))
def qpS (names:List Str) (VL:En→List Int) (l:List En) (o:En):List Int:=qS (fun k=> !vrB VL l o l.length k) names.length
def trE (names:List Str) (gs:List Gr) (VE:En→Int) (l:List En) (i:Int):Int:=
 if sgE names gs≠0 then 1 else if i<0∨(l.length:Int)≤i then 6 else kW (trF VE l (l.getD i.toNat default)) 0 l.length
def zrE:En:=⟨0,0,0,false,[],[]⟩
def tnE (names:List Str) (gs:List Gr) (VL:En→List Int) (l:List En) (o:En):En:=
 if o.pos=true then { o with pos:=false,sup:= [] } else { o with pos:=true,sup:=shR names gs (qpS names VL l o) }
def trR (names:List Str) (gs:List Gr) (VE:En→Int) (VL:En→List Int) (l:List En) (i:Int):En:=
 if trE names gs VE l i=0 then tnE names gs VL l (l.getD i.toNat default) else zrE
def bvC (p:Nat→Bool):List AV:=(List.range 32).map fun k=> .bool (p k)
theorem jS (p:Nat→Bool):(bvC p).length=32:=by simp [bvC]
theorem qbM {p:Nat→Bool} {n:Nat} (hn:n<32):(bvC p)[n]? =some (.bool (p n)):=by
 unfold bvC
 rw [List.getElem?_map,List.getElem?_range hn]
 rfl
theorem qqe {p:Nat→Bool} {n:Nat} (hn:n<32):List.take n (bvC p)++ [AV.bool true]++List.drop (n+1) (bvC p)=bvC fun k=>p k||decide (k=n):=by
 refine List.ext_getElem? fun k=> ?_
 by_cases hk:k<32
 ·rw [qbM hk]
  by_cases h1:k<n
  ·rw [List.append_assoc,List.getElem?_append_left (by rw [List.length_take,jS];omega),List.getElem?_take_of_lt h1,qbM hk,decide_eq_false (by omega),Bool.or_false]
  ·by_cases h2:k=n
   ·subst h2
    rw [List.append_assoc,List.getElem?_append_right (by rw [List.length_take,jS];omega),List.length_take,jS,show k-min k 32=0 by omega,decide_eq_true rfl,Bool.or_true]
    rfl
   ·rw [List.getElem?_append_right (by rw [List.length_append,List.length_take,jS];simp only [List.length_cons,List.length_nil];omega),List.length_append,List.length_take,jS,List.getElem?_drop]
    simp only [List.length_cons,List.length_nil]
    rw [show n+1+(k-(min n 32+(0+1)))=k by omega,qbM hk,decide_eq_false h2,Bool.or_false]
 ·rw [List.getElem?_eq_none (by simp only [List.length_append,List.length_take,List.length_drop,jS,List.length_cons,List.length_nil];omega),List.getElem?_eq_none (by rw [jS];omega)]
theorem ku {p q:Nat→Bool} (h: ∀k,k<32→p k=q k):bvC p=bvC q:=by
 unfold bvC
 exact List.map_congr_left fun k hk=>by rw [h k (List.mem_range.1 hk)]
theorem qdU (p:Nat→Bool) (n:Nat):qad n (qS p n)=0:=by
 unfold qad
 refine qA fun i hi=> ?_
 have hm:(qS p n).getD i 0∈qS p n:=by rw [gdqA,qU hi];exact List.getElem_mem hi
 obtain ⟨k,e,hk,_⟩:=ze hm
 unfold qbq
 rw [if_neg (by omega)]
 rw [if_neg]
 rintro ⟨h0,h1⟩
 have hp:=List.pairwise_iff_getElem.1 (qkf p n) (i-1) i (by omega) hi (by omega)
 have g: ∀j (hj:j<(qS p n).length),(qS p n).getD j 0=(qS p n)[j]:=fun j hj=>by rw [gdqA,qU hj];rfl
 rw [g i hi,g (i-1) (by omega)]at h1
 omega
theorem qAa (names:List Str) (gs:List Gr) (VE:En→Int) (VL:En→List Int) (l:List En) (i:Int) (h:List AObj) (hz:Szs names gs) (hl:l.length≤1000000000)
  (h8:sgE names gs=0→names.length≤8∧gs.length≤8) (hVL: ∀e,∀x∈VL e,0≤x∧x<32) (hVn: ∀e,(VL e).length≤1000)
  (c60: ∀j h,qm Tryz.prog 60 [strs names,qt gs,.agg (enC (l.getD j default))] h (.tup [ql (VL (l.getD j default)),.int .i64 (VE (l.getD j default))]) h):
  qm Tryz.prog 33 [strs names,qt gs,qz l,.int .i64 i] h (.tup [.agg (enC (trR names gs VE VL l i)),.int .i64 (trE names gs VE l i)]) h:=by
 have c59:=fun h=>sgP names gs h hz
 obtain ⟨R,hR⟩: ∃R,R=trE names gs VE l i:=⟨_,rfl⟩
 have hLR:trR names gs VE VL l i=if R=0 then tnE names gs VL l (l.getD i.toNat default) else zrE:=by rw [hR];rfl
 rw [hLR,←hR]
 have hzr:VLe (.agg [.int .i64 0,.int .i64 0,.int .i64 0,.bool false,.nl,.nl]) (.agg (enC zrE)):=VLe.agg ⟨VLe.refl _,VLe.refl _,VLe.refl _,VLe.refl _,zP,zP,trivial⟩
 unfold trE at hR
 obtain ⟨s,hs⟩: ∃s,s=sgE names gs:=⟨_,rfl⟩
 rw [←hs]at c59 hR h8
 by_cases g0:s≠0
 ·have k0:(s=0)=False:=eq_false g0
  rw [if_pos g0]at hR
  rw [hR,if_neg (by decide)]
  refine acO qnk ?_
  simp (disch:=omega) only [qtx,List.replicate,go_sem]
  repeat' first
   |((first|refine cA (c59 _) ?_ ?_|refine cG (fun e=>c59 _) ?_ ?_|refine cU (fun _=>c59 _) ?_ ?_);(next=>exact flk);simp (disch:=omega) only [k0,go_sem])
   |((first|apply qc|apply qb);exact rvk;simp only [go_sem];first|exact VLe.refl _|apply qd|apply qa|apply qe|skip)
   |with_reducible first|refine And.intro ?_ ?_|intro _
  all_goals try exact clz
  exact qV ⟨hzr,VLe.refl _,trivial⟩
 have g0:s=0:=Classical.not_not.1 g0
 have k0:(s=0)=True:=eq_true g0
 obtain ⟨n8,g8⟩:=h8 g0
 rw [if_neg (fun hc=>hc g0)]at hR
 by_cases g1:i<0
 ·have k1:(i<0)=True:=eq_true g1
  rw [if_pos (.inl g1)]at hR
  rw [hR,if_neg (by decide)]
  refine acO qnk ?_
  simp (disch:=omega) only [qtx,List.replicate,qz,go_sem]
  repeat' first
   |((first|refine cA (c59 _) ?_ ?_|refine cG (fun e=>c59 _) ?_ ?_|refine cU (fun _=>c59 _) ?_ ?_);(next=>exact flk);simp (disch:=omega) only [k0,k1,qz,go_sem])
   |((first|apply qc|apply qb);exact rvk;simp only [go_sem];first|exact VLe.refl _|apply qd|apply qa|apply qe|skip)
   |with_reducible first|refine And.intro ?_ ?_|intro _
  all_goals try exact clz
  exact qV ⟨hzr,VLe.refl _,trivial⟩
 have k1:(i<0)=False:=eq_false g1
 by_cases g2:(l.length:Int)≤i
 ·have k2:((l.length:Int)≤i)=True:=eq_true g2
  rw [if_pos (.inr g2)]at hR
  rw [hR,if_neg (by decide)]
  refine acO qnk ?_
  simp (disch:=omega) only [qtx,List.replicate,qz,go_sem]
  repeat' first
   |((first|refine cA (c59 _) ?_ ?_|refine cG (fun e=>c59 _) ?_ ?_|refine cU (fun _=>c59 _) ?_ ?_);(next=>exact flk);simp (disch:=omega) only [k0,k1,k2,qz,go_sem])
   |((first|apply qc|apply qb);exact rvk;simp only [go_sem];first|exact VLe.refl _|apply qd|apply qa|apply qe|skip)
   |with_reducible first|refine And.intro ?_ ?_|intro _
  all_goals try exact clz
  exact qV ⟨hzr,VLe.refl _,trivial⟩
 have k2:((l.length:Int)≤i)=False:=eq_false g2
 rw [if_neg (fun hc=>hc.elim g1 g2)]at hR
 have k3:(0≤i)=True:=eq_true (by omega)
 have k4:(i<l.length)=True:=eq_true (by omega)
 obtain ⟨o,ho⟩: ∃o,o=l.getD i.toNat default:=⟨_,rfl⟩
 have eo:=ho.symm
 rw [eo]at hR ⊢
 refine acO qnk ?_
 simp (disch:=omega) only [qtx,List.replicate,qz,enC,go_sem]
 repeat' first
  |((first|refine cA (c59 _) ?_ ?_|refine cG (fun e=>c59 _) ?_ ?_|refine cU (fun _=>c59 _) ?_ ?_);(next=>exact flk);simp (disch:=omega) only [k0,k1,k2,k3,k4,qz,enC,eo,go_sem])
  |((first|apply qc|apply qb);exact rvk;simp only [go_sem];first|exact VLe.refl _|apply qd|apply qa|apply qe|skip)
  |with_reducible first|refine And.intro ?_ ?_|intro _
 all_goals try exact clz
 have e0:List.replicate 32 (AV.bool false)=bvC (vrB VL l o 0):=rfl
 simp only [List.replicate]at e0
 try rw [e0]
 refine qn (T:=fun j:Nat×AObj=>qI 118 [(0,strs names),(1,qt gs),(8,.op h.length 1 0),(10,.op (h.length+1) 1 0),(11,.op (h.length+2) 1 0),(42,qz l),(43,.int .i64 l.length),(44,.int .i64 j.1)])
  (H:=fun j=>h++ [.mem 1 49 [.int .i64 0,.int .i64 0,.int .i64 0,.bool false,.nl,.nl],.mem 1 49 [.int .i64 o.layer,.int .i64 o.frm,.int .i64 o.to,.bool o.pos,strs o.sup,qB o.vars],.mem 1 89 (bvC (vrB VL l o j.1)),j.2,.emp 0,.emp 0,.emp 0])
  (inv:=fun j=>j.1≤l.length∧qN [j.2] 0=true∧ ∀k,k<j.1→trF VE l o k=0) (m:=fun j=>l.length-j.1) (0,.emp 0) ⟨Nat.zero_le _,rfl,fun j hj=>absurd hj (Nat.not_lt_zero j)⟩ (Wk.temps ?_) ?_
 ·(simp only [strs,qz,enC,List.replicate,go_sem,qj,qh,qg,qi];try (repeat' first|(with_reducible refine And.intro ?_ ?_)|(apply qd;omega)|(apply qa;rfl)|exact VLe.refl _))
 rintro ⟨j,O⟩ ⟨j1,j2,j3⟩ K hK
 simp only at j1 j2 j3 hK
 have j2': ∀m,qN (O::m) 0=true:=fun _=>j2
 by_cases hj:j<l.length
 ·have r1:((j:Int)<l.length)=True:=eq_true (by omega)
  have r0:(0≤(j:Int))=True:=eq_true (by omega)
  have hE:=qP (f:=trF VE l o) hj j3
  have hf:trF VE l o j=if smE l o j=true then VE (l.getD j default) else 0:=rfl
  have hsm:smE l o j=(decide ((l.getD j default).frm=o.frm)&&decide ((l.getD j default).to=o.to)):=rfl
  have hst: ∀k,vrB VL l o (j+1) k=(vrB VL l o j k||(smE l o j&&decide ((k:Int)∈VL (l.getD j default)))):=fun _=>rfl
  have c60j:=fun h=>c60 j h
  have hvl:=hVL (l.getD j default)
  have hvn:=hVn (l.getD j default)
  obtain ⟨x,hx⟩: ∃x,x=l.getD j default:=⟨_,rfl⟩
  have ex:=hx.symm
  simp only [ex]at hf hsm hst c60j hvl hvn
  simp only [enC]at c60j
  by_cases a1:x.frm=o.frm
  case neg=>
   have q1:(x.frm=o.frm)=False:=eq_false a1
   rw [decide_eq_false a1,Bool.false_and]at hsm
   rw [hsm,if_neg (by simp)]at hf
   simp (disch:=omega) only [List.replicate,qz,enC,r0,r1,ex,j2',q1,go_sem]
   repeat' first
    |((first|apply qc|apply qb);exact rvk;simp only [go_sem];first|exact VLe.refl _|apply qd|apply qa|apply qe|skip)
    |with_reducible first|refine And.intro ?_ ?_|intro _
   all_goals try exact clz
   refine hK _ _ (j+1,.mem (qx (some O)+1) 49 [.int .i64 x.layer,.int .i64 x.frm,.int .i64 x.to,.bool x.pos,strs x.sup,qB x.vars]) ⟨hj,rfl,fun k hk=> ?_⟩ (by simp only;omega) ?_
   ·by_cases e':k=j
    ·subst e';exact hf
    ·exact j3 k (by simp only at hk;omega)
   rw [show bvC (vrB VL l o (j+1))=bvC (vrB VL l o j)from ku fun k _=>by rw [hst,hsm];simp]
   refine Wk.temps ?_
   (simp only [List.replicate,qz,enC,go_sem,qj,qh,qg,qi];try (repeat' first|(with_reducible refine And.intro ?_ ?_)|(apply qd;omega)|(apply qa;rfl)|exact VLe.refl _))
  by_cases a2:x.to=o.to
  case neg=>
   have q1:(x.frm=o.frm)=True:=eq_true a1
   have q2:(x.to=o.to)=False:=eq_false a2
   rw [decide_eq_false a2,Bool.and_false]at hsm
   rw [hsm,if_neg (by simp)]at hf
   simp (disch:=omega) only [List.replicate,qz,enC,r0,r1,ex,j2',q1,q2,go_sem]
   repeat' first
    |((first|apply qc|apply qb);exact rvk;simp only [go_sem];first|exact VLe.refl _|apply qd|apply qa|apply qe|skip)
    |with_reducible first|refine And.intro ?_ ?_|intro _
   all_goals try exact clz
   refine hK _ _ (j+1,.mem (qx (some O)+1) 49 [.int .i64 x.layer,.int .i64 x.frm,.int .i64 x.to,.bool x.pos,strs x.sup,qB x.vars]) ⟨hj,rfl,fun k hk=> ?_⟩ (by simp only;omega) ?_
   ·by_cases e':k=j
    ·subst e';exact hf
    ·exact j3 k (by simp only at hk;omega)
   rw [show bvC (vrB VL l o (j+1))=bvC (vrB VL l o j)from ku fun k _=>by rw [hst,hsm];simp]
   refine Wk.temps ?_
   (simp only [List.replicate,qz,enC,go_sem,qj,qh,qg,qi];try (repeat' first|(with_reducible refine And.intro ?_ ?_)|(apply qd;omega)|(apply qa;rfl)|exact VLe.refl _))
  have q1:(x.frm=o.frm)=True:=eq_true a1
  have q2:(x.to=o.to)=True:=eq_true a2
  rw [decide_eq_true a1,decide_eq_true a2]at hsm
  rw [hsm,if_pos (by rfl)]at hf
  obtain ⟨y,hy⟩: ∃y,y=VE x:=⟨_,rfl⟩
  obtain ⟨V,hV⟩: ∃V,V=VL x:=⟨_,rfl⟩
  rw [←hy]at hf c60j
  rw [←hV]at c60j hvl hvn
  simp only [←hV,hsm,Bool.and_self,Bool.true_and]at hst
  by_cases a3:y≠0
  ·have q3:(y=0)=False:=eq_false a3
   rw [hE (by rw [hf];exact a3),hf]at hR
   rw [hR,if_neg a3]
   simp (disch:=omega) only [List.replicate,qz,enC,r0,r1,ex,j2',q1,q2,go_sem]
   repeat' first
    |((first|refine cA (c60j _) ?_ ?_|refine cG (fun e=>c60j _) ?_ ?_|refine cU (fun _=>c60j _) ?_ ?_);(next=>exact flk);simp (disch:=omega) only [qz,enC,r0,r1,ex,j2',q1,q2,q3,go_sem])
    |((first|apply qc|apply qb);exact rvk;simp only [go_sem];first|exact VLe.refl _|apply qd|apply qa|apply qe|skip)
    |with_reducible first|refine And.intro ?_ ?_|intro _
   all_goals try exact clz
   exact qV ⟨hzr,VLe.refl _,trivial⟩
  have a3:y=0:=Classical.not_not.1 a3
  have q3:(y=0)=True:=eq_true a3
  have zV1: ∀g,valL g .len [ql V]= .int .i64 V.length:=fun _=>rfl
  have zV2: ∀g,okL g .len [ql V]=True:=fun _=>eq_true trivial
  simp (disch:=omega) only [List.replicate,qz,enC,r0,r1,ex,j2',q1,q2,go_sem]
  repeat' first
   |((first|refine cA (c60j _) ?_ ?_|refine cG (fun e=>c60j _) ?_ ?_|refine cU (fun _=>c60j _) ?_ ?_);(next=>exact flk);simp (disch:=omega) only [qz,enC,r0,r1,ex,j2',q1,q2,q3,zV1,zV2,go_sem])
   |((first|apply qc|apply qb);exact rvk;simp only [go_sem];first|exact VLe.refl _|apply qd|apply qa|apply qe|skip)
   |with_reducible first|refine And.intro ?_ ?_|intro _
  all_goals try exact clz
  obtain ⟨pf,hpf⟩: ∃pf:Nat→Nat→Bool,pf=fun m k=>vrB VL l o j k||decide ((k:Int)∈V.take m):=⟨_,rfl⟩
  have p0:bvC (pf 0)=bvC (vrB VL l o j):=ku fun k _=>by rw [hpf];simp
  rw [←p0]
  refine qn (T:=fun m:Nat=>qI 118 [(0,strs names),(1,qt gs),(8,.op h.length 1 0),(10,.op (h.length+1) 1 0),(11,.op (h.length+2) 1 0),(42,qz l),(43,.int .i64 l.length),(44,.int .i64 j),(71,ql V),(72,.int .i64 V.length),(73,.int .i64 m)])
   (H:=fun m=>h++ [.mem 1 49 [.int .i64 0,.int .i64 0,.int .i64 0,.bool false,.nl,.nl],.mem 1 49 [.int .i64 o.layer,.int .i64 o.frm,.int .i64 o.to,.bool o.pos,strs o.sup,qB o.vars],.mem 1 89 (bvC (pf m)),.mem (qx (some O)+1) 49 [.int .i64 x.layer,.int .i64 x.frm,.int .i64 x.to,.bool x.pos,strs x.sup,qB x.vars],.emp 0,.emp 0,.emp 0])
   (inv:=fun m=>m≤V.length) (m:=fun m=>V.length-m) 0 (Nat.zero_le _) (Wk.temps ?_) ?_
  ·(simp only [strs,qz,enC,List.replicate,go_sem,qj,qh,qg,qi];try (repeat' first|(with_reducible refine And.intro ?_ ?_)|(apply qd;omega)|(apply qa;rfl)|exact VLe.refl _))
  rintro m m1 KA hKA
  have zv: ∀X:List Int,ql X= .sl X.length fun i=> [.int .i64 (X.getD i 0)]:=fun _=>rfl
  by_cases hm:m<V.length
  ·have t1:((m:Int)<V.length)=True:=eq_true (by omega)
   have t0:(0≤(m:Int))=True:=eq_true (by omega)
   have hmm:V.getD m 0∈V:=by rw [gdqA,qU hm];exact List.getElem_mem hm
   obtain ⟨b0,b1⟩:=hvl _ hmm
   have htk:=jf hm
   obtain ⟨w,hw⟩: ∃w,w=V.getD m 0:=⟨_,rfl⟩
   have ew:=hw.symm
   rw [ew]at b0 b1 htk
   obtain ⟨u,rfl⟩: ∃u:Nat,w=(u:Int):=⟨w.toNat,by omega⟩
   have u32:u<32:=by omega
   have t2:(0≤(u:Int))=True:=eq_true (by omega)
   have t3:((u:Int)<32)=True:=eq_true (by omega)
   have t4:(u<32)=True:=eq_true u32
   have t5:(u+1≤32)=True:=eq_true u32
   have gl:=jS (pf m)
   have gs1:=qqe (p:=pf m) u32
   have gg:=qbM (p:=pf m) u32
   have hpn:(bvC fun k=>pf m k||decide (k=u))=bvC (pf (m+1)):=ku fun k _=>by
    rw [hpf]
    simp only
    rw [htk,Bool.or_assoc,←Bool.decide_or]
    congr 1
    refine decide_eq_decide.2 ?_
    rw [List.mem_append,List.mem_singleton]
    constructor
    ·rintro (h1|h1)
     ·exact .inl h1
     ·exact .inr (by omega)
    ·rintro (h1|h1)
     ·exact .inl h1
     ·exact .inr (by omega)
   simp (disch:=omega) only [List.replicate,zv,t0,t1,t2,t3,t4,t5,ew,gl,gs1,gg,Nat.mul_one,Nat.zero_add,Int.toNat_natCast,Option.isSome_some,go_sem]
   repeat' first
    |((first|apply qc|apply qb);exact rvk;simp only [go_sem];first|exact VLe.refl _|apply qd|apply qa|apply qe|skip)
    |with_reducible first|refine And.intro ?_ ?_|intro _
   all_goals try exact clz
   try rw [hpn]
   refine hKA _ _ (m+1) hm (by omega) (Wk.temps ?_)
   (simp only [strs,qz,enC,zv,List.replicate,go_sem,qj,qh,qg,qi];try (repeat' first|(with_reducible refine And.intro ?_ ?_)|(apply qd;omega)|(apply qa;rfl)|exact VLe.refl _))
  ·obtain rfl:m=V.length:=by omega
   have t1:((V.length:Int)<V.length)=False:=eq_false (by omega)
   simp (disch:=omega) only [List.replicate,t1,go_sem]
   repeat' first
    |((first|apply qc|apply qb);exact rvk;simp only [go_sem];first|exact VLe.refl _|apply qd|apply qa|apply qe|skip)
    |with_reducible first|refine And.intro ?_ ?_|intro _
   all_goals try exact clz
   refine hK _ _ (j+1,.mem (qx (some O)+1) 49 [.int .i64 x.layer,.int .i64 x.frm,.int .i64 x.to,.bool x.pos,strs x.sup,qB x.vars]) ⟨hj,rfl,fun k hk=> ?_⟩ (by simp only;omega) ?_
   ·by_cases e':k=j
    ·subst e';rw [hf];exact a3
    ·exact j3 k (by simp only at hk;omega)
   rw [show bvC (vrB VL l o (j+1))=bvC (pf V.length)from ku fun k _=>by rw [hst,hpf];simp only;rw [List.take_length]]
   refine Wk.temps ?_
   (simp only [List.replicate,qz,enC,go_sem,qj,qh,qg,qi];try (repeat' first|(with_reducible refine And.intro ?_ ?_)|(apply qd;omega)|(apply qa;rfl)|exact VLe.refl _))
 obtain rfl:j=l.length:=by omega
 have r1:((l.length:Int)<l.length)=False:=eq_false (by omega)
 rw [qA (f:=trF VE l o) j3]at hR
 rw [hR,if_pos rfl]
 unfold tnE
 cases hpos:o.pos with
 |true=>
  rw [if_pos rfl]
  simp (disch:=omega) only [List.replicate,r1,go_sem]
  repeat' first
   |((first|apply qc|apply qb);exact rvk;simp only [go_sem];first|exact VLe.refl _|apply qd|apply qa|apply qe|skip)
   |with_reducible first|refine And.intro ?_ ?_|intro _
  all_goals try exact clz
  exact qV ⟨VLe.agg ⟨VLe.refl _,VLe.refl _,VLe.refl _,VLe.refl _,zP,VLe.refl _,trivial⟩,VLe.refl _,trivial⟩
 |false=>
 rw [if_neg (by simp)]
 clear hK
 obtain ⟨pB,hpB⟩: ∃pB:Nat→Bool,pB=fun k=> !vrB VL l o l.length k:=⟨_,rfl⟩
 have hrst:qpS names VL l o=qS pB names.length:=by rw [hpB];rfl
 have hpk: ∀k,pB k= !vrB VL l o l.length k:=fun k=>by rw [hpB]
 obtain ⟨vb,hvb⟩: ∃vb,vb=vrB VL l o l.length:=⟨_,rfl⟩
 simp only [←hvb]at hpk
 have zn1: ∀g,valL g .len [strs names]= .int .i64 names.length:=fun _=>rfl
 have zn2: ∀g,okL g .len [strs names]=True:=fun _=>eq_true trivial
 rw [←hvb]
 simp (disch:=omega) only [List.replicate,r1,zn1,zn2,go_sem]
 repeat' first
  |((first|apply qc|apply qb);exact rvk;simp only [go_sem];first|exact VLe.refl _|apply qd|apply qa|apply qe|skip)
  |with_reducible first|refine And.intro ?_ ?_|intro _
 all_goals try exact clz
 refine qn (T:=fun s:Nat×Nat×AObj=>qI 118 [(0,strs names),(1,qt gs),(8,.op h.length 1 0),(10,.op (h.length+1) 1 0),(11,.op (h.length+2) 1 0),(18,.osl (h.length+4) s.2.1 1 0 (qS pB s.1).length),(91,.int .i64 names.length),(92,.int .i64 s.1)])
  (H:=fun s=>h++ [.mem 1 49 [.int .i64 0,.int .i64 0,.int .i64 0,.bool false,.nl,.nl],.mem 1 49 [.int .i64 o.layer,.int .i64 o.frm,.int .i64 o.to,.bool true,.nl,qB o.vars],.mem 1 89 (bvC vb),O,zt s.2.1 3 (qs (qS pB s.1)),s.2.2,.emp 0])
  (inv:=fun s=>s.1≤names.length∧qN [s.2.2] 0=true) (m:=fun s=>names.length-s.1) (0,1,.emp 0) ⟨Nat.zero_le _,rfl⟩ (Wk.temps ?_) ?_
 ·(simp only [strs,List.replicate,qS,List.range_zero,List.filter_nil,List.length_nil,List.map_nil,go_sem,qj,qh,qg,qi];try (repeat' first|(with_reducible refine And.intro ?_ ?_)|(apply qd;omega)|(apply qa;rfl)|exact VLe.refl _))
 rintro ⟨k,v,O5⟩ ⟨m1,m2⟩ KA hKA
 simp only at m1 m2 hKA
 have m2': ∀m,qN (O5::m) 0=true:=fun _=>m2
 have hst:=zT pB k
 have hll:=qX pB k
 have hp:=hpk k
 by_cases hk:k<names.length
 ·have t1:((k:Int)<names.length)=True:=eq_true (by omega)
  have t2:(0≤(k:Int))=True:=eq_true (by omega)
  have t3:((k:Int)<32)=True:=eq_true (by omega)
  have t4:(k<32)=True:=eq_true (by omega)
  have gl:=jS vb
  have gg:=qbM (p:=vb) (n:=k) (by omega)
  obtain ⟨L,hL⟩: ∃L,L=qS pB k:=⟨_,rfl⟩
  rw [←hL]at hst hll
  have eL:=hL.symm
  have eC:=qF L
  have eTk:List.take L.length (qs L)=qs L:=List.take_of_length_le (by omega)
  cases hb:vb k with
  |false=>
   rw [hb]at gg hp
   rw [hp,if_pos (by rfl)]at hst
   simp (disch:=omega) only [List.replicate,t1,t2,t3,t4,gl,gg,m2',eL,Nat.mul_one,Nat.zero_add,Int.toNat_natCast,Option.isSome_some,Option.getD_some,go_sem]
   repeat' first
    |((first|apply qc|apply qb);exact rvk;simp only [go_sem];first|exact VLe.refl _|apply qd|apply qa|apply qe|skip)
    |with_reducible first|refine And.intro ?_ ?_|intro _
   all_goals try exact clz
   have eA:qs L++ [AV.int .i64 (k:Int)]=qs (qS pB (k+1)):=by rw [hst,qT];rfl
   try rw [eTk]
   try rw [eA]
   refine hKA _ _ (k+1,v+1,.mem (qx (some O5)+1) 3 [.int .i64 (k:Int)]) ⟨hk,rfl⟩ (by simp only;omega) ?_
   simp only [hst,List.length_append,List.length_cons,List.length_nil]
   refine Wk.temps ?_
   (simp only [strs,List.replicate,go_sem,qj,qh,qg,qi];try (repeat' first|(with_reducible refine And.intro ?_ ?_)|(apply qd;omega)|(apply qa;rfl)|exact VLe.refl _))
  |true=>
   rw [hb]at gg hp
   rw [hp,if_neg (by simp),List.append_nil]at hst
   simp (disch:=omega) only [List.replicate,t1,t2,t3,t4,gl,gg,m2',eL,Nat.mul_one,Nat.zero_add,Int.toNat_natCast,Option.isSome_some,Option.getD_some,go_sem]
   repeat' first
    |((first|apply qc|apply qb);exact rvk;simp only [go_sem];first|exact VLe.refl _|apply qd|apply qa|apply qe|skip)
    |with_reducible first|refine And.intro ?_ ?_|intro _
   all_goals try exact clz
   refine hKA _ _ (k+1,v,O5) ⟨hk,m2⟩ (by simp only;omega) ?_
   simp only [hst]
   refine Wk.temps ?_
   (simp only [strs,List.replicate,go_sem,qj,qh,qg,qi];try (repeat' first|(with_reducible refine And.intro ?_ ?_)|(apply qd;omega)|(apply qa;rfl)|exact VLe.refl _))
 ·obtain rfl:k=names.length:=by omega
  have t1:((names.length:Int)<names.length)=False:=eq_false (by omega)
  simp (disch:=omega) only [List.replicate,t1,go_sem]
  repeat' first
   |((first|apply qc|apply qb);exact rvk;simp only [go_sem];first|exact VLe.refl _|apply qd|apply qa|apply qe|skip)
   |with_reducible first|refine And.intro ?_ ?_|intro _
  all_goals try exact clz
  obtain ⟨r,hr⟩: ∃r,r=qS pB names.length:=⟨_,rfl⟩
  have hse:qgb names gs r=0:=by
   unfold qgb
   rw [←hs,if_pos g0,hr]
   exact qdU _ _
  have c61:=fun h=>qzX names gs r h hz (by rw [hr];omega) (fun _=>⟨n8,g8⟩)
  rw [hse]at c61
  rw [hrst,←hr]
  refine ⟨qI 118 [(0,strs names),(1,qt gs),(8,.op h.length 1 0),(10,.op (h.length+1) 1 0),(18,ql r)],_,Wk.trans (Wk.freeze [h.length+4] (by simp only [j6,go_sem])) (Wk.temps ?_),?_⟩
  ·(simp only [strs,List.replicate,List.map,go_sem,qj,qh,qg,qi];try (repeat' first|(with_reducible refine And.intro ?_ ?_)|(apply qd;omega)|(apply qa;rfl)|exact VLe.refl _))
   ·rw [if_neg (by simp)];exact VLe.refl _
   ·rw [if_neg (by simp)];exact VLe.refl _
   ·rw [if_pos (by simp),if_pos (by simp)]
    exact j7 (fun _=>rfl) rfl
  simp only [qcU,List.map,go_sem]
  simp (disch:=omega) only [List.replicate,go_sem]
  repeat' first
   |((first|refine cA (c61 _) ?_ ?_|refine cG (fun e=>c61 _) ?_ ?_|refine cU (fun _=>c61 _) ?_ ?_);(next=>exact flk);simp (disch:=omega) only [go_sem])
   |((first|apply qc|apply qb);exact rvk;simp only [go_sem];first|exact VLe.refl _|apply qd|apply qa|apply qe|skip)
   |with_reducible first|refine And.intro ?_ ?_|intro _
  all_goals try exact clz
end RC
end
section
open Go Go.Proofs AF HY LN
namespace RC
set_option maxHeartbeats 4000000
theorem qyc {names:List Str} {gs:List Gr} {w:List Str} {e:En} (h:kj names gs w e=0):
  vsE names gs e=0∧ ∀k x,k<e.vars.length→x∈zz names gs (e.vars.getD k default).sigla→x∈vsL names gs e:=by
 have c:=kw.1 h
 have ht:(kI names gs (noS e) e.vars.length).2=false:=by
  refine qh2 (e:=noS e) _ (fun j k hj hk x hx=>qbH c.tc hj hk hx) (fun k hk x hx=> ?_)
  rw [show (noS e).sup= []from rfl,qcQ]at hx
  cases hx
 have hE:vsE names gs e=0:=by
  unfold vsE
  rw [if_neg (fun hc=>hc c.sg),if_neg (fun hc=>hc (qA (f:=fun i=>jo names gs (e.vars.getD i default).sigla) c.ev))]
  unfold vsC
  rw [qaj,ht]
  rfl
 refine ⟨hE,fun k x hk hx=> ?_⟩
 have hi:=qh1 names gs (noS e) e.vars.length
 have hm:x∈(kI names gs (noS e) e.vars.length).1:=(qen names gs (noS e) _ ht x).2 (.inr ⟨k,hk,hx⟩)
 obtain ⟨x0,x1⟩:=hi.rng x hm
 have h1:=(hi.mem x.toNat (by omega)).1 (by rw [show ((x.toNat:Nat):Int)=x by omega];exact hm)
 unfold vsL
 rw [if_pos hE]
 refine kO.2 ⟨x.toNat,by omega,?_,by omega⟩
 exact decide_eq_true (by unfold vsC;omega)
theorem qsm {VL:En→List Int} {l:List En} {o:En} {i k:Nat}: ∀n,i<n→smE l o i=true→(k:Int)∈VL (l.getD i default)→vrB VL l o n k=true:=by
 intro n
 induction n with
 |zero=>intro h;exact absurd h (Nat.not_lt_zero i)
 |succ n ih=>
  intro h1 h2 h3
  show (vrB VL l o n k||_)=true
  by_cases e:i=n
  ·subst e
   rw [h2,decide_eq_true h3]
   simp
  ·rw [ih (by omega) h2 h3,Bool.true_or]
theorem qsh {names:List Str} {gs:List Gr} {w:List Str} {l:List En} (h:qpZ names gs w l) {i:Nat} (hi:i<l.length):
  kj names gs w (tnE names gs (vsL names gs) l (l.getD i default))=0∧nfE (tnE names gs (vsL names gs) l (l.getD i default))=nfE (l.getD i default)∧(tnE names gs (vsL names gs) l (l.getD i default)).pos= !(l.getD i default).pos:=by
 have hm:l.getD i default∈l:=by rw [gdqA,qU hi];exact List.getElem_mem hi
 have hc:=h.ck _ hm
 have hsm:smE l (l.getD i default) i=true:=by unfold smE;rw [decide_eq_true rfl,decide_eq_true rfl];rfl
 obtain ⟨_,hvs⟩:=qyc hc
 obtain ⟨o,ho⟩: ∃o,o=l.getD i default:=⟨_,rfl⟩
 rw [←ho]at hc hsm hvs ⊢
 unfold tnE
 cases hp:o.pos with
 |true=>
  rw [if_pos rfl]
  exact ⟨qoT hc,rfl,rfl⟩
 |false=>
  rw [if_neg (by simp)]
  have hst:qgb names gs (qpS names (vsL names gs) l o)=0:=by
   unfold qgb
   rw [if_pos h.sg]
   exact qdU _ _
  obtain ⟨h1,h2⟩:=qsa hst
  refine ⟨qoU hc h1 (fun k hk x hx hxv=> ?_),rfl,rfl⟩
  rw [h2]at hx
  obtain ⟨u,rfl,_,hu⟩:=ze hx
  have:=qsm (VL:=vsL names gs) (k:=u) l.length hi hsm (by rw [←ho];exact hvs k _ hk hxv)
  rw [this]at hu
  cases hu
theorem qvR (names:List Str) (gs:List Gr) (VL:En→List Int) (l:List En) (o:En):(tnE names gs VL l o).sup.length≤200∧(tnE names gs VL l o).vars=o.vars∧(tnE names gs VL l o).layer=o.layer:=by
 unfold tnE
 split
 ·exact ⟨Nat.zero_le _,rfl,rfl⟩
 ·refine ⟨?_,rfl,rfl⟩
  show (shR names gs _).length≤200
  unfold shR
  split
  ·rw [List.length_map]
   unfold qwv
   obtain ⟨k,_,e⟩:=qiV gs (zU (qpS names VL l o)) (kc gs (zU (qpS names VL l o))) (2^(kc gs (zU (qpS names VL l o))).length-1)
   rw [e,qc2]
   have h1:=qX k.testBit 64
   have h2:=qX (anN (zU (qpS names VL l o)) (chN (usM gs (kc gs (zU (qpS names VL l o)))) k)).testBit 64
   unfold qmg
   omega
  ·exact Nat.zero_le _
end RC
end
section
open Go Go.Proofs AF
def qrn:List Nat:= [93,74,79,120,147,148,161,170,63,105,131,64,31,32,57,58,29,30]
def c7w:C:=
 ((C.ops [O1 2 (.box 0 26) 0,MC 4 (.bool false)]).seq (((C.ops [O1 13 (.load (some 4)) 2,O1 14 (.call 25 true) 13,O1 15 (.un UnOp.not) 14,MV 16 15,P1 17 16 false (.fldA 3) 2,
 P1 18 16 false (.load none) 17,P1 19 16 false .len 18,PC 20 16 false (.bin .eql) 19 (i6 0),PT 21 16 20]).seq (C.cond (.t 21) ((C.ops [ON 22 (.call 11 true) [],MV 4 22]).seq
 C.ret) C.skip)).seq ((C.ops [MV 23 1,O1 24 (.conv .i64) 23,O1 25 (.fldA 3) 2,LD 26 25,O1 27 .len 26,BI 28 .rem 24 27,MV 5 28]).seq ((C.ops [O1 30 (.fldA 0) 2,LD 31 30,O1 32
 (.fldA 1) 2,LD 33 32,O1 34 (.fldA 3) 2,LD 35 34,MV 36 5,ON 37 (.call 33 true) [.t 31,.t 33,.t 35,.t 36],MV 29 37,O1 38 (.ext 0) 29,O1 39 (.ext 1) 29,⟨some 6,none,
 .alloc 1 49 [i6 0,i6 0,i6 0,.bool false,.nl,.nl],[]⟩,ST 6 6 38,MV 7 39]).seq (((C.ops [MV 40 7,BC 41 .neq 40 (i6 0)]).seq (C.cond (.t 41) ((C.ops [ON 42 (.call 11 true)
 [],MV 4 42]).seq C.ret) C.skip)).seq ((C.ops [O1 43 (.fldA 3) 2,LD 44 43,O1 45 (.call 31 false) 44,MV 8 45]).seq ((C.ops [MV 46 8,MV 47 5,O1 48 (.load (some 6)) 6,O2 49
 (.idxA 6) 46 47,ST 6 49 48]).seq ((C.wk.seq (C.ops [O1 51 (.fldA 0) 2,LD 52 51,O1 53 (.fldA 1) 2,LD 54 53,O1 55 (.fldA 2) 2,LD 56 55,O1 57 (.fldA 3) 2,LD 58 57,ON 59
 (.call 14 true) [.t 52,.t 54,.t 56,.t 58],MV 50 59,O1 60 (.ext 0) 50,O1 61 (.ext 1) 50,MV 9 60,MV 10 61])).seq ((C.ops [O1 63 (.fldA 0) 2,LD 64 63,O1 65 (.fldA 1) 2,LD
 66 65,O1 67 (.fldA 2) 2,LD 68 67,MV 69 8,ON 70 (.call 14 true) [.t 64,.t 66,.t 68,.t 69],MV 62 70,O1 71 (.ext 0) 62,O1 72 (.ext 1) 62,MV 11 71,MV 12 72]).seq ((C.ops
 [MV 73 10,BC 74 .eql 73 (i6 0),MV 75 74,MG 76 75 true 12,PC 77 75 true (.bin .eql) 76 (i6 0),PF 78 75 77,MV 79 78,P1 80 79 true (.fldA 3) 6,P1 81 79 true (.load none) 80,
 P1 82 79 true (.fldA 3) 2,P1 83 79 true (.load none) 82,MG 84 79 true 5,P2 85 79 true (.idxA 6) 83 84,P1 86 79 true (.fldA 3) 85,P1 87 79 true (.load none) 86,P2 88 79 true
 (.bool true) 81 87,PF 89 79 88,MV 90 89,MG 91 90 true 9,MG 92 90 true 11,P2 93 90 true (.call 23 true) 91 92,PF 94 90 93,MV 95 94,PN 96 95 true (.call 11 true) [],PF 97 95
 96,MV 4 97]).seq
 C.ret))))))))))
theorem qwy:qJ Tryz.prog 7 98 3 [RV.tmp 4] c7w:=fi Tryz.f7 [2,6,45] qrn [9] (by kernel_rfl) (by kernel_rfl) (by kernel_rfl) (by kernel_rfl)
end
section
open Go Go.Proofs AF HY LN
namespace RC
set_option maxHeartbeats 16000000
theorem qjU {names:List Str} {gs:List Gr} {t:List Str} {l:List En} (h:qeJ names gs t l=false) (hs:sgE names gs=0):names.length≤8∧gs.length≤8:=by
 have ho:=qbk hs
 have h1:=ho.n32
 have h2:=ho.g16
 unfold qeJ qpz at h
 simp only [Bool.or_eq_false_iff,Bool.and_eq_false_iff,decide_eq_false_iff_not]at h
 omega
theorem qvP {names:List Str} {gs:List Gr} {t:List Str} {l:List En} {k:Nat} {e:En} (h:CSz names gs t l) (h1:e.vars=(l.getD k default).vars) (h2:e.sup.length≤1000):CSz names gs t (l.set k e):=by
 have key: ∀i,(l.set k e).getD i default=e∨(l.set k e).getD i default=l.getD i default:=fun i=>by
  rw [gdqA,List.getElem?_set]
  split
  ·split
   ·exact .inl rfl
   ·rename_i e1 e2
    exact .inr (by rw [gdqA,List.getElem?_eq_none (by omega)])
  ·exact .inr (by rw [gdqA])
 refine ⟨h.hz,h.ht,h.tn,by rw [List.length_set];exact h.ln,h.nn,h.gm,fun i=> ?_,fun i=> ?_,fun i=> ?_,fun i=> ?_,fun i=> ?_⟩
 ·rcases key i with e1|e1<;>rw [e1]
  ·have:=h.he k
   exact ⟨by omega,by rw [h1];exact this.vs,by rw [h1];exact this.w,by rw [h1];exact this.sg⟩
  ·exact h.he i
 ·rcases key i with e1|e1<;>rw [e1]
  ·rw [h1];exact h.vl k
  ·exact h.vl i
 ·rcases key i with e1|e1<;>rw [e1]
  ·rw [h1];exact h.sg k
  ·exact h.sg i
 ·rcases key i with e1|e1<;>rw [e1]
  ·rw [h1];exact h.wl k
  ·exact h.wl i
 ·rcases key i with e1|e1<;>rw [e1]
  ·exact h2
  ·exact h.sp i
theorem qml {names:List Str} {gs:List Gr} {w:List Str} {l:List En} {k:Nat} {e:En} (g:rdE names gs w l=0) (ht:nfE e=nfE (l.getD k default)) (hc:kj names gs w e=0):rdE names gs w (l.set k e)=0∧qmc names gs w (l.set k e)=qmc names gs w l:=by
 have h2:rdE names gs w (l.set k e)=0:=qcs.2 ((qcs.1 g).turn ht hc)
 refine ⟨h2,?_⟩
 unfold qmc
 rw [if_pos g,if_pos h2]
 unfold qhX
 congr 1
 funext s
 exact qoX ht _
theorem qv0 {names:List Str} {gs:List Gr} {e:En} {x:Int} (hx:x∈vsL names gs e):0≤x∧x<32:=by
 unfold vsL at hx
 split at hx
 ·obtain ⟨u,rfl,_,_⟩:=ze hx
  omega
 ·cases hx
theorem qsq (names:List Str) (gs:List Gr) (e:En):(vsL names gs e).length≤1000:=by
 unfold vsL
 split
 ·exact Nat.le_trans (qX _ _) (by omega)
 ·exact Nat.zero_le _
theorem qzQ (names:List Str) (gs:List Gr) (t:List Str) (l:List En) (at0:Int) (h:List AObj) (hb:CB names gs t l) (ha:0≤at0∧at0≤255) (hp:kh SG h):qm Tryz.prog 7 [.agg (zW names gs t l),.int .u8 at0] h (.bool true) h:=by
 have c25:=fun l'=>fnP names gs t l (h++l') hb (hp.app l')
 have c11:=fun l'=>qzl (h++l') (hp.app l')
 have z5: ∀g,valL g .len [qz l]= .int .i64 l.length:=fun _=>rfl
 have z6: ∀g,okL g .len [qz l]=True:=fun _=>eq_true trivial
 unfold zW at c25
 by_cases hf:qeJ names gs t l=false∧rdE names gs t l=0
 case neg=>
  have e:(!qeJ names gs t l&&decide (rdE names gs t l=0))=false:=by
   cases h1:qeJ names gs t l with
   |true=>rfl
   |false=>
    have: ¬rdE names gs t l=0:=fun h2=>hf ⟨h1,h2⟩
    simp [this]
  simp only [e]at c25
  refine acO qwy ?_
  simp (disch:=omega) only [c7w,List.replicate,zW,go_sem]
  repeat' first
   |((first|refine cA (c25 _) ?_ ?_|refine cG (fun e=>c25 _) ?_ ?_|refine cA (c11 _) ?_ ?_|refine cG (fun e=>c11 _) ?_ ?_|refine cU (fun _=>c25 _) ?_ ?_|refine cU (fun _=>c11 _) ?_ ?_);(next=>exact flk);simp (disch:=omega) only [zW,go_sem])
   |((first|apply qc|apply qb);exact rvk;simp only [go_sem];first|exact VLe.refl _|apply qd|apply qa|apply qe|skip)
   |with_reducible first|refine And.intro ?_ ?_|intro _
  all_goals try exact clz
 obtain ⟨hg,g⟩:=hf
 have e:(!qeJ names gs t l&&decide (rdE names gs t l=0))=true:=by rw [hg,decide_eq_true g];rfl
 simp only [e]at c25
 by_cases hl0:l.length=0
 ·have k0:((l.length:Int)=0)=True:=eq_true (by omega)
  refine acO qwy ?_
  simp (disch:=omega) only [c7w,List.replicate,zW,go_sem]
  repeat' first
   |((first|refine cA (c25 _) ?_ ?_|refine cG (fun e=>c25 _) ?_ ?_|refine cA (c11 _) ?_ ?_|refine cG (fun e=>c11 _) ?_ ?_|refine cU (fun _=>c25 _) ?_ ?_|refine cU (fun _=>c11 _) ?_ ?_);(next=>exact flk);simp (disch:=omega) only [zW,z5,z6,k0,go_sem])
   |((first|apply qc|apply qb);exact rvk;simp only [go_sem];first|exact VLe.refl _|apply qd|apply qa|apply qe|skip)
   |with_reducible first|refine And.intro ?_ ?_|intro _
  all_goals try exact clz
 have k0:((l.length:Int)=0)=False:=eq_false (by omega)
 have hc:=qeK hg
 have hln:=hc.ln
 have hok:=qcs.1 g
 obtain ⟨a,rfl⟩: ∃a:Nat,at0=(a:Int):=⟨at0.toNat,by omega⟩
 have hil:a%l.length<l.length:=Nat.mod_lt _ (by omega)
 have hmod:(a:Int)%(l.length:Int)=((a%l.length:Nat):Int):=by omega
 obtain ⟨k,hk⟩: ∃k,k=a%l.length:=⟨_,rfl⟩
 rw [←hk]at hil hmod
 have k1:(0≤(k:Int))=True:=eq_true (by omega)
 have k2:((k:Int)<l.length)=True:=eq_true (by omega)
 have c33:=fun h=>qAa names gs (vsE names gs) (vsL names gs) l (k:Int) h hc.hz (by omega) (fun e=>qjU hg e)
  (fun e x hx=>qv0 hx)
  (fun e=>qsq names gs e)
  (fun j h=>vsP names gs (l.getD j default) h hc.hz (by have:=hc.vl j;omega) (fun i=>by have:=hc.sg j i;omega))
 by_cases hE:trE names gs (vsE names gs) l (k:Int)=0
 case neg=>
  have k3:(trE names gs (vsE names gs) l (k:Int)=0)=False:=eq_false hE
  simp only [enC]at c33
  refine acO qwy ?_
  simp (disch:=omega) only [c7w,List.replicate,zW,go_sem]
  repeat' first
   |((first|refine cA (c25 _) ?_ ?_|refine cG (fun e=>c25 _) ?_ ?_|refine cA (c33 _) ?_ ?_|refine cG (fun e=>c33 _) ?_ ?_|refine cA (c11 _) ?_ ?_|refine cG (fun e=>c11 _) ?_ ?_|refine cU (fun _=>c25 _) ?_ ?_|refine cU (fun _=>c33 _) ?_ ?_|refine cU (fun _=>c11 _) ?_ ?_);(next=>exact flk);simp (disch:=omega) only [zW,z5,z6,k0,hmod,k3,go_sem])
   |((first|apply qc|apply qb);exact rvk;simp only [go_sem];first|exact VLe.refl _|apply qd|apply qa|apply qe|skip)
   |with_reducible first|refine And.intro ?_ ?_|intro _
  all_goals try exact clz
 have hR:trR names gs (vsE names gs) (vsL names gs) l (k:Int)=tnE names gs (vsL names gs) l (l.getD k default):=by
  unfold trR
  rw [if_pos hE,Int.toNat_natCast]
 obtain ⟨t1,t2,t3⟩:=qsh hok hil
 obtain ⟨s1,s2,s3⟩:=qvR names gs (vsL names gs) l (l.getD k default)
 simp only [hE,hR]at c33
 obtain ⟨T,hT⟩: ∃T,T=tnE names gs (vsL names gs) l (l.getD k default):=⟨_,rfl⟩
 simp only [←hT]at c33
 rw [←hT]at t1 t2 t3 s1 s2 s3
 have hcT:CSz names gs t (l.set k T):=qvP hc s2 (by omega)
 obtain ⟨g1,a1⟩:=qml g t2 t1
 have c14a:=fun l'=>qp4 names gs t l (h++l') hc (hp.app l')
 have c14b:=fun l'=>qp4 names gs t (l.set k T) (h++l') hcT (hp.app l')
 have e0:opE 0=0:=rfl
 simp only [g,e0]at c14a
 simp only [g1,a1,e0]at c14b
 have c23:=fun h=>qy6 (qmc names gs t l) h (by have:=(qfB hc).1;omega) (fun i=>by have:=(qfB hc).2 i;omega)
 have eC:enC T= [.int .i64 T.layer,.int .i64 T.frm,.int .i64 T.to,.bool T.pos,strs T.sup,qB T.vars]:=rfl
 have l0:l≠ []:=fun e=>hl0 (by rw [e];rfl)
 rw [eC]at c33
 refine acO qwy ?_
 simp (disch:=omega) only [c7w,List.replicate,zW,go_sem]
 repeat' first
  |((first|refine cA (c25 _) ?_ ?_|refine cG (fun e=>c25 _) ?_ ?_|refine cA (c33 _) ?_ ?_|refine cG (fun e=>c33 _) ?_ ?_|refine cU (fun _=>c25 _) ?_ ?_|refine cU (fun _=>c33 _) ?_ ?_);(next=>exact flk);simp (disch:=omega) only [zW,z5,z6,k0,hmod,go_sem])
  |((first|apply qc|apply qb);exact rvk;simp only [go_sem];first|exact VLe.refl _|apply qd|apply qa|apply qe|skip)
  |with_reducible first|refine And.intro ?_ ?_|intro _
 all_goals try exact clz
 refine zD (qyX l _ (h.length+2) (by simp only [go_sem]) l0 (by omega)) (by exact flk) ?_
 have k6:(k*6+6≤(jv l).length)=True:=eq_true (by rw [jW];omega)
 simp (disch:=omega) only [go_sem]
 repeat' first
  |((first|apply qc|apply qb);exact rvk;simp only [go_sem];first|exact VLe.refl _|apply qd|apply qa|apply qe|skip)
  |with_reducible first|refine And.intro ?_ ?_|intro _
 all_goals try exact clz
 ·rw [jW];omega
 have hset:=qcN T hil
 rw [eC]at hset
 try rw [hset]
 have zm:valP (.mm true) [.int .i64 0,.int .i64 0,.int .i64 0]= .int .i64 0:=rfl
 refine ⟨qI 98 [(2,.op h.length 1 0),(5,.int .i64 k),(6,.op (h.length+1) 1 0),(8,qz (l.set k T))],_,Wk.trans (Wk.freeze [h.length+2] (by simp only [j6,go_sem])) (Wk.temps ?_),?_⟩
 ·(simp only [List.replicate,List.map,go_sem,qj,qh,qg,qi];try (repeat' first|(with_reducible refine And.intro ?_ ?_)|(apply qd;omega)|(apply qa;rfl)|exact VLe.refl _))
  ·rw [if_neg (by simp)];exact VLe.refl _
  ·rw [if_neg (by simp)];exact VLe.refl _
  ·rw [if_pos (by simp),if_pos (by simp),if_pos (by rw [jW,List.length_set];exact Nat.le_refl _)]
   exact qmY (by rw [List.length_set])
 simp only [qcU,List.map,go_sem]
 have hpx: ∀b:Bool,((!b)==b)=false:=fun b=>by cases b<;>rfl
 have k3:(l.getD k default).pos= !T.pos:=by rw [t3,Bool.not_not]
 simp (disch:=omega) only [List.replicate,zW,qz,enC,k1,k2,k3,go_sem]
 repeat' first
  |((first|refine cA (c14a _) ?_ ?_|refine cG (fun e=>c14a _) ?_ ?_|refine cA (c14b _) ?_ ?_|refine cG (fun e=>c14b _) ?_ ?_|refine cA (c23 _) ?_ ?_|refine cG (fun e=>c23 _) ?_ ?_|refine cA (c11 _) ?_ ?_|refine cG (fun e=>c11 _) ?_ ?_|refine cU (fun _=>c14a _) ?_ ?_|refine cU (fun _=>c14b _) ?_ ?_|refine cU (fun _=>c23 _) ?_ ?_|refine cU (fun _=>c11 _) ?_ ?_);(next=>exact flk);simp (disch:=omega) only [zW,qz,enC,k1,k2,k3,go_sem])
  |((first|apply qc|apply qb);exact rvk;simp only [go_sem];first|exact VLe.refl _|apply qd|apply qa|apply qe|skip)
  |with_reducible first|refine And.intro ?_ ?_|intro _
 all_goals try exact clz
end RC
end
section
open Go Go.Proofs AF HY Go.ChangeShapes Go.RowKit
namespace LN
theorem qxQ : Tryz.prog.globalNamed "internal/strconv.uint64pow10" = some 3 := by kernel_rfl
theorem qxS : Tryz.prog.globalNamed "strconv.ErrSyntax" = some 1 := by kernel_rfl
theorem qxR : Tryz.prog.globalNamed "strconv.ErrRange" = some 2 := by kernel_rfl
theorem qn9 {w w':World} (h:qph w) (e:w'.heap[3]? =w.heap[3]?):qph w':=by
 unfold qph Lib.TabIs at*
 rw [qdb qxQ e]
 exact h
theorem qe9 : "*" ++ "errors.errorString" = "*errors.errorString" := by decide
theorem qpR (u : TypeId) (h : Tryz.prog.typeName? 3 u = some "*errors.errorString") : u = 227 :=
 typeName_ptr_named (nm := "errors.errorString") (by rw [qe9]; kernel_rfl) (by kernel_rfl) (by decide) u (by rw [qe9]; exact h)
def qc6:List Nat:= [3,1,2]
def qwD (w:World):Prop:=qph w∧qsT w
theorem qvQ {W:World} (h:laidMet Tryz.prog YthlgfjbghnildaaGreatDoor.Rows.reconstructReadsRow.laid W):qph W∧qsT W:=by
 have h2:=laidMet.tail (laidMet.tail h)
 have h3:=laidMet.tail h2
 have h4:=laidMet.tail h3
 obtain ⟨a,s,e1,_⟩:=laid_sentinel (g:=2) (ti:=197) (tp:=227) (te:=229) (ts:=9) h3 qxR (by kernel_rfl) Tryz.underlying197 qpR Tryz.underlying227 Tryz.underlying229 rfl rfl Tryz.underlying9 (by kernel_rfl) (by kernel_rfl)
 obtain ⟨b,t,e2,_⟩:=laid_sentinel (g:=1) (ti:=197) (tp:=227) (te:=229) (ts:=9) h4 qxS (by kernel_rfl) Tryz.underlying197 qpR Tryz.underlying227 Tryz.underlying229 rfl rfl Tryz.underlying9 (by kernel_rfl) (by kernel_rfl)
 exact ⟨Lib.tabIs_of_head (t:=231) (e:=122) (n:=20) qxQ (by kernel_rfl) Tryz.underlying231 Tryz.underlying122 (by kernel_rfl) (by kernel_rfl) h2,⟨_,_,e2⟩,_,_,e1⟩
theorem qot {W:World} (h:laidMet Tryz.prog YthlgfjbghnildaaGreatDoor.Rows.reconstructReadsRow.laid W): ∀b,b∈qc6→ ∃arr T fz,W.heap[b]? =some (.cells arr T fz):=by
 intro b hb
 obtain ⟨h1,⟨_,_,h2⟩,_,_,h3⟩:=qvQ h
 have e:b=3∨b=1∨b=2:=by simpa [qc6] using hb
 rcases e with rfl|rfl|rfl
 ·exact qb5 qxQ h1
 ·exact qb5 qxS h2
 ·exact qb5 qxR h3
theorem qr8 {W:World} (h:laidMet Tryz.prog YthlgfjbghnildaaGreatDoor.Rows.reconstructReadsRow.laid W): ∀w':World,(∀b,b∈qc6→w'.heap[b]? =W.heap[b]?)→qwD w':=by
 intro w' hs
 obtain ⟨h1,⟨t1,p1,h2⟩,t2,p2,h3⟩:=qvQ h
 refine ⟨qn9 h1 (hs 3 (by simp [qc6])),⟨t1,p1,?_⟩,t2,p2,?_⟩
 ·rw [qdb qxS (hs 1 (by simp [qc6]))];exact h2
 ·rw [qdb qxR (hs 2 (by simp [qc6]))];exact h3
theorem qr7:kh RC.SG [.pin qc6 qwD]:=⟨0,_,_,rfl,fun _ h=>h⟩
end LN
end
