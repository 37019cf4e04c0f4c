import Derived.Test.YthlgfjbghnildaaGreatDoorK14
import Derived.Test.YthlgfjbghnildaaGreatDoorK1
import Derived.Test.YthlgfjbghnildaaGreatDoorK3
import Derived.Test.YthlgfjbghnildaaGreatDoorK6
import Derived.Test.YthlgfjbghnildaaGreatDoorProg
import Derived.Test.YthlgfjbghnildaaGreatDoorK13
import Derived.Test.YthlgfjbghnildaaGreatDoorK10
import Derived.Test.YthlgfjbghnildaaGreatDoorK8
set_option linter.all false
set_option linter.unusedSimpArgs false
set_option linter.unusedVariables false
set_option linter.unusedSectionVars false
set_option maxRecDepth 100000
section
open Go Go.Proofs AF HY LN
namespace RC
set_option maxHeartbeats 16000000
def noS (e:En):En:= { e with sup:= [] }
def vsC (names:List Str) (gs:List Gr) (e:En) (i:Nat):List Int:=cnt names gs (noS e) i
def vsE (names:List Str) (gs:List Gr) (e:En):Int:=
 if sgE names gs≠0 then 1 else if qab (fun i=>ji names gs (e.vars.getD i default).sigla) 0 e.vars.length≠0 then qab (fun i=>ji names gs (e.vars.getD i default).sigla) 0 e.vars.length
 else if qh5 (vsC names gs e e.vars.length)=true then 17 else 0
def vsB (names:List Str) (gs:List Gr) (e:En) (k:Nat):Bool:=decide (0<(vsC names gs e e.vars.length).getD k 0)
def vsL (names:List Str) (gs:List Gr) (e:En):List Int:=if vsE names gs e=0 then qY (vsB names gs e) 32 else []
theorem qpx (names:List Str) (gs:List Gr) (e:En):vsC names gs e 0=List.replicate 32 0:=by
 show qb1 (List.replicate 32 0) (zg names gs [])=_
 rw [kf]
 rfl
theorem vsP (names:List Str) (gs:List Gr) (e:En) (h:List AObj) (hz:Szs names gs) (hv:e.vars.length≤1000000000) (hg: ∀i,(e.vars.getD i default).sigla.length≤1000000000):
  qm Tryz.prog 60 [strs names,qu gs,.agg (enC e)] h (.tup [ql (vsL names gs e),.int .i64 (vsE names gs e)]) h:=by
 have c59:=fun h=>sgP names gs h hz
 obtain ⟨R,hR⟩: ∃R,R=vsE names gs e:=⟨_,rfl⟩
 have hLR:vsL names gs e=if R=0 then qY (vsB names gs e) 32 else []:=by rw [hR];rfl
 rw [hLR,←hR]
 unfold vsE at hR
 obtain ⟨s,hs⟩: ∃s,s=sgE names gs:=⟨_,rfl⟩
 rw [←hs]at c59 hR
 by_cases g0:s≠0
 ·have k0:(s=0)=False:=eq_false g0
  rw [if_pos g0]at hR
  rw [hR,if_neg (by decide)]
  refine acO qvs ?_
  simp (disch:=omega) only [qxE,List.replicate,enC,go_sem]
  repeat' first
   |((first|refine cA (c59 _) ?_ ?_|refine cG (fun e=>c59 _) ?_ ?_|refine cU (fun _=>c59 _) ?_ ?_);(next=>exact flk);simp (disch:=omega) only [k0,go_sem])
   |((first|apply qc|apply qb);exact rvk;simp only [go_sem];first|exact VLe.refl _|apply qd|apply qa|apply qe|skip)
   |with_reducible first|refine And.intro ?_ ?_|intro _
  all_goals try exact clz
  first|exact zd|exact qT ⟨zd,VLe.refl _,trivial⟩
 have g0:s=0:=Classical.not_not.1 g0
 have k0:(s=0)=True:=eq_true g0
 rw [if_neg (fun hc=>hc g0)]at hR
 refine acO qvs ?_
 simp (disch:=omega) only [qxE,List.replicate,enC,qB,go_sem]
 repeat' first
  |((first|refine cA (c59 _) ?_ ?_|refine cG (fun e=>c59 _) ?_ ?_|refine cU (fun _=>c59 _) ?_ ?_);(next=>exact flk);simp (disch:=omega) only [k0,qB,go_sem])
  |((first|apply qc|apply qb);exact rvk;simp only [go_sem];first|exact VLe.refl _|apply qd|apply qa|apply qe|skip)
  |with_reducible first|refine And.intro ?_ ?_|intro _
 all_goals try exact clz
 have e0:([AV.int .i64 0,AV.int .i64 0,AV.int .i64 0,AV.int .i64 0,AV.int .i64 0,AV.int .i64 0,AV.int .i64 0,AV.int .i64 0,AV.int .i64 0,AV.int .i64 0,AV.int .i64 0,AV.int .i64 0,AV.int .i64 0,AV.int .i64 0,AV.int .i64 0,AV.int .i64 0,AV.int .i64 0,AV.int .i64 0,AV.int .i64 0,AV.int .i64 0,AV.int .i64 0,AV.int .i64 0,AV.int .i64 0,AV.int .i64 0,AV.int .i64 0,AV.int .i64 0,AV.int .i64 0,AV.int .i64 0,AV.int .i64 0,AV.int .i64 0,AV.int .i64 0,AV.int .i64 0]:List AV)=qp (vsC names gs e 0):=by rw [qpx];rfl
 rw [e0]
 refine qn (T:=fun i:Nat×AObj=>qI 50 [(0,strs names),(1,qu gs),(8,.op (h.length+2) 1 0),(20,qB e.vars),(21,.int .i64 e.vars.length),(22,.int .i64 i.1)])
  (H:=fun i=>h++ [.mem 1 49 [.int .i64 e.layer,.int .i64 e.frm,.int .i64 e.to,.bool e.pos,strs e.sup,qB e.vars],.emp 1,.mem 1 117 (qp (vsC names gs e i.1)),i.2,.emp 0,.emp 0,.emp 0])
  (inv:=fun i=>i.1≤e.vars.length∧qH [i.2] 0=true∧ ∀j,j<i.1→ji names gs (e.vars.getD j default).sigla=0) (m:=fun i=>e.vars.length-i.1) (0,.emp 0) ⟨Nat.zero_le _,rfl,fun j hj=>absurd hj (Nat.not_lt_zero j)⟩ (Wk.temps ?_) ?_
 ·(simp only [strs,qB,List.replicate,go_sem,qj,qh,qg,qi];try (repeat' first|(with_reducible refine And.intro ?_ ?_)|(apply qd;omega)|(apply qa;rfl)|exact VLe.refl _))
 rintro ⟨n,O⟩ ⟨n1,i2,n2⟩ K hK
 simp only at n1 i2 n2 hK
 have i2': ∀m,qH (O::m) 0=true:=fun _=>i2
 by_cases hn:n<e.vars.length
 ·have r2:((n:Int)<e.vars.length)=True:=eq_true (by omega)
  have hE:=qP (f:=fun i=>ji names gs (e.vars.getD i default).sigla) hn n2
  have zs:=hg n
  have hcs:vsC names gs e (n+1)=qb1 (vsC names gs e n) (zg names gs (e.vars.getD n default).sigla):=rfl
  have hbn:=qjJ names gs (noS e) n
  have hln:=qc5 names gs (noS e) n
  obtain ⟨D,hD⟩: ∃D,D=vsC names gs e n:=⟨_,rfl⟩
  have eD:=hD.symm
  have eD':cnt names gs (noS e) n=D:=eD
  rw [eD']at hbn hln
  rw [eD]at hcs
  obtain ⟨x,hx⟩: ∃x,x=e.vars.getD n default:=⟨_,rfl⟩
  have ex:=hx.symm
  simp only [ex]at hE hcs zs
  simp (disch:=omega) only [List.replicate,strs,qB,vaC,r2,ex,eD,i2',go_sem]
  repeat' first
   |((first|apply qc|apply qb);exact rvk;simp only [go_sem];first|exact VLe.refl _|apply qd|apply qa|apply qe|skip)
   |with_reducible first|refine And.intro ?_ ?_|intro _
  all_goals try exact clz
  refine cE (qxS names gs x.sigla D (h.length+2) 1 117 _ hz zs (by rw [getO_app];rfl) hln (64*((n:Int)+1)) (by omega) hbn) (by exact flk) ?_
  rw [←hcs]
  obtain ⟨q,hq⟩: ∃q,q=ji names gs x.sigla:=⟨_,rfl⟩
  rw [←hq]at hE ⊢
  by_cases b2:q≠0
  ·have p2:(q=0)=False:=eq_false b2
   rw [hE b2,if_pos b2]at hR
   rw [hR,if_neg b2]
   simp (disch:=omega) only [List.replicate,strs,qB,p2,go_sem]
   repeat' first
    |((first|apply qc|apply qb);exact rvk;simp only [go_sem];first|exact VLe.refl _|apply qd|apply qa|apply qe|skip)
    |with_reducible first|refine And.intro ?_ ?_|intro _
   all_goals try exact clz
   first|exact zd|exact qT ⟨zd,VLe.refl _,trivial⟩
  ·have b2:q=0:=Classical.not_not.1 b2
   have p2:(q=0)=True:=eq_true b2
   simp (disch:=omega) only [List.replicate,strs,qB,p2,go_sem]
   repeat' first
    |((first|apply qc|apply qb);exact rvk;simp only [go_sem];first|exact VLe.refl _|apply qd|apply qa|apply qe|skip)
    |with_reducible first|refine And.intro ?_ ?_|intro _
   all_goals try exact clz
   refine hK _ _ (n+1,.mem (qv (some O)+1) 51 [strs x.words,strs x.sigla]) ⟨hn,rfl,fun j hj=> ?_⟩ (by simp only;omega) (Wk.temps ?_)
   ·by_cases e':j=n
    ·subst e';rw [ex,←hq,b2]
    ·exact n2 j (by simp only at hj;omega)
   ·(simp only [strs,qB,List.replicate,go_sem,qj,qh,qg,qi];try (repeat' first|(with_reducible refine And.intro ?_ ?_)|(apply qd;omega)|(apply qa;rfl)|exact VLe.refl _))
 ·have r2:((n:Int)<e.vars.length)=False:=eq_false (by omega)
  have e':n=e.vars.length:=by omega
  subst e'
  rw [if_neg (fun hc=>hc (qC (f:=fun i=>ji names gs (e.vars.getD i default).sigla) (fun j hj=>n2 j hj)))]at hR
  have hln:(vsC names gs e e.vars.length).length=32:=qc5 names gs (noS e) e.vars.length
  unfold qh5 at hR
  rw [hln]at hR
  have c94:=fun h=>twP (vsC names gs e e.vars.length) h hln
  rw [hln]at c94
  obtain ⟨pB,hpB⟩: ∃pB,pB=vsB names gs e:=⟨_,rfl⟩
  rw [←hpB]
  have hpk: ∀k,pB k=decide (0<(vsC names gs e e.vars.length).getD k 0):=fun k=>by rw [hpB];rfl
  obtain ⟨D,hD⟩: ∃D,D=vsC names gs e e.vars.length:=⟨_,rfl⟩
  have eD:=hD.symm
  simp only [eD]at hR hln c94 hpk
  have fT:List.take 32 (qp D)=List.map (fun n=>AV.int .i64 n) D:=List.take_of_length_le (by rw [qw];omega)
  have fL:=qw D
  rw [hln]at fL
  cases b3:zS (fun i=>decide (1<D.getD i 0)) 32 with
  |true=>
   rw [b3]at c94 hR
   rw [if_pos rfl]at hR
   rw [hR,if_neg (by decide)]
   simp (disch:=omega) only [List.replicate,strs,qB,r2,eD,fT,fL,go_sem]
   repeat' first
    |((first|refine cA (c94 _) ?_ ?_|refine cG (fun e=>c94 _) ?_ ?_|refine cU (fun _=>c94 _) ?_ ?_);(next=>exact flk);simp (disch:=omega) only [strs,qB,r2,eD,fT,fL,go_sem])
    |((first|apply qc|apply qb);exact rvk;simp only [go_sem];first|exact VLe.refl _|apply qd|apply qa|apply qe|skip)
    |with_reducible first|refine And.intro ?_ ?_|intro _
   all_goals try exact clz
   first|exact zd|exact qT ⟨zd,VLe.refl _,trivial⟩
  |false=>
   rw [b3]at c94 hR
   rw [if_neg (by simp)]at hR
   rw [hR,if_pos rfl]
   simp (disch:=omega) only [List.replicate,strs,qB,r2,eD,fT,fL,go_sem]
   repeat' first
    |((first|refine cA (c94 _) ?_ ?_|refine cG (fun e=>c94 _) ?_ ?_|refine cU (fun _=>c94 _) ?_ ?_);(next=>exact flk);simp (disch:=omega) only [strs,qB,r2,eD,fT,fL,go_sem])
    |((first|apply qc|apply qb);exact rvk;simp only [go_sem];first|exact VLe.refl _|apply qd|apply qa|apply qe|skip)
    |with_reducible first|refine And.intro ?_ ?_|intro _
   all_goals try exact clz
   clear hK
   refine qn (T:=fun s:Nat×Nat×AObj=>qI 50 [(12,.osl (h.length+4) s.2.1 1 0 (qY pB s.1).length),(37,.agg (List.map (fun n=>AV.int .i64 n) D)),(38,.int .i64 s.1)])
    (H:=fun s=>h++ [.mem 1 49 [.int .i64 e.layer,.int .i64 e.frm,.int .i64 e.to,.bool e.pos,strs e.sup,qB e.vars],.emp 1,.mem 1 117 (qp D),O,zk s.2.1 3 (qp (qY pB s.1)),s.2.2,.emp 0])
    (inv:=fun s=>s.1≤32∧qH [s.2.2] 0=true) (m:=fun s=>32-s.1) (0,1,.emp 0) ⟨Nat.zero_le _,rfl⟩ (Wk.temps ?_) ?_
   ·(simp only [List.replicate,qY,List.range_zero,List.filter_nil,List.length_nil,List.map_nil,go_sem,qj,qh,qg,qi];try (repeat' first|(with_reducible refine And.intro ?_ ?_)|(apply qd;omega)|(apply qa;rfl)|exact VLe.refl _))
   rintro ⟨i,v,O5⟩ ⟨j1,j2⟩ K hK
   simp only at j1 j2 hK
   have j2': ∀m,qH (O5::m) 0=true:=fun _=>j2
   have hst:=jz pB i
   have hll:=qS pB i
   have hp:=hpk i
   obtain ⟨L,hL⟩: ∃L,L=qY pB i:=⟨_,rfl⟩
   rw [←hL]at hst hll
   have eL:=hL.symm
   have eC:=qw L
   have eTk:List.take L.length (qp L)=qp L:=List.take_of_length_le (by omega)
   by_cases hi:i<32
   ·have k1:((i:Int)<32)=True:=eq_true (by omega)
    have k2:(0≤(i:Int))=True:=eq_true (by omega)
    have k3:(i<D.length)=True:=eq_true (by omega)
    have eG:D[i]? =some (D.getD i 0):=by rw [gdqA,qR (by omega)];rfl
    obtain ⟨y,hy⟩: ∃y,y=D.getD i 0:=⟨_,rfl⟩
    rw [←hy]at hp eG
    by_cases hyp:0<y
    ·have k4:(0<y)=True:=eq_true hyp
     rw [hp,if_pos (decide_eq_true hyp)]at hst
     simp (disch:=omega) only [List.replicate,k1,k2,k3,k4,eG,j2',eL,Nat.mul_one,Int.toNat_natCast,List.getElem?_map,List.length_map,Option.map_some,Option.getD_some,go_sem]
     repeat' first
      |((first|apply qc|apply qb);exact rvk;simp only [go_sem];first|exact VLe.refl _|apply qd|apply qa|apply qe|skip)
      |with_reducible first|refine And.intro ?_ ?_|intro _
     all_goals try exact clz
     have eA:qp L++ [AV.int .i64 (i:Int)]=qp (qY pB (i+1)):=by rw [hst,qQ];rfl
     try rw [eTk]
     rw [eA]
     refine hK _ _ (i+1,v+1,.mem (qv (some O5)+1) 3 [.int .i64 (i:Int)]) ⟨hi,rfl⟩ (by simp only;omega) ?_
     simp only [hst,List.length_append,List.length_cons,List.length_nil]
     refine Wk.temps ?_
     (simp only [List.replicate,go_sem,qj,qh,qg,qi];try (repeat' first|(with_reducible refine And.intro ?_ ?_)|(apply qd;omega)|(apply qa;rfl)|exact VLe.refl _))
    ·have k4:(0<y)=False:=eq_false hyp
     rw [hp,if_neg (by simpa using hyp),List.append_nil]at hst
     simp (disch:=omega) only [List.replicate,k1,k2,k3,k4,eG,j2',eL,Nat.mul_one,Int.toNat_natCast,List.getElem?_map,List.length_map,Option.map_some,Option.getD_some,go_sem]
     repeat' first
      |((first|apply qc|apply qb);exact rvk;simp only [go_sem];first|exact VLe.refl _|apply qd|apply qa|apply qe|skip)
      |with_reducible first|refine And.intro ?_ ?_|intro _
     all_goals try exact clz
     refine hK _ _ (i+1,v,O5) ⟨hi,j2⟩ (by simp only;omega) ?_
     simp only [hst]
     refine Wk.temps ?_
     (simp only [List.replicate,go_sem,qj,qh,qg,qi];try (repeat' first|(with_reducible refine And.intro ?_ ?_)|(apply qd;omega)|(apply qa;rfl)|exact VLe.refl _))
   ·obtain rfl:i=32:=by omega
    have k1:(((32:Nat):Int)<32)=False:=eq_false (by omega)
    rw [eL]
    simp (disch:=omega) only [List.replicate,k1,eL,go_sem]
    repeat' first
     |((first|apply qc|apply qb);exact rvk;simp only [go_sem];first|exact VLe.refl _|apply qd|apply qa|apply qe|skip)
     |with_reducible first|refine And.intro ?_ ?_|intro _
    all_goals try exact clz
    exact qT ⟨kT (fun _=>rfl) rfl,VLe.refl _,trivial⟩
end RC
end
section
open Go Go.Proofs AF HY LN
namespace RC
set_option maxHeartbeats 4000000
theorem qp8 {names:List Str} {gs:List Gr} (h:qip names gs) {i j:Nat} (hi:i<names.length) (hj:j<names.length) (e:names.getD i []=names.getD j []):i=j:=by
 have key: ∀i j,j<i→i<names.length→names.getD i []=names.getD j []→False:=fun i j hji hi e=>by
  have:=h.na i hi
  unfold kp at this
  split at this
  ·cases this
  split at this
  ·cases this
  rename_i hc
  exact of_decide_eq_false (qD.1 (by simpa using hc) j hji) e
 rcases Nat.lt_trichotomy i j with hl|hl|hl
 ·exact absurd e.symm (fun e=>key j i hl hj e)
 ·exact hl
 ·exact absurd e (fun e=>key i j hl hi e)
theorem qrB {names:List Str} {gs:List Gr} (h:qip names gs) {i j:Nat} (hi:i<gs.length) (hj:j<names.length):(gs.getD i default).name≠names.getD j []:=by
 have:=h.gr i hi
 unfold qb7 at this
 split at this
 ·cases this
 split at this
 ·cases this
 rename_i hc
 exact of_decide_eq_false (qD.1 (by simpa using hc) j hj)
theorem qpX {names:List Str} {gs:List Gr} (h:qip names gs) {i j:Nat} (hi:i<gs.length) (hj:j<gs.length) (e:(gs.getD i default).name=(gs.getD j default).name):i=j:=by
 have key: ∀i j,j<i→i<gs.length→(gs.getD i default).name=(gs.getD j default).name→False:=fun i j hji hi e=>by
  have:=h.gr i hi
  unfold qb7 at this
  split at this
  ·cases this
  split at this
  ·cases this
  split at this
  ·cases this
  rename_i hc
  exact of_decide_eq_false (qD.1 (by simpa using hc) j hji) e
 rcases Nat.lt_trichotomy i j with hl|hl|hl
 ·exact absurd e.symm (fun e=>key j i hl hj e)
 ·exact hl
 ·exact absurd e (fun e=>key i j hl hi e)
theorem qam {names:List Str} {gs:List Gr} {k:Nat} (hk:k<gs.length):kY names gs (k:Int)=(gs.getD k default).name:=by
 unfold kY
 rw [if_pos (by omega),Int.toNat_natCast]
theorem qan {names:List Str} {gs:List Gr} (k:Nat):kY names gs ((gs.length:Int)+k)=names.getD k []:=by
 unfold kY
 rw [if_neg (by omega),show ((gs.length:Int)+k-gs.length).toNat=k by omega]
theorem qjR {names:List Str} {gs:List Gr} (h:qip names gs) {k:Nat} (hk:k<gs.length):els names gs (gs.getD k default).name=(gs.getD k default).mem∧gIx gs (gs.getD k default).name=k:=by
 have hn:nIx names (gs.getD k default).name= -1:=by
  rcases kI names (gs.getD k default).name with ⟨j,h1,h2,_⟩|⟨_,h2⟩
  ·exact absurd h2.symm (qrB h hk h1)
  ·exact h2
 have hg:gIx gs (gs.getD k default).name=k:=by
  rcases qaC gs (gs.getD k default).name with ⟨j,h1,h2,h3⟩|⟨h1,_⟩
  ·rw [h3,qpX h h1 hk h2]
  ·exact absurd rfl (h1 k hk)
 refine ⟨?_,hg⟩
 unfold els
 rw [hn,if_neg (by omega),hg,Int.toNat_natCast]
theorem qjS {names:List Str} {gs:List Gr} (h:qip names gs) {k:Nat} (hk:k<names.length):els names gs (names.getD k [])= [(k:Int)]∧nIx names (names.getD k [])=k:=by
 have hn:nIx names (names.getD k [])=k:=by
  rcases kI names (names.getD k [])with ⟨j,h1,h2,h3⟩|⟨h1,_⟩
  ·rw [h3,qp8 h h1 hk h2]
  ·exact absurd rfl (h1 k hk)
 refine ⟨?_,hn⟩
 unfold els
 rw [hn,if_pos (by omega)]
theorem qcj {names:List Str} {gs:List Gr} {p:Int} (h:0≤p∧p<gs.length+names.length):(∃k:Nat,k<gs.length∧p=(k:Int))∨ ∃k:Nat,k<names.length∧p=(gs.length:Int)+k:=by
 by_cases hp:p<gs.length
 ·exact .inl ⟨p.toNat,by omega,by omega⟩
 ·exact .inr ⟨(p-gs.length).toNat,by omega,by omega⟩
theorem qoR {names:List Str} {gs:List Gr} (h:qip names gs) {p q:Int} (hp:0≤p∧p<gs.length+names.length) (hq:0≤q∧q<gs.length+names.length) (e:kY names gs p=kY names gs q):p=q:=by
 rcases qcj hp with ⟨k,hk,rfl⟩|⟨k,hk,rfl⟩<;>rcases qcj hq with ⟨j,hj,rfl⟩|⟨j,hj,rfl⟩
 ·rw [qam hk,qam hj]at e
  rw [qpX h hk hj e]
 ·rw [qam hk,qan]at e
  exact absurd e (qrB h hk hj)
 ·rw [qam hj,qan]at e
  exact absurd e.symm (qrB h hj hk)
 ·rw [qan,qan]at e
  rw [qp8 h hk hj e]
theorem qsF {names:List Str} {gs:List Gr} {B:List Int} (h:sgE names gs=0) (hB: ∀p∈B,0≤p∧p<gs.length+names.length) (hn:B.Nodup):
  ji names gs (B.map (kY names gs))=0∧zg names gs (B.map (kY names gs))=qY (fun k=>decide (∃p,p∈B∧(k:Int)∈els names gs (kY names gs p))) 64:=by
 have ho:=qbx h
 have hget: ∀i,i<B.length→(B.map (kY names gs)).getD i []=kY names gs (B.getD i 0):=fun i hi=>by
  rw [gdqA,List.getElem?_map,qR hi,gdqA,qR hi]
  rfl
 have hmem: ∀i,i<B.length→B.getD i 0∈B:=fun i hi=>by
  rw [gdqA,qR hi];exact List.getElem_mem hi
 have hs: ∀i,i<B.length→qao names gs (B.map (kY names gs)) i=0:=fun i hi=>by
  unfold qao
  rw [hget i hi,if_neg,if_neg]
  ·rw [qD.2 fun j hj=> ?_]
   ·simp
   ·rw [hget j (by omega)]
    refine decide_eq_false fun e=> ?_
    have e2:=qoR ho (hB _ (hmem i hi)) (hB _ (hmem j (by omega))) e
    rw [gdqA,qR hi,gdqA,qR (by omega:j<B.length)]at e2
    have:=(List.getElem_inj hn).1 e2
    omega
  ·rcases qcj (hB _ (hmem i hi))with ⟨k,hk,e⟩|⟨k,hk,e⟩
   ·rw [e,qam hk,(qjR ho hk).2];omega
   ·rw [e,qan,(qjS ho hk).2];omega
 have he:ji names gs (B.map (kY names gs))=0:=by
  unfold ji
  rw [if_neg (fun hc=>hc h),kg]
  intro i hi
  rw [List.length_map]at hi
  exact hs i hi
 refine ⟨he,?_⟩
 unfold zg
 rw [if_pos he]
 refine qa1 fun k _=> ?_
 rw [(qcX ho (i:=(B.map (kY names gs)).length) (fun j hj=>hs j (by rwa [List.length_map]at hj))).2 k]
 refine decide_eq_decide.2 ⟨?_,?_⟩
 ·rintro ⟨j,hj,hm⟩
  rw [List.length_map]at hj
  rw [hget j hj]at hm
  exact ⟨_,hmem j hj,hm⟩
 ·rintro ⟨p,hp,hm⟩
  obtain ⟨j,hj,rfl⟩:=List.getElem_of_mem hp
  refine ⟨j,by rwa [List.length_map],?_⟩
  rw [hget j hj,gdqA,qR hj]
  exact hm
theorem qlo {gs:List Gr} {all c:Nat} (hc:c<2^(kl gs all).length):(j7 gs all (kl gs all) c).Nodup:=by
 unfold j7
 rw [List.nodup_append]
 refine ⟨?_,?_,?_⟩
 ·rw [List.Nodup,List.pairwise_map]
  refine List.Pairwise.imp_of_mem ?_ (kS c.testBit 64)
  intro a b ha hb hab e
  obtain ⟨i,rfl,_,hi⟩:=zA ha
  obtain ⟨j,rfl,_,hj⟩:=zA hb
  have hi:=qak hc hi
  have hj:=qak hc hj
  rw [Int.toNat_natCast,Int.toNat_natCast,gdqA,qR hi,gdqA,qR hj]at e
  have:=(List.getElem_inj (show (kl gs all).Nodup from kS _ _)).1 e
  exact hab (by rw [this])
 ·rw [List.Nodup,List.pairwise_map]
  refine List.Pairwise.imp ?_ (kS _ 64)
  intro a b hab e
  exact hab (by omega)
 ·intro a ha b hb e
  obtain ⟨k,h1,rfl⟩:=List.mem_map.1 ha
  obtain ⟨i,rfl,_,hi⟩:=zA h1
  have hi:=qak hc hi
  obtain ⟨s,h2,rfl⟩:=List.mem_map.1 hb
  obtain ⟨j,rfl,_,_⟩:=zA h2
  have hm:(kl gs all).getD i 0∈kl gs all:=by
   rw [gdqA,qR hi];exact List.getElem_mem hi
  obtain ⟨g,e1,hg⟩:=qfQ hm
  rw [Int.toNat_natCast,e1]at e
  omega
end RC
end
section
open Go Go.Proofs AF HY LN
namespace RC
set_option maxHeartbeats 4000000
theorem qsE {names:List Str} {gs:List Gr} {set:List Int} (h:qgC names gs set=0):ji names gs (shR names gs set)=0∧zg names gs (shR names gs set)=set:=by
 have hse:sgE names gs=0∧qae names.length set=0:=by
  unfold qgC at h
  split at h
  ·rename_i h1;exact ⟨h1,h⟩
  ·cases h
 have ho:=qbx hse.1
 have hn:=ho.n32
 have hg16:=ho.g16
 have hin:=(kK hse.2).1
 have hin64:inB 64 set:=fun i hi=>by have:=hin i hi;omega
 have hmi:=qkk hse.1
 have hset:=qoO (by omega) hse.2
 obtain ⟨c,hc1,hc2⟩:=qji gs (jf set) (kl gs (jf set)) (2^(kl gs (jf set)).length-1)
 have h2p:1≤2^(kl gs (jf set)).length:=Nat.one_le_two_pow
 have hc:c<2^(kl gs (jf set)).length:=by omega
 have hLl:(kl gs (jf set)).length≤gs.length:=qS _ _
 have hpin:=fun {p}=>qqa (names:=names) (gs:=gs) (set:=set) (all:=jf set) hin (by omega) rfl hc (p:=p)
 have hnd:=qlo (gs:=gs) (all:=jf set) hc
 have hall:jf set<2^64:=qbo hin64
 have hch:chN (usM gs (kl gs (jf set))) c<2^64:=qpK (qqi hmi _) c
 have hR:shR names gs set=(j7 gs (jf set) (kl gs (jf set)) c).map (kY names gs):=by
  unfold shR
  rw [if_pos h]
  unfold qxb
  rw [hc2]
 obtain ⟨h1,h2⟩:=qsF hse.1 (fun p hp=>hpin hp) hnd
 rw [hR]
 refine ⟨h1,?_⟩
 rw [h2]
 conv=>rhs;rw [hset]
 refine qa1 fun k hk=> ?_
 rw [jk hin64]
 refine decide_eq_decide.2 ⟨?_,fun hks=> ?_⟩
 ·rintro ⟨p,hp,hk2⟩
  have hpr:=hpin hp
  unfold j7 at hp
  rcases List.mem_append.1 hp with hp|hp
  ·obtain ⟨q,hq,rfl⟩:=List.mem_map.1 hp
   obtain ⟨i,rfl,_,hi⟩:=zA hq
   have hi:=qak hc hi
   have hm:(kl gs (jf set)).getD i 0∈kl gs (jf set):=by
    rw [gdqA,qR hi];exact List.getElem_mem hi
   obtain ⟨g,e1,hg,hb⟩:=zA (show (kl gs (jf set)).getD i 0∈qY (qil gs (jf set)) gs.length from hm)
   rw [Int.toNat_natCast,e1,qam hg,(qjR ho hg).1]at hk2
   rw [qtf (hmi g) hin64]at hb
   exact of_decide_eq_true hb _ hk2
  ·obtain ⟨q,hq,rfl⟩:=List.mem_map.1 hp
   obtain ⟨s,rfl,_,hb⟩:=zA hq
   have hsn:s<names.length:=by omega
   rw [qan,(qjS ho hsn).1]at hk2
   have e:(k:Int)=s:=by simpa using hk2
   rw [qcY hall hch,Bool.and_eq_true]at hb
   have hb1:=hb.1
   rw [jk hin64]at hb1
   rw [e]
   exact of_decide_eq_true hb1
 ·have hkn:k<names.length:=by
   obtain ⟨j,hj,e⟩:=List.getElem_of_mem hks
   have:=hin j hj
   rw [gdqA,qR hj]at this
   simp only [Option.getD_some]at this
   omega
  have hkb:(jf set).testBit k=true:=by rw [jk hin64];exact decide_eq_true hks
  cases hcb:(chN (usM gs (kl gs (jf set))) c).testBit k with
  |true=>
   have hcb2:=hcb
   unfold chN at hcb2
   rw [qn9,qW]at hcb2
   obtain ⟨j,hj,hb⟩:=hcb2
   rw [qfH]at hj
   rw [Bool.and_eq_true,qfG hj]at hb
   obtain ⟨hb1,hb2⟩:=hb
   have hm:(kl gs (jf set)).getD j 0∈kl gs (jf set):=by
    rw [gdqA,qR hj];exact List.getElem_mem hj
   obtain ⟨g,e1,hg,_⟩:=zA (show (kl gs (jf set)).getD j 0∈qY (qil gs (jf set)) gs.length from hm)
   rw [e1,Int.toNat_natCast,jk (hmi g)]at hb2
   refine ⟨(kl gs (jf set)).getD j 0,?_,?_⟩
   ·unfold j7
    refine List.mem_append.2 (.inl (List.mem_map.2 ⟨(j:Int),jp.2 ⟨j,by omega,hb1,rfl⟩,?_⟩))
    rw [Int.toNat_natCast]
   ·rw [e1,qam hg,(qjR ho hg).1]
    exact of_decide_eq_true hb2
  |false=>
   refine ⟨(gs.length:Int)+k,?_,?_⟩
   ·unfold j7
    refine List.mem_append.2 (.inr (List.mem_map.2 ⟨(k:Int),jp.2 ⟨k,hk,?_,rfl⟩,rfl⟩))
    rw [qcY hall hch,hkb,hcb]
    rfl
   ·rw [qan,(qjS ho hkn).1]
    simp
end RC
end
section
open Go Go.Proofs AF
end
section
open Go Go.Proofs AF HY LN
namespace RC
set_option maxHeartbeats 16000000
theorem qkD (p:Nat→Bool) (n:Nat):qae n (qY p n)=0:=by
 unfold qae
 refine qC fun i hi=> ?_
 have hm:(qY p n).getD i 0∈qY p n:=by rw [gdqA,qR hi];exact List.getElem_mem hi
 obtain ⟨k,e,hk,_⟩:=zA hm
 unfold qbE
 rw [if_neg (by omega)]
 rw [if_neg]
 rintro ⟨h0,h1⟩
 have hp:=List.pairwise_iff_getElem.1 (qcc p n) (i-1) i (by omega) hi (by omega)
 have g: ∀j (hj:j<(qY p n).length),(qY p n).getD j 0=(qY p n)[j]:=fun j hj=>by rw [gdqA,qR hj];rfl
 rw [g i hi,g (i-1) (by omega)]at h1
 omega
end RC
end
section
open Go Go.Proofs AF HY LN
namespace RC
set_option maxHeartbeats 4000000
theorem qsV {names:List Str} {gs:List Gr} {w:List Str} {e:En} (h:kX names gs w e=0):
  vsE names gs e=0∧ ∀k x,k<e.vars.length→x∈zg names gs (e.vars.getD k default).sigla→x∈vsL names gs e:=by
 have c:=jh.1 h
 have ht:(zZ names gs (noS e) e.vars.length).2=false:=by
  refine qiq (e:=noS e) _ (fun j k hj hk x hx=>qbW c.tc hj hk hx) (fun k hk x hx=> ?_)
  rw [show (noS e).sup= []from rfl,kf]at hx
  cases hx
 have hE:vsE names gs e=0:=by
  unfold vsE
  rw [if_neg (fun hc=>hc c.sg),if_neg (fun hc=>hc (qC (f:=fun i=>ji names gs (e.vars.getD i default).sigla) c.ev))]
  unfold vsC
  rw [jQ,ht]
  rfl
 refine ⟨hE,fun k x hk hx=> ?_⟩
 have hi:=qeK names gs (noS e) e.vars.length
 have hm:x∈(zZ names gs (noS e) e.vars.length).1:=(qaU names gs (noS e) _ ht x).2 (.inr ⟨k,hk,hx⟩)
 obtain ⟨x0,x1⟩:=hi.rng x hm
 have h1:=(hi.mem x.toNat (by omega)).1 (by rw [show ((x.toNat:Nat):Int)=x by omega];exact hm)
 unfold vsL
 rw [if_pos hE]
 refine jp.2 ⟨x.toNat,by omega,?_,by omega⟩
 exact decide_eq_true (by unfold vsC;omega)
end RC
end
section
open Go Go.Proofs AF
end
section
open Go Go.Proofs AF HY LN
namespace RC
set_option maxHeartbeats 16000000
theorem qki {names:List Str} {gs:List Gr} {t:List Str} {l:List En} (h:qeH names gs t l=false) (hs:sgE names gs=0):names.length≤8∧gs.length≤8:=by
 have ho:=qbx hs
 have h1:=ho.n32
 have h2:=ho.g16
 unfold qeH qpW at h
 simp only [Bool.or_eq_false_iff,Bool.and_eq_false_iff,decide_eq_false_iff_not]at h
 omega
theorem qsT (names:List Str) (gs:List Gr) (e:En):(vsL names gs e).length≤1000:=by
 unfold vsL
 split
 ·exact Nat.le_trans (qS _ _) (by omega)
 ·exact Nat.zero_le _
end RC
end
section
open Go Go.Proofs AF HY LN
namespace RC
set_option maxHeartbeats 16000000
theorem qmE {names:List Str} {gs:List Gr} {e:En} (h:vsE names gs e=0):vsL names gs e=(zZ names gs (noS e) e.vars.length).1:=by
 have hi:=qeK names gs (noS e) e.vars.length
 have hp:(zZ names gs (noS e) e.vars.length).1.Pairwise (· < ·):=by
  cases e.vars.length with
  |zero=>
   show (zg names gs []).Pairwise (· < ·)
   rw [kf]
   exact List.Pairwise.nil
  |succ n=>rw [zW];exact qcc _ _
 unfold vsL
 rw [if_pos h]
 refine qrO (qcc _ _) hp fun x=> ?_
 rw [jp]
 constructor
 ·rintro ⟨k,hk,hb,rfl⟩
  have hb:=of_decide_eq_true hb
  unfold vsC at hb
  exact (hi.mem k hk).2 (by omega)
 ·intro hx
  obtain ⟨x0,x1⟩:=hi.rng x hx
  have h1:=(hi.mem x.toNat (by omega)).1 (by rw [show ((x.toNat:Nat):Int)=x by omega];exact hx)
  refine ⟨x.toNat,by omega,?_,by omega⟩
  exact decide_eq_true (by unfold vsC;omega)
theorem vsR (names:List Str) (gs:List Gr) (e:En) (h:List AObj) (hz:Szs names gs) (hv:e.vars.length≤1000000000) (hsg: ∀i,(e.vars.getD i default).sigla.length≤1000000) (hgm: ∀i,(gs.getD i default).mem.length≤1000):
  qm Tryz.prog 40 [strs names,qu gs,.agg (enC e)] h (.tup [ql (vsL names gs e),.int .i64 (vsE names gs e)]) h:=by
 have c49:=fun h=>sgR names gs h hz
 obtain ⟨R,hR⟩: ∃R,R=vsE names gs e:=⟨_,rfl⟩
 have hLR:vsL names gs e=if R=0 then (zZ names gs (noS e) e.vars.length).1 else []:=by
  rw [hR]
  split
  ·rename_i h;exact qmE h
  ·rename_i h;unfold vsL;rw [if_neg h]
 rw [hLR,←hR]
 unfold vsE at hR
 obtain ⟨s,hs⟩: ∃s,s=sgE names gs:=⟨_,rfl⟩
 rw [←hs]at c49 hR
 by_cases g0:s≠0
 ·have k0:(s=0)=False:=eq_false g0
  rw [if_pos g0]at hR
  rw [hR,if_neg (by decide)]
  refine acO qvn ?_
  simp (disch:=omega) only [qxz,List.replicate,enC,go_sem]
  repeat' first
   |((first|refine cA (c49 _) ?_ ?_|refine cG (fun e=>c49 _) ?_ ?_|refine cU (fun _=>c49 _) ?_ ?_);(next=>exact flk);simp (disch:=omega) only [k0,go_sem])
   |((first|apply qc|apply qb);exact rvk;simp only [go_sem];first|exact VLe.refl _|apply qd|apply qa|apply qe|skip)
   |with_reducible first|refine And.intro ?_ ?_|intro _
  all_goals try exact clz
  first|exact zd|exact qT ⟨zd,VLe.refl _,trivial⟩
 have g0:s=0:=Classical.not_not.1 g0
 have k0:(s=0)=True:=eq_true g0
 rw [if_neg (fun hc=>hc g0)]at hR
 refine acO qvn ?_
 simp (disch:=omega) only [qxz,List.replicate,enC,qB,go_sem]
 repeat' first
  |((first|refine cA (c49 _) ?_ ?_|refine cG (fun e=>c49 _) ?_ ?_|refine cU (fun _=>c49 _) ?_ ?_);(next=>exact flk);simp (disch:=omega) only [k0,qB,go_sem])
  |((first|apply qc|apply qb);exact rvk;simp only [go_sem];first|exact VLe.refl _|apply qd|apply qa|apply qe|skip)
  |with_reducible first|refine And.intro ?_ ?_|intro _
 all_goals try exact clz
 have a0:(zZ names gs (noS e) 0).1= []:=kf names gs
 have a1:(zZ names gs (noS e) 0).2=false:=rfl
 refine qn (T:=fun i:Nat=>qI 62 [(0,strs names),(1,qu gs),(5,.op h.length 1 0),(8,ql (zZ names gs (noS e) i).1),(9,.bool (zZ names gs (noS e) i).2),(10,.int .i64 i)])
  (H:=fun i=>h++ [.mem 1 49 [.int .i64 e.layer,.int .i64 e.frm,.int .i64 e.to,.bool e.pos,strs e.sup,qB e.vars],.emp 1,.emp 2])
  (inv:=fun i=>i≤e.vars.length∧ ∀j,j<i→ji names gs (e.vars.getD j default).sigla=0) (m:=fun i=>e.vars.length-i) 0 ⟨Nat.zero_le _,fun j hj=>absurd hj (Nat.not_lt_zero j)⟩ (Wk.trans (Wk.freeze [h.length+2] (by simp only [jF,go_sem])) ?_) ?_
 ·rw [a0,a1]
  simp only [qbC,List.map,go_sem]
  refine Wk.temps ?_
  (simp only [strs,qu,qB,ql,List.replicate,go_sem,qj,qh,qg,qi];try (repeat' first|(with_reducible refine And.intro ?_ ?_)|(apply qd;omega)|(apply qa;rfl)|exact VLe.refl _))
  ·rw [if_neg (by simp)];exact VLe.refl _
  ·rw [if_pos (by simp),if_pos (by simp),if_pos (Nat.zero_le _)]
   exact VLe.sl_eq rfl (fun i hi=>absurd hi (by simp))
 rintro m ⟨m1,m2⟩ K2 hK2
 obtain ⟨sa1,sa2⟩:=qeL names gs (noS e) m
 have hac:=zW names gs (noS e) m
 have hac:zZ names gs (noS e) (m+1)=(qY (fun k=>decide ((k:Int)∈(zZ names gs (noS e) m).1)||decide ((k:Int)∈zg names gs (e.vars.getD m default).sigla)) 64,(zZ names gs (noS e) m).2||(zZ names gs (noS e) m).1.any fun x=>decide (x∈zg names gs (e.vars.getD m default).sigla)):=hac
 obtain ⟨A,hA⟩: ∃A,A=(zZ names gs (noS e) m).1:=⟨_,rfl⟩
 obtain ⟨B,hB⟩: ∃B,B=(zZ names gs (noS e) m).2:=⟨_,rfl⟩
 have eA:=hA.symm
 have eB:=hB.symm
 rw [eA]at sa1 sa2
 rw [eA,eB]at hac
 by_cases hm:m<e.vars.length
 ·have s1:((m:Int)<e.vars.length)=True:=eq_true (by omega)
  have hE:=qP (f:=fun i=>ji names gs (e.vars.getD i default).sigla) hm m2
  have c28b:=fun h=>qnv names gs (e.vars.getD m default).sigla h hz (hsg m) hgm
  have ho:=kO names gs (e.vars.getD m default).sigla
  obtain ⟨x,hx⟩: ∃x,x=e.vars.getD m default:=⟨_,rfl⟩
  have ex:=hx.symm
  simp only [ex]at hE c28b hac ho
  obtain ⟨q,hq⟩: ∃q,q=ji names gs x.sigla:=⟨_,rfl⟩
  obtain ⟨O,hO⟩: ∃O,O=zg names gs x.sigla:=⟨_,rfl⟩
  rw [←hq]at hE c28b
  rw [←hO]at c28b hac ho
  obtain ⟨ho1,ho2⟩:=ho
  have c70:=fun h=>qzS A O h (by omega) (by omega) sa1 ho1
  have c71:=fun h=>qz5 A O h (by omega) (by omega) sa1 ho1
  have hfp:=qjY A O
  obtain ⟨F,hF⟩: ∃F,F=qe5 A O A.length:=⟨_,rfl⟩
  obtain ⟨U,hU⟩: ∃U,U=qY (fun k=>decide ((k:Int)∈A)||decide ((k:Int)∈O)) 64:=⟨_,rfl⟩
  rw [←hF]at c70 hfp
  rw [←hU]at c71 hac
  unfold strs qu ql at c28b
  unfold ql at c70 c71
  by_cases b2:q≠0
  ·have p2:(q=0)=False:=eq_false b2
   rw [hE b2,if_pos b2]at hR
   rw [hR,if_neg b2]
   simp (disch:=omega) only [List.replicate,strs,qu,qB,vaC,ql,s1,ex,eA,eB,go_sem]
   repeat' first
    |((first|refine cA (c28b _) ?_ ?_|refine cG (fun e=>c28b _) ?_ ?_|refine cU (fun _=>c28b _) ?_ ?_);(next=>exact flk);simp (disch:=omega) only [strs,qu,qB,vaC,ql,s1,ex,eA,eB,p2,go_sem])
    |((first|apply qc|apply qb);exact rvk;simp only [go_sem];first|exact VLe.refl _|apply qd|apply qa|apply qe|skip)
    |with_reducible first|refine And.intro ?_ ?_|intro _
   all_goals try exact clz
   first|exact zd|exact qT ⟨zd,VLe.refl _,trivial⟩
  ·have b2:q=0:=Classical.not_not.1 b2
   have p2:(q=0)=True:=eq_true b2
   have kF:((0:Int)<F.length)=(A.any (fun x=>decide (x∈O))=true):=by
    rw [←hfp];simp
   obtain ⟨G,hG⟩: ∃G,G=A.any fun x=>decide (x∈O):=⟨_,rfl⟩
   rw [←hG]at kF hac
   have fin: ∀B',B'=(B||G)→(zZ names gs (noS e) (m+1)).1=U∧(zZ names gs (noS e) (m+1)).2=B':=fun B' hb=>by rw [hac,hb];exact ⟨rfl,rfl⟩
   have hi2: ∀j,j<m+1→ji names gs (e.vars.getD j default).sigla=0:=fun j hj=>by
    by_cases e':j=m
    ·subst e';rw [ex,←hq];exact b2
    ·exact m2 j (by omega)
   cases B with
   |true=>
    obtain ⟨f1,f2⟩:=fin true rfl
    simp (disch:=omega) only [List.replicate,strs,qu,qB,vaC,ql,s1,ex,eA,eB,go_sem]
    repeat' first
     |((first|refine cA (c28b _) ?_ ?_|refine cG (fun e=>c28b _) ?_ ?_|refine cA (c70 _) ?_ ?_|refine cG (fun e=>c70 _) ?_ ?_|refine cA (c71 _) ?_ ?_|refine cG (fun e=>c71 _) ?_ ?_|refine cU (fun _=>c28b _) ?_ ?_|refine cU (fun _=>c70 _) ?_ ?_|refine cU (fun _=>c71 _) ?_ ?_);(next=>exact flk);simp (disch:=omega) only [strs,qu,qB,vaC,ql,s1,ex,eA,eB,p2,go_sem])
     |((first|apply qc|apply qb);exact rvk;simp only [go_sem];first|exact VLe.refl _|apply qd|apply qa|apply qe|skip)
     |with_reducible first|refine And.intro ?_ ?_|intro _
    all_goals try exact clz
    refine hK2 _ _ (m+1) ⟨hm,hi2⟩ (by omega) (Wk.temps ?_)
    rw [f1,f2]
    (simp only [strs,qu,qB,ql,List.replicate,go_sem,qj,qh,qg,qi];try (repeat' first|(with_reducible refine And.intro ?_ ?_)|(apply qd;omega)|(apply qa;rfl)|exact VLe.refl _))
   |false=>
    cases G with
    |true=>
     obtain ⟨f1,f2⟩:=fin true rfl
     have kF:((0:Int)<F.length)=True:=by rw [kF];simp
     simp (disch:=omega) only [List.replicate,strs,qu,qB,vaC,ql,s1,ex,eA,eB,go_sem]
     repeat' first
      |((first|refine cA (c28b _) ?_ ?_|refine cG (fun e=>c28b _) ?_ ?_|refine cA (c70 _) ?_ ?_|refine cG (fun e=>c70 _) ?_ ?_|refine cA (c71 _) ?_ ?_|refine cG (fun e=>c71 _) ?_ ?_|refine cU (fun _=>c28b _) ?_ ?_|refine cU (fun _=>c70 _) ?_ ?_|refine cU (fun _=>c71 _) ?_ ?_);(next=>exact flk);simp (disch:=omega) only [strs,qu,qB,vaC,ql,s1,ex,eA,eB,p2,kF,go_sem])
      |((first|apply qc|apply qb);exact rvk;simp only [go_sem];first|exact VLe.refl _|apply qd|apply qa|apply qe|skip)
      |with_reducible first|refine And.intro ?_ ?_|intro _
     all_goals try exact clz
     refine hK2 _ _ (m+1) ⟨hm,hi2⟩ (by omega) (Wk.temps ?_)
     rw [f1,f2]
     (simp only [strs,qu,qB,ql,List.replicate,go_sem,qj,qh,qg,qi];try (repeat' first|(with_reducible refine And.intro ?_ ?_)|(apply qd;omega)|(apply qa;rfl)|exact VLe.refl _))
    |false=>
     obtain ⟨f1,f2⟩:=fin false rfl
     have kF:((0:Int)<F.length)=False:=by rw [kF];simp
     simp (disch:=omega) only [List.replicate,strs,qu,qB,vaC,ql,s1,ex,eA,eB,go_sem]
     repeat' first
      |((first|refine cA (c28b _) ?_ ?_|refine cG (fun e=>c28b _) ?_ ?_|refine cA (c70 _) ?_ ?_|refine cG (fun e=>c70 _) ?_ ?_|refine cA (c71 _) ?_ ?_|refine cG (fun e=>c71 _) ?_ ?_|refine cU (fun _=>c28b _) ?_ ?_|refine cU (fun _=>c70 _) ?_ ?_|refine cU (fun _=>c71 _) ?_ ?_);(next=>exact flk);simp (disch:=omega) only [strs,qu,qB,vaC,ql,s1,ex,eA,eB,p2,kF,go_sem])
      |((first|apply qc|apply qb);exact rvk;simp only [go_sem];first|exact VLe.refl _|apply qd|apply qa|apply qe|skip)
      |with_reducible first|refine And.intro ?_ ?_|intro _
     all_goals try exact clz
     refine hK2 _ _ (m+1) ⟨hm,hi2⟩ (by omega) (Wk.temps ?_)
     rw [f1,f2]
     (simp only [strs,qu,qB,ql,List.replicate,go_sem,qj,qh,qg,qi];try (repeat' first|(with_reducible refine And.intro ?_ ?_)|(apply qd;omega)|(apply qa;rfl)|exact VLe.refl _))
 have s1:((m:Int)<e.vars.length)=False:=eq_false (by omega)
 obtain rfl:m=e.vars.length:=by omega
 rw [if_neg (fun hc=>hc (qC (f:=fun i=>ji names gs (e.vars.getD i default).sigla) (fun j hj=>m2 j hj)))]at hR
 unfold vsC at hR
 rw [jQ,eB]at hR
 cases B with
 |true=>
  rw [if_pos rfl]at hR
  rw [hR,if_neg (by decide)]
  simp (disch:=omega) only [List.replicate,strs,qu,qB,ql,s1,eB,go_sem]
  repeat' first
   |((first|apply qc|apply qb);exact rvk;simp only [go_sem];first|exact VLe.refl _|apply qd|apply qa|apply qe|skip)
   |with_reducible first|refine And.intro ?_ ?_|intro _
  all_goals try exact clz
  first|exact zd|exact qT ⟨zd,VLe.refl _,trivial⟩
 |false=>
  rw [if_neg (by simp)]at hR
  rw [hR,if_pos rfl]
  simp (disch:=omega) only [List.replicate,strs,qu,qB,ql,s1,eB,eA,go_sem]
  repeat' first
   |((first|apply qc|apply qb);exact rvk;simp only [go_sem];first|exact VLe.refl _|apply qd|apply qa|apply qe|skip)
   |with_reducible first|refine And.intro ?_ ?_|intro _
  all_goals try exact clz
end RC
end
section
open Go Go.Proofs AF HY LN
namespace RC
set_option maxHeartbeats 8000000
theorem quh (zs:List Int) (hs:zs.Pairwise (· ≤ ·)): ∀m,m≤zs.length→(Lib.compactUpTo zs.toArray m).Pairwise (· < ·)∧ ∀x,x∈Lib.compactUpTo zs.toArray m↔ ∃j,j<m∧zs.toArray[j]! =x:=by
 have hget: ∀i j,i≤j→j<zs.length→zs.toArray[i]! ≤zs.toArray[j]! :=by
  intro i j hij hj
  have e: ∀k (hk:k<zs.length),zs.toArray[k]! =zs[k]:=fun k hk=>by simp [hk]
  rw [e i (by omega),e j hj]
  by_cases h:i=j
  ·subst h;exact Int.le_refl _
  ·exact List.pairwise_iff_getElem.1 hs i j (by omega) hj (by omega)
 intro m
 induction m with
 |zero=>intro _;exact ⟨by simp [Lib.compactUpTo],fun x=>by simp [Lib.compactUpTo]⟩
 |succ m ih=>
  intro hm
  obtain ⟨h1,h2⟩:=ih (by omega)
  rw [Lib.compactUpTo_succ]
  cases hk:Lib.keeps zs.toArray m with
  |true=>
   rw [if_pos rfl]
   have hlt: ∀x∈Lib.compactUpTo zs.toArray m,x<zs.toArray[m]! :=by
    intro x hx
    obtain ⟨j,hj,rfl⟩:=(h2 x).1 hx
    have hk:=of_decide_eq_true hk
    have g1:=hget j (m-1) (by omega) (by omega)
    have g2:=hget (m-1) m (by omega) (by omega)
    rcases hk with h|h
    ·omega
    ·omega
   refine ⟨List.pairwise_append.2 ⟨h1,List.pairwise_singleton _ _,fun a ha b hb=> ?_⟩,fun x=> ?_⟩
   ·rw [List.mem_singleton]at hb
    subst hb
    exact hlt a ha
   ·rw [List.mem_append,List.mem_singleton,h2]
    constructor
    ·rintro (⟨j,hj,e⟩|e)
     ·exact ⟨j,by omega,e⟩
     ·exact ⟨m,by omega,e.symm⟩
    ·rintro ⟨j,hj,e⟩
     by_cases h:j=m
     ·subst h;exact .inr e.symm
     ·exact .inl ⟨j,by omega,e⟩
  |false=>
   rw [if_neg (by simp),List.append_nil]
   refine ⟨h1,fun x=> ?_⟩
   rw [h2]
   have hk:=of_decide_eq_false hk
   rw [not_or]at hk
   obtain ⟨k1,k2⟩:=hk
   have k2:=Classical.not_not.1 k2
   constructor
   ·rintro ⟨j,hj,e⟩
    exact ⟨j,by omega,e⟩
   ·rintro ⟨j,hj,e⟩
    by_cases h:j=m
    ·subst h;exact ⟨j-1,by omega,by rw [←k2];exact e⟩
    ·exact ⟨j,by omega,e⟩
theorem qqP (L:List Int) (n:Nat) (h: ∀x∈L,0≤x∧x<n):qmI (qlV L)=qY (fun k=>decide ((k:Int)∈L)) n:=by
 have hsrt:(qlV L).Pairwise (· ≤ ·):=by
  refine (List.pairwise_mergeSort (le:=fun x y:Int=>decide (x≤y)) (fun a b c h1 h2=> ?_) (fun a b=> ?_) L).imp fun h=>of_decide_eq_true h
  ·exact decide_eq_true (Int.le_trans (of_decide_eq_true h1) (of_decide_eq_true h2))
  ·rw [Bool.or_eq_true,decide_eq_true_iff,decide_eq_true_iff]
   omega
 obtain ⟨h1,h2⟩:=quh (qlV L) hsrt (qlV L).length (Nat.le_refl _)
 refine qrO h1 (qcc _ _) fun x=> ?_
 unfold qmI Lib.compact
 rw [h2,jp]
 have hm: ∀x,x∈qlV L↔x∈L:=fun x=>List.mem_mergeSort
 constructor
 ·rintro ⟨j,hj,e⟩
  have hx:x∈L:=by
   rw [←hm,←e]
   simp [hj]
  obtain ⟨x0,x1⟩:=h x hx
  exact ⟨x.toNat,by omega,decide_eq_true (by rw [show ((x.toNat:Nat):Int)=x by omega];exact hx),by omega⟩
 ·rintro ⟨k,hk,hb,rfl⟩
  have hx:=(hm _).2 (of_decide_eq_true hb)
  obtain ⟨j,hj,e⟩:=List.getElem_of_mem hx
  exact ⟨j,hj,by simp [hj,e]⟩
end RC
end
section
open Go Go.Proofs AF HY LN
namespace RC
set_option maxHeartbeats 8000000
def qtq (names:List Str) (gs:List Gr) (l:List En) (i:Nat):Int:=if vsE names gs (l.getD i default)≠0 then vsE names gs (l.getD i default) else ji names gs (l.getD i default).sup
def rsE (names:List Str) (gs:List Gr) (l:List En):Int:=if sgE names gs≠0 then 1 else if 4096<l.length then 4 else qab (qtq names gs l) 0 l.length
def mrB (l:List En) (layer:Int) (e:En) (k:Nat):Bool:=decide (layer<(l.getD k default).layer)&&(decide ((l.getD k default).frm=e.frm)&&decide ((l.getD k default).to=e.to))
def mrL (names:List Str) (gs:List Gr) (l:List En) (layer:Int) (e:En):Nat→List Int
 |0=> []
 |k+1=>mrL names gs l layer e k++if mrB l layer e k=true then vsL names gs (l.getD k default) else []
def mrA (names:List Str) (gs:List Gr) (l:List En) (layer:Int) (e:En):List Int:=mrL names gs l layer e l.length
def qmO (names:List Str) (gs:List Gr) (l:List En) (layer:Int) (e:En):List Int:=qY (fun k=>decide ((k:Int)∈mrA names gs l layer e++zg names gs e.sup)) names.length
def jB (names:List Str) (gs:List Gr) (l:List En) (layer:Int) (e:En):En:=if e.pos=true∧mrA names gs l layer e≠ [] then { e with sup:=shR names gs (qmO names gs l layer e) } else e
def rsL (names:List Str) (gs:List Gr) (l:List En) (layer:Int):Nat→List En
 |0=> []
 |i+1=>rsL names gs l layer i++if (l.getD i default).layer≤layer then [jB names gs l layer (l.getD i default)] else []
def rsR (names:List Str) (gs:List Gr) (l:List En) (layer:Int):List En:=if rsE names gs l=0 then rsL names gs l layer l.length else []
theorem qsU {names:List Str} {gs:List Gr} {e:En} {x:Int} (hx:x∈vsL names gs e):0≤x∧x<names.length:=by
 by_cases h:vsE names gs e=0
 ·rw [qmE h]at hx
  have ht:(zZ names gs (noS e) e.vars.length).2=false:=by
   unfold vsE at h
   split at h
   ·cases h
   ·split at h
    ·rename_i h1;exact absurd h h1
    ·unfold vsC at h
     rw [jQ]at h
     cases hb:(zZ names gs (noS e) e.vars.length).2 with
     |false=>rfl
     |true=>rw [hb]at h;cases h
  rcases (qaU names gs (noS e) _ ht x).1 hx with h1|⟨j,_,h1⟩
  ·rw [show (noS e).sup= []from rfl,kf]at h1
   cases h1
  ·exact zI qda.1 x h1
 ·unfold vsL at hx
  rw [if_neg h]at hx
  cases hx
theorem qrQ {names:List Str} {gs:List Gr} {l:List En} {layer:Int} {e:En} {x:Int}: ∀k,x∈mrL names gs l layer e k→0≤x∧x<names.length:=by
 intro k
 induction k with
 |zero=>intro h;cases h
 |succ k ih=>
  intro h
  unfold mrL at h
  rw [List.mem_append]at h
  rcases h with h|h
  ·exact ih h
  ·split at h
   ·exact qsU h
   ·cases h
theorem qkI (names:List Str) (gs:List Gr) (l:List En) (layer:Int) (e:En): ∀k,(mrL names gs l layer e k).length≤k*32:=by
 intro k
 induction k with
 |zero=>exact Nat.le_refl _
 |succ k ih=>
  unfold mrL
  rw [List.length_append]
  split
  ·have:(vsL names gs (l.getD k default)).length≤32:=by
    unfold vsL
    split
    ·exact qS _ _
    ·exact Nat.zero_le _
   omega
  ·rw [List.length_nil];omega
theorem qkJ {names:List Str} {gs:List Gr} {l:List En} {layer:Int} {e:En} {x:Int}: ∀k,x∈mrL names gs l layer e k↔ ∃j,j<k∧mrB l layer e j=true∧x∈vsL names gs (l.getD j default):=by
 intro k
 induction k with
 |zero=>exact ⟨fun h=>absurd h List.not_mem_nil,fun ⟨j,h,_⟩=>absurd h (Nat.not_lt_zero j)⟩
 |succ k ih=>
  unfold mrL
  rw [List.mem_append,ih]
  constructor
  ·rintro (⟨j,h1,h2⟩|h)
   ·exact ⟨j,by omega,h2⟩
   ·split at h
    ·rename_i hb;exact ⟨k,by omega,hb,h⟩
    ·cases h
  ·rintro ⟨j,h1,h2,h3⟩
   by_cases hj:j=k
   ·subst hj;exact .inr (by rw [if_pos h2];exact h3)
   ·exact .inl ⟨j,by omega,h2,h3⟩
theorem qsO (names:List Str) (gs:List Gr) (l:List En) (layer:Int) (e:En):qmI (qlV (mrA names gs l layer e++zg names gs e.sup))=qmO names gs l layer e:=
 qqP _ _ fun x hx=>(List.mem_append.1 hx).elim (fun h=>qrQ _ h) (fun h=>zI qda.1 x h)
theorem qmc (names:List Str) (gs:List Gr) (l:List En) (layer:Int) (e:En):qae names.length (qmO names gs l layer e)=0:=qkD _ _
theorem qfi (names:List Str) (gs:List Gr) (l:List En) (layer:Int): ∀k,(rsL names gs l layer k).length≤k:=by
 intro k
 induction k with
 |zero=>exact Nat.le_refl _
 |succ k ih=>
  unfold rsL
  rw [List.length_append]
  split
  ·rw [List.length_singleton];omega
  ·rw [List.length_nil];omega
end RC
end
section
open Go Go.Proofs AF
def qrI:List Nat:= [93,74,79,120,147,148,161,170,63,105,131,64,31,32,57,58,29,30,61]
def qxx:C:=
 ((C.ops [ON 8 (.nilo 0 6 49) [],MC 9 (i6 0)]).seq (((C.ops [MV 25 0,MV 26 1,O2 27 (.call 59 true) 25 26,BC 28 .neq 27 (i6 0)]).seq (C.cond (.t 28) ((C.ops [ON 8 (.nilo 0 6 49)
 [],MC 9 (i6 1)]).seq C.ret) C.skip)).seq (((C.ops [MV 29 2,O1 30 .len 29,BC 31 .gtr 30 (i6 4096)]).seq (C.cond (.t 31) ((C.ops [ON 8 (.nilo 0 6 49) [],MC 9 (i6 4)]).seq C.ret)
 C.skip)).seq ((C.ops [ON 10 (.nilo 1 1 37) [],ON 11 (.nilo 2 1 37) []]).seq (((C.ops [MV 32 2,O1 33 .len 32,MC 34 (i6 0)]).seq (C.block 0 ((C.ops [BI 35 .lss 34 33]).seq
 ((C.cond (.t 35) C.skip (C.exit 0)).seq ((C.block 1 ((C.ops [O2 36 (.idxA 6) 32 34,O1 37 (.load (some 6)) 36,⟨some 13,none,.alloc 3 49 [i6 0,i6 0,i6 0,.bool false,.nl,
 .nl],[]⟩,ST 6 13 37]).seq ((C.ops [MV 39 0,MV 40 1,O1 41 (.load (some 6)) 13,ON 42 (.call 60 true) [.t 39,.t 40,.t 41],MV 38 42,O1 43 (.ext 0) 38,O1 44 (.ext 1) 38,MV 14
 43,MV 15 44]).seq (((C.ops [MV 45 15,BC 46 .neq 45 (i6 0)]).seq (C.cond (.t 46) ((C.ops [MV 47 15,ON 8 (.nilo 0 6 49) [],MV 9 47]).seq C.ret) C.skip)).seq ((C.ops [MV 49 0,MV
 50 1,O1 51 (.fldA 4) 13,LD 52 51,ON 53 (.call 62 true) [.t 49,.t 50,.t 52],MV 48 53,O1 54 (.ext 0) 48,O1 55 (.ext 1) 48,MV 16 54,MV 15 55]).seq (((C.ops [MV 56 15,BC 57
 .neq 56 (i6 0)]).seq (C.cond (.t 57) ((C.ops [MV 58 15,ON 8 (.nilo 0 6 49) [],MV 9 58]).seq C.ret) C.skip)).seq (C.ops [MV 59 10,MV 60 14,⟨some 61,none,.bslc 4 1 1 37 [.nl]
 [(0,1)],[.t 60]⟩,O2 62 (.app 5 1 37 24) 59 61,MV 63 11,MV 64 16,⟨some 65,none,.bslc 6 1 1 37 [.nl] [(0,1)],[.t 64]⟩,O2 66 (.app 7 1 37 24) 63 65,MV 10 62,MV 11
 66]))))))).seq (C.ops [BC 67 .add 34 (i6 1),MV 34 67])))).loop)).seq ((C.ops [ON 17 (.nilo 8 6 49) []]).seq (((C.ops [MV 68 2,O1 69 .len 68,MC 70 (i6 0)]).seq (C.block 2 ((C.ops
 [BI 71 .lss 70 69]).seq ((C.cond (.t 71) C.skip (C.exit 2)).seq ((C.block 3 ((C.ops [MV 72 70,O2 73 (.idxA 6) 68 70,O1 74 (.load (some 6)) 73,⟨some 19,none,.alloc 9 49 [i6 0,
 i6 0,i6 0,.bool false,.nl,.nl],[]⟩,MV 18 72,ST 6 19 74]).seq (((C.ops [O1 75 (.fldA 0) 19,LD 76 75,MV 77 3,BI 78 .gtr 76 77]).seq (C.cond (.t 78) (C.exit 3) C.skip)).seq
 (((C.ops [O1 79 (.fldA 3) 19,LD 80 79]).seq (C.cond (.t 80) ((C.ops [ON 20 (.nilo 10 1 3) []]).seq (((C.ops [MV 81 2,O1 82 .len 81,MC 83 (i6 0)]).seq (C.block 4 ((C.ops [BI 84
 .lss 83 82]).seq ((C.cond (.t 84) C.skip (C.exit 4)).seq ((C.block 5 ((C.ops [MV 85 83,O2 86 (.idxA 6) 81 83,O1 87 (.load (some 6)) 86,⟨some 22,none,.alloc 11 49 [i6 0,i6 0,
 i6 0,.bool false,.nl,.nl],[]⟩,MV 21 85,ST 6 22 87]).seq ((C.ops [O1 88 (.fldA 0) 22,LD 89 88,MV 90 3,BI 91 .gtr 89 90,MV 92 91,P1 93 92 true (.fldA 1) 22,P1 94 92 true
 (.load none) 93,P1 95 92 true (.fldA 1) 19,P1 96 92 true (.load none) 95,P2 97 92 true (.bin .eql) 94 96,PF 98 92 97,MV 99 98,P1 100 99 true (.fldA 2) 22,P1 101 99 true
 (.load none) 100,P1 102 99 true (.fldA 2) 19,P1 103 99 true (.load none) 102,P2 104 99 true (.bin .eql) 101 103,PF 105 99 104]).seq (C.cond (.t 105) (C.ops [MV 106 20,MV 107
 10,MV 108 21,O2 109 (.idxA 1) 107 108,LD 110 109,O2 111 (.app 12 1 3 8) 106 110,MV 20 111]) C.skip)))).seq (C.ops [BC 112 .add 83 (i6 1),MV 83 112])))).loop)).seq ((C.ops [MV
 113 20,O1 114 .len 113,BC 115 .gtr 114 (i6 0)]).seq (C.cond (.t 115) ((C.ops [MV 116 20,MV 117 11,MV 118 18,O2 119 (.idxA 1) 117 118,LD 120 119,O2 121 (.app 13 1 3 8) 116
 120,MV 20 121]).seq ((C.ops [MV 122 20,O1 123 (.call 63 false) 122]).seq ((C.ops [MV 125 0,MV 126 1,MV 127 20,O1 128 (.call 64 false) 127,ON 129 (.call 61 false) [.t 125,.t
 126,.t 128],MV 124 129,O1 130 (.ext 0) 124,O1 131 (.ext 1) 124,MV 23 130,MV 24 131]).seq (((C.ops [MV 132 24,BC 133 .neq 132 (i6 0)]).seq (C.cond (.t 133) ((C.ops [MV 134
 24,ON 8 (.nilo 0 6 49) [],MV 9 134]).seq C.ret) C.skip)).seq (C.ops [MV 135 23,O1 136 (.fldA 4) 19,ST 1 136 135]))))) C.skip)))) C.skip)).seq (C.ops [MV 137 17,O1 138 (.load
 (some 6)) 19,⟨some 139,none,.bslc 14 6 1 49 [i6 0,i6 0,i6 0,.bool false,.nl,.nl] [(0,6)],[.t 138]⟩,O2 140 (.app 15 6 49 80) 137 139,MV 17 140]))))).seq (C.ops [BC 141
 .add 70 (i6 1),MV 70 141])))).loop)).seq ((C.ops [MV 142 17,MV 8 142,MC 9 (i6 0)]).seq
 C.ret))))))))
theorem qvk:qJ Tryz.prog 34 143 16 [RV.tmp 8,RV.tmp 9] qxx:=fi Tryz.f34 [8,10,11,13,61,62,65,66,17,19,20,22,111,121,139,140] qrI [] (by kernel_rfl) (by kernel_rfl) (by kernel_rfl) (by kernel_rfl)
end
