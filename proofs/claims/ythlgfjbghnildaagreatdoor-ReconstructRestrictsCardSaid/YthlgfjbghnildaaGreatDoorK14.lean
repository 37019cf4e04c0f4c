import Derived.Test.YthlgfjbghnildaaGreatDoorK13
import Derived.Test.YthlgfjbghnildaaGreatDoorK1
import Derived.Test.YthlgfjbghnildaaGreatDoorK3
import Derived.Test.YthlgfjbghnildaaGreatDoorK6
import Derived.Test.YthlgfjbghnildaaGreatDoorProg
import Derived.Test.YthlgfjbghnildaaGreatDoorK12
import Derived.Test.YthlgfjbghnildaaGreatDoorK9
import Derived.Test.YthlgfjbghnildaaGreatDoorK8
set_option linter.all false
set_option linter.unusedSimpArgs false
set_option linter.unusedVariables false
set_option linter.unusedSectionVars false
set_option maxRecDepth 100000
section
open Go Go.Proofs AF HY LN
namespace RC
set_option maxHeartbeats 16000000
def noS (e:En):En:= { e with sup:= [] }
def vsC (names:List Str) (gs:List Gr) (e:En) (i:Nat):List Int:=cnt names gs (noS e) i
def vsE (names:List Str) (gs:List Gr) (e:En):Int:=
 if sgE names gs≠0 then 1 else if kQ (fun i=>jR names gs (e.vars.getD i default).sigla) 0 e.vars.length≠0 then kQ (fun i=>jR names gs (e.vars.getD i default).sigla) 0 e.vars.length
 else if qhM (vsC names gs e e.vars.length)=true then 17 else 0
def vsB (names:List Str) (gs:List Gr) (e:En) (k:Nat):Bool:=decide (0<(vsC names gs e e.vars.length).getD k 0)
def vsL (names:List Str) (gs:List Gr) (e:En):List Int:=if vsE names gs e=0 then qP (vsB names gs e) 32 else []
theorem qpc (names:List Str) (gs:List Gr) (e:En):vsC names gs e 0=List.replicate 32 0:=by
 show qbQ (List.replicate 32 0) (zI names gs [])=_
 rw [qbA]
 rfl
theorem vsP (names:List Str) (gs:List Gr) (e:En) (h:List AObj) (hz:Szs names gs) (hv:e.vars.length≤1000000000) (hg: ∀i,(e.vars.getD i default).sigla.length≤1000000000):
  qm Tryz.prog 60 [strs names,qv gs,.agg (enC e)] h (.tup [ql (vsL names gs e),.int .i64 (vsE names gs e)]) h:=by
 have c59:=fun h=>sgP names gs h hz
 obtain ⟨R,hR⟩: ∃R,R=vsE names gs e:=⟨_,rfl⟩
 have hLR:vsL names gs e=if R=0 then qP (vsB names gs e) 32 else []:=by rw [hR];rfl
 rw [hLR,←hR]
 unfold vsE at hR
 obtain ⟨s,hs⟩: ∃s,s=sgE names gs:=⟨_,rfl⟩
 rw [←hs]at c59 hR
 by_cases g0:s≠0
 ·have k0:(s=0)=False:=eq_false g0
  rw [if_pos g0]at hR
  rw [hR,if_neg (by decide)]
  refine acO quZ ?_
  simp (disch:=omega) only [qwY,List.replicate,enC,go_sem]
  repeat' first
   |((first|refine cA (c59 _) ?_ ?_|refine cG (fun e=>c59 _) ?_ ?_|refine cU (fun _=>c59 _) ?_ ?_);(next=>exact flk);simp (disch:=omega) only [k0,go_sem])
   |((first|apply qc|apply qb);exact rvk;simp only [go_sem];first|exact VLe.refl _|apply qd|apply qa|apply qe|skip)
   |with_reducible first|refine And.intro ?_ ?_|intro _
  all_goals try exact clz
  first|exact zb|exact qK ⟨zb,VLe.refl _,trivial⟩
 have g0:s=0:=Classical.not_not.1 g0
 have k0:(s=0)=True:=eq_true g0
 rw [if_neg (fun hc=>hc g0)]at hR
 refine acO quZ ?_
 simp (disch:=omega) only [qwY,List.replicate,enC,qS,go_sem]
 repeat' first
  |((first|refine cA (c59 _) ?_ ?_|refine cG (fun e=>c59 _) ?_ ?_|refine cU (fun _=>c59 _) ?_ ?_);(next=>exact flk);simp (disch:=omega) only [k0,qS,go_sem])
  |((first|apply qc|apply qb);exact rvk;simp only [go_sem];first|exact VLe.refl _|apply qd|apply qa|apply qe|skip)
  |with_reducible first|refine And.intro ?_ ?_|intro _
 all_goals try exact clz
 have e0:([AV.int .i64 0,AV.int .i64 0,AV.int .i64 0,AV.int .i64 0,AV.int .i64 0,AV.int .i64 0,AV.int .i64 0,AV.int .i64 0,AV.int .i64 0,AV.int .i64 0,AV.int .i64 0,AV.int .i64 0,AV.int .i64 0,AV.int .i64 0,AV.int .i64 0,AV.int .i64 0,AV.int .i64 0,AV.int .i64 0,AV.int .i64 0,AV.int .i64 0,AV.int .i64 0,AV.int .i64 0,AV.int .i64 0,AV.int .i64 0,AV.int .i64 0,AV.int .i64 0,AV.int .i64 0,AV.int .i64 0,AV.int .i64 0,AV.int .i64 0,AV.int .i64 0,AV.int .i64 0]:List AV)=qn (vsC names gs e 0):=by rw [qpc];rfl
 rw [e0]
 refine qo (T:=fun i:Nat×AObj=>qI 50 [(0,strs names),(1,qv gs),(8,.op (h.length+2) 1 0),(20,qS e.vars),(21,.int .i64 e.vars.length),(22,.int .i64 i.1)])
  (H:=fun i=>h++ [.mem 1 49 [.int .i64 e.layer,.int .i64 e.frm,.int .i64 e.to,.bool e.pos,strs e.sup,qS e.vars],.emp 1,.mem 1 117 (qn (vsC names gs e i.1)),i.2,.emp 0,.emp 0,.emp 0])
  (inv:=fun i=>i.1≤e.vars.length∧qD [i.2] 0=true∧ ∀j,j<i.1→jR names gs (e.vars.getD j default).sigla=0) (m:=fun i=>e.vars.length-i.1) (0,.emp 0) ⟨Nat.zero_le _,rfl,fun j hj=>absurd hj (Nat.not_lt_zero j)⟩ (Wk.temps ?_) ?_
 ·(simp only [strs,qS,List.replicate,go_sem,qj,qh,qg,qi];try (repeat' first|(with_reducible refine And.intro ?_ ?_)|(apply qd;omega)|(apply qa;rfl)|exact VLe.refl _))
 rintro ⟨n,O⟩ ⟨n1,i2,n2⟩ K hK
 simp only at n1 i2 n2 hK
 have i2': ∀m,qD (O::m) 0=true:=fun _=>i2
 by_cases hn:n<e.vars.length
 ·have r2:((n:Int)<e.vars.length)=True:=eq_true (by omega)
  have hE:=qU (f:=fun i=>jR names gs (e.vars.getD i default).sigla) hn n2
  have zs:=hg n
  have hcs:vsC names gs e (n+1)=qbQ (vsC names gs e n) (zI names gs (e.vars.getD n default).sigla):=rfl
  have hbn:=qjn names gs (noS e) n
  have hln:=qcP names gs (noS e) n
  obtain ⟨D,hD⟩: ∃D,D=vsC names gs e n:=⟨_,rfl⟩
  have eD:=hD.symm
  have eD':cnt names gs (noS e) n=D:=eD
  rw [eD']at hbn hln
  rw [eD]at hcs
  obtain ⟨x,hx⟩: ∃x,x=e.vars.getD n default:=⟨_,rfl⟩
  have ex:=hx.symm
  simp only [ex]at hE hcs zs
  simp (disch:=omega) only [List.replicate,strs,qS,vaC,r2,ex,eD,i2',go_sem]
  repeat' first
   |((first|apply qc|apply qb);exact rvk;simp only [go_sem];first|exact VLe.refl _|apply qd|apply qa|apply qe|skip)
   |with_reducible first|refine And.intro ?_ ?_|intro _
  all_goals try exact clz
  refine cE (qxc names gs x.sigla D (h.length+2) 1 117 _ hz zs (by rw [getO_app];rfl) hln (64*((n:Int)+1)) (by omega) hbn) (by exact flk) ?_
  rw [←hcs]
  obtain ⟨q,hq⟩: ∃q,q=jR names gs x.sigla:=⟨_,rfl⟩
  rw [←hq]at hE ⊢
  by_cases b2:q≠0
  ·have p2:(q=0)=False:=eq_false b2
   rw [hE b2,if_pos b2]at hR
   rw [hR,if_neg b2]
   simp (disch:=omega) only [List.replicate,strs,qS,p2,go_sem]
   repeat' first
    |((first|apply qc|apply qb);exact rvk;simp only [go_sem];first|exact VLe.refl _|apply qd|apply qa|apply qe|skip)
    |with_reducible first|refine And.intro ?_ ?_|intro _
   all_goals try exact clz
   first|exact zb|exact qK ⟨zb,VLe.refl _,trivial⟩
  ·have b2:q=0:=Classical.not_not.1 b2
   have p2:(q=0)=True:=eq_true b2
   simp (disch:=omega) only [List.replicate,strs,qS,p2,go_sem]
   repeat' first
    |((first|apply qc|apply qb);exact rvk;simp only [go_sem];first|exact VLe.refl _|apply qd|apply qa|apply qe|skip)
    |with_reducible first|refine And.intro ?_ ?_|intro _
   all_goals try exact clz
   refine hK _ _ (n+1,.mem (qs (some O)+1) 51 [strs x.words,strs x.sigla]) ⟨hn,rfl,fun j hj=> ?_⟩ (by simp only;omega) (Wk.temps ?_)
   ·by_cases e':j=n
    ·subst e';rw [ex,←hq,b2]
    ·exact n2 j (by simp only at hj;omega)
   ·(simp only [strs,qS,List.replicate,go_sem,qj,qh,qg,qi];try (repeat' first|(with_reducible refine And.intro ?_ ?_)|(apply qd;omega)|(apply qa;rfl)|exact VLe.refl _))
 ·have r2:((n:Int)<e.vars.length)=False:=eq_false (by omega)
  have e':n=e.vars.length:=by omega
  subst e'
  rw [if_neg (fun hc=>hc (qE (f:=fun i=>jR names gs (e.vars.getD i default).sigla) (fun j hj=>n2 j hj)))]at hR
  have hln:(vsC names gs e e.vars.length).length=32:=qcP names gs (noS e) e.vars.length
  unfold qhM at hR
  rw [hln]at hR
  have c94:=fun h=>twP (vsC names gs e e.vars.length) h hln
  rw [hln]at c94
  obtain ⟨pB,hpB⟩: ∃pB,pB=vsB names gs e:=⟨_,rfl⟩
  rw [←hpB]
  have hpk: ∀k,pB k=decide (0<(vsC names gs e e.vars.length).getD k 0):=fun k=>by rw [hpB];rfl
  obtain ⟨D,hD⟩: ∃D,D=vsC names gs e e.vars.length:=⟨_,rfl⟩
  have eD:=hD.symm
  simp only [eD]at hR hln c94 hpk
  have fT:List.take 32 (qn D)=List.map (fun n=>AV.int .i64 n) D:=List.take_of_length_le (by rw [qt];omega)
  have fL:=qt D
  rw [hln]at fL
  cases b3:jp (fun i=>decide (1<D.getD i 0)) 32 with
  |true=>
   rw [b3]at c94 hR
   rw [if_pos rfl]at hR
   rw [hR,if_neg (by decide)]
   simp (disch:=omega) only [List.replicate,strs,qS,r2,eD,fT,fL,go_sem]
   repeat' first
    |((first|refine cA (c94 _) ?_ ?_|refine cG (fun e=>c94 _) ?_ ?_|refine cU (fun _=>c94 _) ?_ ?_);(next=>exact flk);simp (disch:=omega) only [strs,qS,r2,eD,fT,fL,go_sem])
    |((first|apply qc|apply qb);exact rvk;simp only [go_sem];first|exact VLe.refl _|apply qd|apply qa|apply qe|skip)
    |with_reducible first|refine And.intro ?_ ?_|intro _
   all_goals try exact clz
   first|exact zb|exact qK ⟨zb,VLe.refl _,trivial⟩
  |false=>
   rw [b3]at c94 hR
   rw [if_neg (by simp)]at hR
   rw [hR,if_pos rfl]
   simp (disch:=omega) only [List.replicate,strs,qS,r2,eD,fT,fL,go_sem]
   repeat' first
    |((first|refine cA (c94 _) ?_ ?_|refine cG (fun e=>c94 _) ?_ ?_|refine cU (fun _=>c94 _) ?_ ?_);(next=>exact flk);simp (disch:=omega) only [strs,qS,r2,eD,fT,fL,go_sem])
    |((first|apply qc|apply qb);exact rvk;simp only [go_sem];first|exact VLe.refl _|apply qd|apply qa|apply qe|skip)
    |with_reducible first|refine And.intro ?_ ?_|intro _
   all_goals try exact clz
   clear hK
   refine qo (T:=fun s:Nat×Nat×AObj=>qI 50 [(12,.osl (h.length+4) s.2.1 1 0 (qP pB s.1).length),(37,.agg (List.map (fun n=>AV.int .i64 n) D)),(38,.int .i64 s.1)])
    (H:=fun s=>h++ [.mem 1 49 [.int .i64 e.layer,.int .i64 e.frm,.int .i64 e.to,.bool e.pos,strs e.sup,qS e.vars],.emp 1,.mem 1 117 (qn D),O,zp s.2.1 3 (qn (qP pB s.1)),s.2.2,.emp 0])
    (inv:=fun s=>s.1≤32∧qD [s.2.2] 0=true) (m:=fun s=>32-s.1) (0,1,.emp 0) ⟨Nat.zero_le _,rfl⟩ (Wk.temps ?_) ?_
   ·(simp only [List.replicate,qP,List.range_zero,List.filter_nil,List.length_nil,List.map_nil,go_sem,qj,qh,qg,qi];try (repeat' first|(with_reducible refine And.intro ?_ ?_)|(apply qd;omega)|(apply qa;rfl)|exact VLe.refl _))
   rintro ⟨i,v,O5⟩ ⟨j1,j2⟩ K hK
   simp only at j1 j2 hK
   have j2': ∀m,qD (O5::m) 0=true:=fun _=>j2
   have hst:=zC pB i
   have hll:=qF pB i
   have hp:=hpk i
   obtain ⟨L,hL⟩: ∃L,L=qP pB i:=⟨_,rfl⟩
   rw [←hL]at hst hll
   have eL:=hL.symm
   have eC:=qt L
   have eTk:List.take L.length (qn L)=qn L:=List.take_of_length_le (by omega)
   by_cases hi:i<32
   ·have k1:((i:Int)<32)=True:=eq_true (by omega)
    have k2:(0≤(i:Int))=True:=eq_true (by omega)
    have k3:(i<D.length)=True:=eq_true (by omega)
    have eG:D[i]? =some (D.getD i 0):=by rw [gdqA,q9 (by omega)];rfl
    obtain ⟨y,hy⟩: ∃y,y=D.getD i 0:=⟨_,rfl⟩
    rw [←hy]at hp eG
    by_cases hyp:0<y
    ·have k4:(0<y)=True:=eq_true hyp
     rw [hp,if_pos (decide_eq_true hyp)]at hst
     simp (disch:=omega) only [List.replicate,k1,k2,k3,k4,eG,j2',eL,Nat.mul_one,Int.toNat_natCast,List.getElem?_map,List.length_map,Option.map_some,Option.getD_some,go_sem]
     repeat' first
      |((first|apply qc|apply qb);exact rvk;simp only [go_sem];first|exact VLe.refl _|apply qd|apply qa|apply qe|skip)
      |with_reducible first|refine And.intro ?_ ?_|intro _
     all_goals try exact clz
     have eA:qn L++ [AV.int .i64 (i:Int)]=qn (qP pB (i+1)):=by rw [hst,qG];rfl
     try rw [eTk]
     rw [eA]
     refine hK _ _ (i+1,v+1,.mem (qs (some O5)+1) 3 [.int .i64 (i:Int)]) ⟨hi,rfl⟩ (by simp only;omega) ?_
     simp only [hst,List.length_append,List.length_cons,List.length_nil]
     refine Wk.temps ?_
     (simp only [List.replicate,go_sem,qj,qh,qg,qi];try (repeat' first|(with_reducible refine And.intro ?_ ?_)|(apply qd;omega)|(apply qa;rfl)|exact VLe.refl _))
    ·have k4:(0<y)=False:=eq_false hyp
     rw [hp,if_neg (by simpa using hyp),List.append_nil]at hst
     simp (disch:=omega) only [List.replicate,k1,k2,k3,k4,eG,j2',eL,Nat.mul_one,Int.toNat_natCast,List.getElem?_map,List.length_map,Option.map_some,Option.getD_some,go_sem]
     repeat' first
      |((first|apply qc|apply qb);exact rvk;simp only [go_sem];first|exact VLe.refl _|apply qd|apply qa|apply qe|skip)
      |with_reducible first|refine And.intro ?_ ?_|intro _
     all_goals try exact clz
     refine hK _ _ (i+1,v,O5) ⟨hi,j2⟩ (by simp only;omega) ?_
     simp only [hst]
     refine Wk.temps ?_
     (simp only [List.replicate,go_sem,qj,qh,qg,qi];try (repeat' first|(with_reducible refine And.intro ?_ ?_)|(apply qd;omega)|(apply qa;rfl)|exact VLe.refl _))
   ·obtain rfl:i=32:=by omega
    have k1:(((32:Nat):Int)<32)=False:=eq_false (by omega)
    rw [eL]
    simp (disch:=omega) only [List.replicate,k1,eL,go_sem]
    repeat' first
     |((first|apply qc|apply qb);exact rvk;simp only [go_sem];first|exact VLe.refl _|apply qd|apply qa|apply qe|skip)
     |with_reducible first|refine And.intro ?_ ?_|intro _
    all_goals try exact clz
    exact qK ⟨kE (fun _=>rfl) rfl,VLe.refl _,trivial⟩
end RC
end
section
open Go Go.Proofs AF HY LN
namespace RC
set_option maxHeartbeats 4000000
end RC
end
section
open Go Go.Proofs AF HY LN
namespace RC
set_option maxHeartbeats 4000000
end RC
end
section
open Go Go.Proofs AF
end
section
open Go Go.Proofs AF HY LN
namespace RC
set_option maxHeartbeats 16000000
theorem qke (p:Nat→Bool) (n:Nat):kL n (qP p n)=0:=by
 unfold kL
 refine qE fun i hi=> ?_
 have hm:(qP p n).getD i 0∈qP p n:=by rw [gdqA,q9 hi];exact List.getElem_mem hi
 obtain ⟨k,e,hk,_⟩:=jy hm
 unfold qbq
 rw [if_neg (by omega)]
 rw [if_neg]
 rintro ⟨h0,h1⟩
 have hp:=List.pairwise_iff_getElem.1 (qb0 p n) (i-1) i (by omega) hi (by omega)
 have g: ∀j (hj:j<(qP p n).length),(qP p n).getD j 0=(qP p n)[j]:=fun j hj=>by rw [gdqA,q9 hj];rfl
 rw [g i hi,g (i-1) (by omega)]at h1
 omega
end RC
end
section
open Go Go.Proofs AF HY LN
namespace RC
set_option maxHeartbeats 4000000
end RC
end
section
open Go Go.Proofs AF
end
section
open Go Go.Proofs AF HY LN
namespace RC
set_option maxHeartbeats 16000000
theorem qjV {names:List Str} {gs:List Gr} {t:List Str} {l:List En} (h:qjU names gs t l=false) (hs:sgE names gs=0):names.length≤8∧gs.length≤8:=by
 have ho:=qcH hs
 have h1:=ho.n32
 have h2:=ho.g16
 unfold qjU qpF at h
 simp only [Bool.or_eq_false_iff,Bool.and_eq_false_iff,decide_eq_false_iff_not]at h
 omega
end RC
end
section
open Go Go.Proofs AF HY LN
namespace RC
set_option maxHeartbeats 16000000
theorem qp0 {names:List Str} {gs:List Gr} {e:En} (h:vsE names gs e=0):vsL names gs e=(kf names gs (noS e) e.vars.length).1:=by
 have hi:=qh2 names gs (noS e) e.vars.length
 have hp:(kf names gs (noS e) e.vars.length).1.Pairwise (· < ·):=by
  cases e.vars.length with
  |zero=>
   show (zI names gs []).Pairwise (· < ·)
   rw [qbA]
   exact List.Pairwise.nil
  |succ n=>rw [k9];exact qb0 _ _
 unfold vsL
 rw [if_pos h]
 refine qrz (qb0 _ _) hp fun x=> ?_
 rw [qas]
 constructor
 ·rintro ⟨k,hk,hb,rfl⟩
  have hb:=of_decide_eq_true hb
  unfold vsC at hb
  exact (hi.mem k hk).2 (by omega)
 ·intro hx
  obtain ⟨x0,x1⟩:=hi.rng x hx
  have h1:=(hi.mem x.toNat (by omega)).1 (by rw [show ((x.toNat:Nat):Int)=x by omega];exact hx)
  refine ⟨x.toNat,by omega,?_,by omega⟩
  exact decide_eq_true (by unfold vsC;omega)
theorem vsR (names:List Str) (gs:List Gr) (e:En) (h:List AObj) (hz:Szs names gs) (hv:e.vars.length≤1000000000) (hsg: ∀i,(e.vars.getD i default).sigla.length≤1000000) (hgm: ∀i,(gs.getD i default).mem.length≤1000):
  qm Tryz.prog 40 [strs names,qv gs,.agg (enC e)] h (.tup [ql (vsL names gs e),.int .i64 (vsE names gs e)]) h:=by
 have c49:=fun h=>sgR names gs h hz
 obtain ⟨R,hR⟩: ∃R,R=vsE names gs e:=⟨_,rfl⟩
 have hLR:vsL names gs e=if R=0 then (kf names gs (noS e) e.vars.length).1 else []:=by
  rw [hR]
  split
  ·rename_i h;exact qp0 h
  ·rename_i h;unfold vsL;rw [if_neg h]
 rw [hLR,←hR]
 unfold vsE at hR
 obtain ⟨s,hs⟩: ∃s,s=sgE names gs:=⟨_,rfl⟩
 rw [←hs]at c49 hR
 by_cases g0:s≠0
 ·have k0:(s=0)=False:=eq_false g0
  rw [if_pos g0]at hR
  rw [hR,if_neg (by decide)]
  refine acO quU ?_
  simp (disch:=omega) only [qwT,List.replicate,enC,go_sem]
  repeat' first
   |((first|refine cA (c49 _) ?_ ?_|refine cG (fun e=>c49 _) ?_ ?_|refine cU (fun _=>c49 _) ?_ ?_);(next=>exact flk);simp (disch:=omega) only [k0,go_sem])
   |((first|apply qc|apply qb);exact rvk;simp only [go_sem];first|exact VLe.refl _|apply qd|apply qa|apply qe|skip)
   |with_reducible first|refine And.intro ?_ ?_|intro _
  all_goals try exact clz
  first|exact zb|exact qK ⟨zb,VLe.refl _,trivial⟩
 have g0:s=0:=Classical.not_not.1 g0
 have k0:(s=0)=True:=eq_true g0
 rw [if_neg (fun hc=>hc g0)]at hR
 refine acO quU ?_
 simp (disch:=omega) only [qwT,List.replicate,enC,qS,go_sem]
 repeat' first
  |((first|refine cA (c49 _) ?_ ?_|refine cG (fun e=>c49 _) ?_ ?_|refine cU (fun _=>c49 _) ?_ ?_);(next=>exact flk);simp (disch:=omega) only [k0,qS,go_sem])
  |((first|apply qc|apply qb);exact rvk;simp only [go_sem];first|exact VLe.refl _|apply qd|apply qa|apply qe|skip)
  |with_reducible first|refine And.intro ?_ ?_|intro _
 all_goals try exact clz
 have a0:(kf names gs (noS e) 0).1= []:=qbA names gs
 have a1:(kf names gs (noS e) 0).2=false:=rfl
 refine qo (T:=fun i:Nat=>qI 62 [(0,strs names),(1,qv gs),(5,.op h.length 1 0),(8,ql (kf names gs (noS e) i).1),(9,.bool (kf names gs (noS e) i).2),(10,.int .i64 i)])
  (H:=fun i=>h++ [.mem 1 49 [.int .i64 e.layer,.int .i64 e.frm,.int .i64 e.to,.bool e.pos,strs e.sup,qS e.vars],.emp 1,.emp 2])
  (inv:=fun i=>i≤e.vars.length∧ ∀j,j<i→jR names gs (e.vars.getD j default).sigla=0) (m:=fun i=>e.vars.length-i) 0 ⟨Nat.zero_le _,fun j hj=>absurd hj (Nat.not_lt_zero j)⟩ (Wk.trans (Wk.freeze [h.length+2] (by simp only [zN,go_sem])) ?_) ?_
 ·rw [a0,a1]
  simp only [kK,List.map,go_sem]
  refine Wk.temps ?_
  (simp only [strs,qv,qS,ql,List.replicate,go_sem,qj,qh,qg,qi];try (repeat' first|(with_reducible refine And.intro ?_ ?_)|(apply qd;omega)|(apply qa;rfl)|exact VLe.refl _))
  ·rw [if_neg (by simp)];exact VLe.refl _
  ·rw [if_pos (by simp),if_pos (by simp),if_pos (Nat.zero_le _)]
   exact VLe.sl_eq rfl (fun i hi=>absurd hi (by simp))
 rintro m ⟨m1,m2⟩ K2 hK2
 obtain ⟨sa1,sa2⟩:=qh3 names gs (noS e) m
 have hac:=k9 names gs (noS e) m
 have hac:kf names gs (noS e) (m+1)=(qP (fun k=>decide ((k:Int)∈(kf names gs (noS e) m).1)||decide ((k:Int)∈zI names gs (e.vars.getD m default).sigla)) 64,(kf names gs (noS e) m).2||(kf names gs (noS e) m).1.any fun x=>decide (x∈zI names gs (e.vars.getD m default).sigla)):=hac
 obtain ⟨A,hA⟩: ∃A,A=(kf names gs (noS e) m).1:=⟨_,rfl⟩
 obtain ⟨B,hB⟩: ∃B,B=(kf names gs (noS e) m).2:=⟨_,rfl⟩
 have eA:=hA.symm
 have eB:=hB.symm
 rw [eA]at sa1 sa2
 rw [eA,eB]at hac
 by_cases hm:m<e.vars.length
 ·have s1:((m:Int)<e.vars.length)=True:=eq_true (by omega)
  have hE:=qU (f:=fun i=>jR names gs (e.vars.getD i default).sigla) hm m2
  have c28b:=fun h=>qq0 names gs (e.vars.getD m default).sigla h hz (hsg m) hgm
  have ho:=qbB names gs (e.vars.getD m default).sigla
  obtain ⟨x,hx⟩: ∃x,x=e.vars.getD m default:=⟨_,rfl⟩
  have ex:=hx.symm
  simp only [ex]at hE c28b hac ho
  obtain ⟨q,hq⟩: ∃q,q=jR names gs x.sigla:=⟨_,rfl⟩
  obtain ⟨O,hO⟩: ∃O,O=zI names gs x.sigla:=⟨_,rfl⟩
  rw [←hq]at hE c28b
  rw [←hO]at c28b hac ho
  obtain ⟨ho1,ho2⟩:=ho
  have c70:=fun h=>qzX A O h (by omega) (by omega) sa1 ho1
  have c71:=fun h=>qAo A O h (by omega) (by omega) sa1 ho1
  have hfp:=qq3 A O
  obtain ⟨F,hF⟩: ∃F,F=qfR A O A.length:=⟨_,rfl⟩
  obtain ⟨U,hU⟩: ∃U,U=qP (fun k=>decide ((k:Int)∈A)||decide ((k:Int)∈O)) 64:=⟨_,rfl⟩
  rw [←hF]at c70 hfp
  rw [←hU]at c71 hac
  unfold strs qv ql at c28b
  unfold ql at c70 c71
  by_cases b2:q≠0
  ·have p2:(q=0)=False:=eq_false b2
   rw [hE b2,if_pos b2]at hR
   rw [hR,if_neg b2]
   simp (disch:=omega) only [List.replicate,strs,qv,qS,vaC,ql,s1,ex,eA,eB,go_sem]
   repeat' first
    |((first|refine cA (c28b _) ?_ ?_|refine cG (fun e=>c28b _) ?_ ?_|refine cU (fun _=>c28b _) ?_ ?_);(next=>exact flk);simp (disch:=omega) only [strs,qv,qS,vaC,ql,s1,ex,eA,eB,p2,go_sem])
    |((first|apply qc|apply qb);exact rvk;simp only [go_sem];first|exact VLe.refl _|apply qd|apply qa|apply qe|skip)
    |with_reducible first|refine And.intro ?_ ?_|intro _
   all_goals try exact clz
   first|exact zb|exact qK ⟨zb,VLe.refl _,trivial⟩
  ·have b2:q=0:=Classical.not_not.1 b2
   have p2:(q=0)=True:=eq_true b2
   have kF:((0:Int)<F.length)=(A.any (fun x=>decide (x∈O))=true):=by
    rw [←hfp];simp
   obtain ⟨G,hG⟩: ∃G,G=A.any fun x=>decide (x∈O):=⟨_,rfl⟩
   rw [←hG]at kF hac
   have fin: ∀B',B'=(B||G)→(kf names gs (noS e) (m+1)).1=U∧(kf names gs (noS e) (m+1)).2=B':=fun B' hb=>by rw [hac,hb];exact ⟨rfl,rfl⟩
   have hi2: ∀j,j<m+1→jR names gs (e.vars.getD j default).sigla=0:=fun j hj=>by
    by_cases e':j=m
    ·subst e';rw [ex,←hq];exact b2
    ·exact m2 j (by omega)
   cases B with
   |true=>
    obtain ⟨f1,f2⟩:=fin true rfl
    simp (disch:=omega) only [List.replicate,strs,qv,qS,vaC,ql,s1,ex,eA,eB,go_sem]
    repeat' first
     |((first|refine cA (c28b _) ?_ ?_|refine cG (fun e=>c28b _) ?_ ?_|refine cA (c70 _) ?_ ?_|refine cG (fun e=>c70 _) ?_ ?_|refine cA (c71 _) ?_ ?_|refine cG (fun e=>c71 _) ?_ ?_|refine cU (fun _=>c28b _) ?_ ?_|refine cU (fun _=>c70 _) ?_ ?_|refine cU (fun _=>c71 _) ?_ ?_);(next=>exact flk);simp (disch:=omega) only [strs,qv,qS,vaC,ql,s1,ex,eA,eB,p2,go_sem])
     |((first|apply qc|apply qb);exact rvk;simp only [go_sem];first|exact VLe.refl _|apply qd|apply qa|apply qe|skip)
     |with_reducible first|refine And.intro ?_ ?_|intro _
    all_goals try exact clz
    refine hK2 _ _ (m+1) ⟨hm,hi2⟩ (by omega) (Wk.temps ?_)
    rw [f1,f2]
    (simp only [strs,qv,qS,ql,List.replicate,go_sem,qj,qh,qg,qi];try (repeat' first|(with_reducible refine And.intro ?_ ?_)|(apply qd;omega)|(apply qa;rfl)|exact VLe.refl _))
   |false=>
    cases G with
    |true=>
     obtain ⟨f1,f2⟩:=fin true rfl
     have kF:((0:Int)<F.length)=True:=by rw [kF];simp
     simp (disch:=omega) only [List.replicate,strs,qv,qS,vaC,ql,s1,ex,eA,eB,go_sem]
     repeat' first
      |((first|refine cA (c28b _) ?_ ?_|refine cG (fun e=>c28b _) ?_ ?_|refine cA (c70 _) ?_ ?_|refine cG (fun e=>c70 _) ?_ ?_|refine cA (c71 _) ?_ ?_|refine cG (fun e=>c71 _) ?_ ?_|refine cU (fun _=>c28b _) ?_ ?_|refine cU (fun _=>c70 _) ?_ ?_|refine cU (fun _=>c71 _) ?_ ?_);(next=>exact flk);simp (disch:=omega) only [strs,qv,qS,vaC,ql,s1,ex,eA,eB,p2,kF,go_sem])
      |((first|apply qc|apply qb);exact rvk;simp only [go_sem];first|exact VLe.refl _|apply qd|apply qa|apply qe|skip)
      |with_reducible first|refine And.intro ?_ ?_|intro _
     all_goals try exact clz
     refine hK2 _ _ (m+1) ⟨hm,hi2⟩ (by omega) (Wk.temps ?_)
     rw [f1,f2]
     (simp only [strs,qv,qS,ql,List.replicate,go_sem,qj,qh,qg,qi];try (repeat' first|(with_reducible refine And.intro ?_ ?_)|(apply qd;omega)|(apply qa;rfl)|exact VLe.refl _))
    |false=>
     obtain ⟨f1,f2⟩:=fin false rfl
     have kF:((0:Int)<F.length)=False:=by rw [kF];simp
     simp (disch:=omega) only [List.replicate,strs,qv,qS,vaC,ql,s1,ex,eA,eB,go_sem]
     repeat' first
      |((first|refine cA (c28b _) ?_ ?_|refine cG (fun e=>c28b _) ?_ ?_|refine cA (c70 _) ?_ ?_|refine cG (fun e=>c70 _) ?_ ?_|refine cA (c71 _) ?_ ?_|refine cG (fun e=>c71 _) ?_ ?_|refine cU (fun _=>c28b _) ?_ ?_|refine cU (fun _=>c70 _) ?_ ?_|refine cU (fun _=>c71 _) ?_ ?_);(next=>exact flk);simp (disch:=omega) only [strs,qv,qS,vaC,ql,s1,ex,eA,eB,p2,kF,go_sem])
      |((first|apply qc|apply qb);exact rvk;simp only [go_sem];first|exact VLe.refl _|apply qd|apply qa|apply qe|skip)
      |with_reducible first|refine And.intro ?_ ?_|intro _
     all_goals try exact clz
     refine hK2 _ _ (m+1) ⟨hm,hi2⟩ (by omega) (Wk.temps ?_)
     rw [f1,f2]
     (simp only [strs,qv,qS,ql,List.replicate,go_sem,qj,qh,qg,qi];try (repeat' first|(with_reducible refine And.intro ?_ ?_)|(apply qd;omega)|(apply qa;rfl)|exact VLe.refl _))
 have s1:((m:Int)<e.vars.length)=False:=eq_false (by omega)
 obtain rfl:m=e.vars.length:=by omega
 rw [if_neg (fun hc=>hc (qE (f:=fun i=>jR names gs (e.vars.getD i default).sigla) (fun j hj=>m2 j hj)))]at hR
 unfold vsC at hR
 rw [qaa,eB]at hR
 cases B with
 |true=>
  rw [if_pos rfl]at hR
  rw [hR,if_neg (by decide)]
  simp (disch:=omega) only [List.replicate,strs,qv,qS,ql,s1,eB,go_sem]
  repeat' first
   |((first|apply qc|apply qb);exact rvk;simp only [go_sem];first|exact VLe.refl _|apply qd|apply qa|apply qe|skip)
   |with_reducible first|refine And.intro ?_ ?_|intro _
  all_goals try exact clz
  first|exact zb|exact qK ⟨zb,VLe.refl _,trivial⟩
 |false=>
  rw [if_neg (by simp)]at hR
  rw [hR,if_pos rfl]
  simp (disch:=omega) only [List.replicate,strs,qv,qS,ql,s1,eB,eA,go_sem]
  repeat' first
   |((first|apply qc|apply qb);exact rvk;simp only [go_sem];first|exact VLe.refl _|apply qd|apply qa|apply qe|skip)
   |with_reducible first|refine And.intro ?_ ?_|intro _
  all_goals try exact clz
end RC
end
section
open Go Go.Proofs AF HY LN
namespace RC
set_option maxHeartbeats 8000000
theorem qtS (zs:List Int) (hs:zs.Pairwise (· ≤ ·)): ∀m,m≤zs.length→(Lib.compactUpTo zs.toArray m).Pairwise (· < ·)∧ ∀x,x∈Lib.compactUpTo zs.toArray m↔ ∃j,j<m∧zs.toArray[j]! =x:=by
 have hget: ∀i j,i≤j→j<zs.length→zs.toArray[i]! ≤zs.toArray[j]! :=by
  intro i j hij hj
  have e: ∀k (hk:k<zs.length),zs.toArray[k]! =zs[k]:=fun k hk=>by simp [hk]
  rw [e i (by omega),e j hj]
  by_cases h:i=j
  ·subst h;exact Int.le_refl _
  ·exact List.pairwise_iff_getElem.1 hs i j (by omega) hj (by omega)
 intro m
 induction m with
 |zero=>intro _;exact ⟨by simp [Lib.compactUpTo],fun x=>by simp [Lib.compactUpTo]⟩
 |succ m ih=>
  intro hm
  obtain ⟨h1,h2⟩:=ih (by omega)
  rw [Lib.compactUpTo_succ]
  cases hk:Lib.keeps zs.toArray m with
  |true=>
   rw [if_pos rfl]
   have hlt: ∀x∈Lib.compactUpTo zs.toArray m,x<zs.toArray[m]! :=by
    intro x hx
    obtain ⟨j,hj,rfl⟩:=(h2 x).1 hx
    have hk:=of_decide_eq_true hk
    have g1:=hget j (m-1) (by omega) (by omega)
    have g2:=hget (m-1) m (by omega) (by omega)
    rcases hk with h|h
    ·omega
    ·omega
   refine ⟨List.pairwise_append.2 ⟨h1,List.pairwise_singleton _ _,fun a ha b hb=> ?_⟩,fun x=> ?_⟩
   ·rw [List.mem_singleton]at hb
    subst hb
    exact hlt a ha
   ·rw [List.mem_append,List.mem_singleton,h2]
    constructor
    ·rintro (⟨j,hj,e⟩|e)
     ·exact ⟨j,by omega,e⟩
     ·exact ⟨m,by omega,e.symm⟩
    ·rintro ⟨j,hj,e⟩
     by_cases h:j=m
     ·subst h;exact .inr e.symm
     ·exact .inl ⟨j,by omega,e⟩
  |false=>
   rw [if_neg (by simp),List.append_nil]
   refine ⟨h1,fun x=> ?_⟩
   rw [h2]
   have hk:=of_decide_eq_false hk
   rw [not_or]at hk
   obtain ⟨k1,k2⟩:=hk
   have k2:=Classical.not_not.1 k2
   constructor
   ·rintro ⟨j,hj,e⟩
    exact ⟨j,by omega,e⟩
   ·rintro ⟨j,hj,e⟩
    by_cases h:j=m
    ·subst h;exact ⟨j-1,by omega,by rw [←k2];exact e⟩
    ·exact ⟨j,by omega,e⟩
theorem qqA (L:List Int) (n:Nat) (h: ∀x∈L,0≤x∧x<n):qmn (qlz L)=qP (fun k=>decide ((k:Int)∈L)) n:=by
 have hsrt:(qlz L).Pairwise (· ≤ ·):=by
  refine (List.pairwise_mergeSort (le:=fun x y:Int=>decide (x≤y)) (fun a b c h1 h2=> ?_) (fun a b=> ?_) L).imp fun h=>of_decide_eq_true h
  ·exact decide_eq_true (Int.le_trans (of_decide_eq_true h1) (of_decide_eq_true h2))
  ·rw [Bool.or_eq_true,decide_eq_true_iff,decide_eq_true_iff]
   omega
 obtain ⟨h1,h2⟩:=qtS (qlz L) hsrt (qlz L).length (Nat.le_refl _)
 refine qrz h1 (qb0 _ _) fun x=> ?_
 unfold qmn Lib.compact
 rw [h2,qas]
 have hm: ∀x,x∈qlz L↔x∈L:=fun x=>List.mem_mergeSort
 constructor
 ·rintro ⟨j,hj,e⟩
  have hx:x∈L:=by
   rw [←hm,←e]
   simp [hj]
  obtain ⟨x0,x1⟩:=h x hx
  exact ⟨x.toNat,by omega,decide_eq_true (by rw [show ((x.toNat:Nat):Int)=x by omega];exact hx),by omega⟩
 ·rintro ⟨k,hk,hb,rfl⟩
  have hx:=(hm _).2 (of_decide_eq_true hb)
  obtain ⟨j,hj,e⟩:=List.getElem_of_mem hx
  exact ⟨j,hj,by simp [hj,e]⟩
end RC
end
section
open Go Go.Proofs AF HY LN
namespace RC
set_option maxHeartbeats 8000000
def qor (names:List Str) (gs:List Gr) (l:List En) (i:Nat):Int:=if vsE names gs (l.getD i default)≠0 then vsE names gs (l.getD i default) else jR names gs (l.getD i default).sup
def rsE (names:List Str) (gs:List Gr) (l:List En):Int:=if sgE names gs≠0 then 1 else if 4096<l.length then 4 else kQ (qor names gs l) 0 l.length
def mrB (l:List En) (layer:Int) (e:En) (k:Nat):Bool:=decide (layer<(l.getD k default).layer)&&(decide ((l.getD k default).frm=e.frm)&&decide ((l.getD k default).to=e.to))
def mrL (names:List Str) (gs:List Gr) (l:List En) (layer:Int) (e:En):Nat→List Int
 |0=> []
 |k+1=>mrL names gs l layer e k++if mrB l layer e k=true then vsL names gs (l.getD k default) else []
def mrA (names:List Str) (gs:List Gr) (l:List En) (layer:Int) (e:En):List Int:=mrL names gs l layer e l.length
def qlQ (names:List Str) (gs:List Gr) (l:List En) (layer:Int) (e:En):List Int:=qP (fun k=>decide ((k:Int)∈mrA names gs l layer e++zI names gs e.sup)) names.length
def j8 (names:List Str) (gs:List Gr) (l:List En) (layer:Int) (e:En):En:=if e.pos=true∧mrA names gs l layer e≠ [] then { e with sup:=shR names gs (qlQ names gs l layer e) } else e
def rsL (names:List Str) (gs:List Gr) (l:List En) (layer:Int):Nat→List En
 |0=> []
 |i+1=>rsL names gs l layer i++if (l.getD i default).layer≤layer then [j8 names gs l layer (l.getD i default)] else []
def rsR (names:List Str) (gs:List Gr) (l:List En) (layer:Int):List En:=if rsE names gs l=0 then rsL names gs l layer l.length else []
theorem qsz {names:List Str} {gs:List Gr} {e:En} {x:Int} (hx:x∈vsL names gs e):0≤x∧x<names.length:=by
 by_cases h:vsE names gs e=0
 ·rw [qp0 h]at hx
  have ht:(kf names gs (noS e) e.vars.length).2=false:=by
   unfold vsE at h
   split at h
   ·cases h
   ·split at h
    ·rename_i h1;exact absurd h h1
    ·unfold vsC at h
     rw [qaa]at h
     cases hb:(kf names gs (noS e) e.vars.length).2 with
     |false=>rfl
     |true=>rw [hb]at h;cases h
  rcases (qp5 names gs (noS e) _ ht x).1 hx with h1|⟨j,_,h1⟩
  ·rw [show (noS e).sup= []from rfl,qbA]at h1
   cases h1
  ·exact zJ qbz.1 x h1
 ·unfold vsL at hx
  rw [if_neg h]at hx
  cases hx
theorem qkj {names:List Str} {gs:List Gr} {l:List En} {layer:Int} {e:En} {x:Int}: ∀k,x∈mrL names gs l layer e k→0≤x∧x<names.length:=by
 intro k
 induction k with
 |zero=>intro h;cases h
 |succ k ih=>
  intro h
  unfold mrL at h
  rw [List.mem_append]at h
  rcases h with h|h
  ·exact ih h
  ·split at h
   ·exact qsz h
   ·cases h
theorem qc3 (names:List Str) (gs:List Gr) (l:List En) (layer:Int) (e:En): ∀k,(mrL names gs l layer e k).length≤k*32:=by
 intro k
 induction k with
 |zero=>exact Nat.le_refl _
 |succ k ih=>
  unfold mrL
  rw [List.length_append]
  split
  ·have:(vsL names gs (l.getD k default)).length≤32:=by
    unfold vsL
    split
    ·exact qF _ _
    ·exact Nat.zero_le _
   omega
  ·rw [List.length_nil];omega
theorem qst (names:List Str) (gs:List Gr) (l:List En) (layer:Int) (e:En):qmn (qlz (mrA names gs l layer e++zI names gs e.sup))=qlQ names gs l layer e:=
 qqA _ _ fun x hx=>(List.mem_append.1 hx).elim (fun h=>qkj _ h) (fun h=>zJ qbz.1 x h)
theorem qlR (names:List Str) (gs:List Gr) (l:List En) (layer:Int) (e:En):kL names.length (qlQ names gs l layer e)=0:=qke _ _
theorem qe3 (names:List Str) (gs:List Gr) (l:List En) (layer:Int): ∀k,(rsL names gs l layer k).length≤k:=by
 intro k
 induction k with
 |zero=>exact Nat.le_refl _
 |succ k ih=>
  unfold rsL
  rw [List.length_append]
  split
  ·rw [List.length_singleton];omega
  ·rw [List.length_nil];omega
end RC
end
section
open Go Go.Proofs AF
def qrr:List Nat:= [93,74,79,120,147,148,161,170,63,105,131,64,31,32,57,58,29,30,61]
def qwR:C:=
 ((C.ops [ON 8 (.nilo 0 6 49) [],MC 9 (i6 0)]).seq (((C.ops [MV 25 0,MV 26 1,O2 27 (.call 59 true) 25 26,BC 28 .neq 27 (i6 0)]).seq (C.cond (.t 28) ((C.ops [ON 8 (.nilo 0 6 49)
 [],MC 9 (i6 1)]).seq C.ret) C.skip)).seq (((C.ops [MV 29 2,O1 30 .len 29,BC 31 .gtr 30 (i6 4096)]).seq (C.cond (.t 31) ((C.ops [ON 8 (.nilo 0 6 49) [],MC 9 (i6 4)]).seq C.ret)
 C.skip)).seq ((C.ops [ON 10 (.nilo 1 1 37) [],ON 11 (.nilo 2 1 37) []]).seq (((C.ops [MV 32 2,O1 33 .len 32,MC 34 (i6 0)]).seq (C.block 0 ((C.ops [BI 35 .lss 34 33]).seq
 ((C.cond (.t 35) C.skip (C.exit 0)).seq ((C.block 1 ((C.ops [O2 36 (.idxA 6) 32 34,O1 37 (.load (some 6)) 36,⟨some 13,none,.alloc 3 49 [i6 0,i6 0,i6 0,.bool false,.nl,
 .nl],[]⟩,ST 6 13 37]).seq ((C.ops [MV 39 0,MV 40 1,O1 41 (.load (some 6)) 13,ON 42 (.call 60 true) [.t 39,.t 40,.t 41],MV 38 42,O1 43 (.ext 0) 38,O1 44 (.ext 1) 38,MV 14
 43,MV 15 44]).seq (((C.ops [MV 45 15,BC 46 .neq 45 (i6 0)]).seq (C.cond (.t 46) ((C.ops [MV 47 15,ON 8 (.nilo 0 6 49) [],MV 9 47]).seq C.ret) C.skip)).seq ((C.ops [MV 49 0,MV
 50 1,O1 51 (.fldA 4) 13,LD 52 51,ON 53 (.call 62 true) [.t 49,.t 50,.t 52],MV 48 53,O1 54 (.ext 0) 48,O1 55 (.ext 1) 48,MV 16 54,MV 15 55]).seq (((C.ops [MV 56 15,BC 57
 .neq 56 (i6 0)]).seq (C.cond (.t 57) ((C.ops [MV 58 15,ON 8 (.nilo 0 6 49) [],MV 9 58]).seq C.ret) C.skip)).seq (C.ops [MV 59 10,MV 60 14,⟨some 61,none,.bslc 4 1 1 37 [.nl]
 [(0,1)],[.t 60]⟩,O2 62 (.app 5 1 37 24) 59 61,MV 63 11,MV 64 16,⟨some 65,none,.bslc 6 1 1 37 [.nl] [(0,1)],[.t 64]⟩,O2 66 (.app 7 1 37 24) 63 65,MV 10 62,MV 11
 66]))))))).seq (C.ops [BC 67 .add 34 (i6 1),MV 34 67])))).loop)).seq ((C.ops [ON 17 (.nilo 8 6 49) []]).seq (((C.ops [MV 68 2,O1 69 .len 68,MC 70 (i6 0)]).seq (C.block 2 ((C.ops
 [BI 71 .lss 70 69]).seq ((C.cond (.t 71) C.skip (C.exit 2)).seq ((C.block 3 ((C.ops [MV 72 70,O2 73 (.idxA 6) 68 70,O1 74 (.load (some 6)) 73,⟨some 19,none,.alloc 9 49 [i6 0,
 i6 0,i6 0,.bool false,.nl,.nl],[]⟩,MV 18 72,ST 6 19 74]).seq (((C.ops [O1 75 (.fldA 0) 19,LD 76 75,MV 77 3,BI 78 .gtr 76 77]).seq (C.cond (.t 78) (C.exit 3) C.skip)).seq
 (((C.ops [O1 79 (.fldA 3) 19,LD 80 79]).seq (C.cond (.t 80) ((C.ops [ON 20 (.nilo 10 1 3) []]).seq (((C.ops [MV 81 2,O1 82 .len 81,MC 83 (i6 0)]).seq (C.block 4 ((C.ops [BI 84
 .lss 83 82]).seq ((C.cond (.t 84) C.skip (C.exit 4)).seq ((C.block 5 ((C.ops [MV 85 83,O2 86 (.idxA 6) 81 83,O1 87 (.load (some 6)) 86,⟨some 22,none,.alloc 11 49 [i6 0,i6 0,
 i6 0,.bool false,.nl,.nl],[]⟩,MV 21 85,ST 6 22 87]).seq ((C.ops [O1 88 (.fldA 0) 22,LD 89 88,MV 90 3,BI 91 .gtr 89 90,MV 92 91,P1 93 92 true (.fldA 1) 22,P1 94 92 true
 (.load none) 93,P1 95 92 true (.fldA 1) 19,P1 96 92 true (.load none) 95,P2 97 92 true (.bin .eql) 94 96,PF 98 92 97,MV 99 98,P1 100 99 true (.fldA 2) 22,P1 101 99 true
 (.load none) 100,P1 102 99 true (.fldA 2) 19,P1 103 99 true (.load none) 102,P2 104 99 true (.bin .eql) 101 103,PF 105 99 104]).seq (C.cond (.t 105) (C.ops [MV 106 20,MV 107
 10,MV 108 21,O2 109 (.idxA 1) 107 108,LD 110 109,O2 111 (.app 12 1 3 8) 106 110,MV 20 111]) C.skip)))).seq (C.ops [BC 112 .add 83 (i6 1),MV 83 112])))).loop)).seq ((C.ops [MV
 113 20,O1 114 .len 113,BC 115 .gtr 114 (i6 0)]).seq (C.cond (.t 115) ((C.ops [MV 116 20,MV 117 11,MV 118 18,O2 119 (.idxA 1) 117 118,LD 120 119,O2 121 (.app 13 1 3 8) 116
 120,MV 20 121]).seq ((C.ops [MV 122 20,O1 123 (.call 63 false) 122]).seq ((C.ops [MV 125 0,MV 126 1,MV 127 20,O1 128 (.call 64 false) 127,ON 129 (.call 61 false) [.t 125,.t
 126,.t 128],MV 124 129,O1 130 (.ext 0) 124,O1 131 (.ext 1) 124,MV 23 130,MV 24 131]).seq (((C.ops [MV 132 24,BC 133 .neq 132 (i6 0)]).seq (C.cond (.t 133) ((C.ops [MV 134
 24,ON 8 (.nilo 0 6 49) [],MV 9 134]).seq C.ret) C.skip)).seq (C.ops [MV 135 23,O1 136 (.fldA 4) 19,ST 1 136 135]))))) C.skip)))) C.skip)).seq (C.ops [MV 137 17,O1 138 (.load
 (some 6)) 19,⟨some 139,none,.bslc 14 6 1 49 [i6 0,i6 0,i6 0,.bool false,.nl,.nl] [(0,6)],[.t 138]⟩,O2 140 (.app 15 6 49 80) 137 139,MV 17 140]))))).seq (C.ops [BC 141
 .add 70 (i6 1),MV 70 141])))).loop)).seq ((C.ops [MV 142 17,MV 8 142,MC 9 (i6 0)]).seq
 C.ret))))))))
theorem quS:qM Tryz.prog 34 143 16 [RV.tmp 8,RV.tmp 9] qwR:=fi Tryz.f34 [8,10,11,13,61,62,65,66,17,19,20,22,111,121,139,140] qrr [] (by kernel_rfl) (by kernel_rfl) (by kernel_rfl) (by kernel_rfl)
end
