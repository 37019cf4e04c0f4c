import Derived.Test.YthlgfjbghnildaaGreatDoorK10
import Derived.Test.YthlgfjbghnildaaGreatDoorK1
import Derived.Test.YthlgfjbghnildaaGreatDoorK3
import Derived.Test.YthlgfjbghnildaaGreatDoorK6
import Derived.Test.YthlgfjbghnildaaGreatDoorProg
set_option linter.all false
set_option linter.unusedSimpArgs false
set_option linter.unusedVariables false
set_option linter.unusedSectionVars false
set_option maxRecDepth 100000
section
open Go Go.Proofs AF HY LN
namespace AF
theorem Wk.fzCell {t:List AV} {h:List AObj} {j k i v:Nat} {ty:TypeId} {cs:List AV} {c c':AV} (hj:qA j h=some (.mem v ty cs)) (hi:cs[i]? =some c) (hs:qD h k=true) (hne:j≠k) (hc:VLe (frz (fun b=> [k].contains b) h 8 c) c'):
  Wk t h t (qB j (qB k h (.emp (qs (qA k h)+1))) (.mem v ty (cs.set i c'))):=by
 intro N w σ a H
 have hs':zN [k] h=true:=by simp [zN,hs]
 obtain ⟨σ',g1,g2,g3,g4⟩:=qbZ [k] H.hr hs'
 have hn:j∉ [k]:=by simp [hne]
 have frzv: ∀c x,VR w σ c x→VR w σ' (frz (fun b=> [k].contains b) h 8 c) x:=fun c x hx=>
  qfX H.hr (fun b hb=>(g4 b hb).elim fun j ⟨o,h1,h2,h3⟩=>⟨j,o,by simpa using h1,h2,h3⟩) (fun j o hj ho=>g3 j o (by simpa using hj) ho) 8 hx
 have hjl:j<σ.length:=by rw [H.hr.len];exact zM hj
 have ho:=q9 hjl
 obtain ⟨m1,m2,b,arr,m3,m4,m5,m6,m7,m8⟩:=H.hr.obj j _ _ hj ho
 have q:=g1.recell (cs':=cs.set i c') ((qnK hn).trans hj) (g3 j _ hn ho) m3 m4 m5 (by simpa using m6) (fun n x hn hx=>m7 n x (by simpa using hn) hx) (fun n d x hd hx=>by
  rw [List.getElem?_set]at hd
  split at hd
  ·rename_i e
   subst e
   split at hd
   ·cases hd;exact hc _ _ _ (frzv _ x (m8 i _ x hi hx))
   ·cases hd
  ·exact (m8 n d x hd hx).ext g2)
 exact ⟨σ',⟨q,H.sz,fun n d x hd hx=>(H.tm n d x hd hx).ext g2,qah g2 H.df⟩,g2⟩
theorem jv {h:List AObj} {k ve sz off n:Nat}:frz (fun b=> [k].contains b) h 8 (.osl k ve sz off n)=qdr (qA k h) ve sz off n (rei (fun b=> [k].contains b) h 7):=by
 rw [frz_osl,if_pos (by simp),rei_osl,if_pos (by simp)]
theorem qvM {f:Nat→AV} {m j:Nat} (h:j<m):((((List.range m).map f).drop j).take 1)= [f j]:=by
 rw [←List.map_drop,List.drop_eq_getElem_cons (by simpa using h),List.map_cons,List.take_succ_cons,List.take_zero]
 simp
theorem qbJ {v m n:Nat} {ty:TypeId} {f:Nat→AV} {g:AV→AV} (hg: ∀k,g (f k)=f k) (hn:n=m):VLe (qdr (some (zp v ty ((List.range m).map f))) v 1 0 n g) (.sl m fun k=> [f k]):=by
 subst hn
 by_cases h:n=0
 ·subst h
  show VLe (qdr (some (.emp v)) v 1 0 0 g) _
  rw [slOf_emp,if_pos rfl]
  exact zQ
 ·have e0:zp v ty ((List.range n).map f)= .mem v ty ((List.range n).map f):=jj (by simpa using h)
  rw [e0,slOf_mem,if_pos ⟨rfl,by simp⟩]
  refine VLe.sl_eq rfl (fun i hi=> ?_)
  simp only [Nat.zero_add,Nat.mul_one]
  rw [qvM hi,List.map_cons,List.map_nil,hg]
end AF
namespace RC
set_option maxHeartbeats 8000000
theorem qhs (L:List Gr):(qv L).solid=true:=rfl
theorem qgC (L:List Gr):(qv L).cells= [qv L]:=rfl
theorem qhr (L:List En):(qz L).solid=true:=rfl
theorem qgB (L:List En):(qz L).cells= [qz L]:=rfl
theorem qlr (names:List Str) (gs:List Gr) (e:En):(stV names gs e).solid=true:=rfl
theorem qje (names:List Str) (gs:List Gr) (e:En):(stV names gs e).cells= [stV names gs e]:=rfl
theorem qlp (names:List Str) (gs:List Gr) (L:List En):(msV names gs L).solid=true:=rfl
theorem qjc (names:List Str) (gs:List Gr) (L:List En):(msV names gs L).cells= [msV names gs L]:=rfl
theorem qe9 (L:List Int):(ql L).solid=true:=rfl
theorem qeD (L:List Int):(ql L).cells= [ql L]:=rfl
attribute [go_sem] qhs qgC qhr qgB qlr qje qlp qjc qe9 qeD
theorem qzW (h:List AObj):qm Tryz.prog 147 [qz [],.int .i64 0,.int .i64 0,.fn (.func 80) [] []] h (.tup []) h:=by
 refine acO qpA ?_
 simp (disch:=omega) only [qqo,List.replicate,go_sem]
 repeat' first
  |((first|apply qc|apply qb);exact rvk;simp only [go_sem];first|exact VLe.refl _|apply qd|apply qa|apply qe|skip)
  |with_reducible first|refine And.intro ?_ ?_|intro _
 all_goals try exact clz
 refine qo (T:=fun _:Unit=>qI 53 [(0,qz []),(1,.int .i64 0),(2,.int .i64 0),(3,.fn (.func 80) [] []),(8,.int .i64 1)]) (H:=fun _=>h) (inv:=fun _=>True) (m:=fun _=>0) () trivial (Wk.temps ?_) ?_
 ·(simp only [List.replicate,go_sem,qj,qh,qg,qi];try (repeat' first|(with_reducible refine And.intro ?_ ?_)|(apply qd;omega)|(apply qa;rfl)|exact VLe.refl _))
 rintro _ _ K hK
 have q:((1:Int)<0)=False:=eq_false (by omega)
 simp (disch:=omega) only [List.replicate,q,go_sem]
 repeat' first
  |((first|apply qc|apply qb);exact rvk;simp only [go_sem];first|exact VLe.refl _|apply qd|apply qa|apply qe|skip)
  |with_reducible first|refine And.intro ?_ ?_|intro _
 all_goals try exact clz
theorem qAj (h:List AObj):qm Tryz.prog 120 [qz [],.int .i64 0,.fn (.func 80) [] []] h (.tup []) h:=by
 have c147:=fun h=>qzW h
 have q1:((20:Int)≤0)=False:=eq_false (by omega)
 have q2:((20:Int)<0)=False:=eq_false (by omega)
 refine acO qpw ?_
 simp (disch:=omega) only [qqk,List.replicate,go_sem]
 repeat' first
  |((first|apply qc|apply qb);exact rvk;simp only [go_sem];first|exact VLe.refl _|apply qd|apply qa|apply qe|skip)
  |with_reducible first|refine And.intro ?_ ?_|intro _
 all_goals try exact clz
 refine qo (T:=fun _:Unit=>qI 63 [(0,qz []),(1,.int .i64 0),(2,.fn (.func 80) [] []),(6,.int .i64 20),(7,.int .i64 0),(8,.int .i64 20)]) (H:=fun _=>h) (inv:=fun _=>True) (m:=fun _=>0) () trivial (Wk.temps ?_) ?_
 ·(simp only [List.replicate,go_sem,qj,qh,qg,qi];try (repeat' first|(with_reducible refine And.intro ?_ ?_)|(apply qd;omega)|(apply qa;rfl)|exact VLe.refl _))
 rintro _ _ K hK
 simp (disch:=omega) only [List.replicate,q1,go_sem]
 repeat' first
  |((first|apply qc|apply qb);exact rvk;simp only [go_sem];first|exact VLe.refl _|apply qd|apply qa|apply qe|skip)
  |with_reducible first|refine And.intro ?_ ?_|intro _
 all_goals try exact clz
 refine zh (c147 _) (by exact flk) ?_
 simp (disch:=omega) only [go_sem]
 repeat' first
  |((first|apply qc|apply qb);exact rvk;simp only [go_sem];first|exact VLe.refl _|apply qd|apply qa|apply qe|skip)
  |with_reducible first|refine And.intro ?_ ?_|intro _
 all_goals try exact clz
 refine qo (T:=fun _:Unit=>qI 63 [(0,qz []),(1,.int .i64 0),(2,.fn (.func 80) [] []),(6,.int .i64 20)]) (H:=fun _=>h) (inv:=fun _=>True) (m:=fun _=>0) () trivial (Wk.temps ?_) ?_
 ·(simp only [List.replicate,go_sem,qj,qh,qg,qi];try (repeat' first|(with_reducible refine And.intro ?_ ?_)|(apply qd;omega)|(apply qa;rfl)|exact VLe.refl _))
 rintro _ _ K2 hK2
 simp (disch:=omega) only [List.replicate,q2,go_sem]
 repeat' first
  |((first|apply qc|apply qb);exact rvk;simp only [go_sem];first|exact VLe.refl _|apply qd|apply qa|apply qe|skip)
  |with_reducible first|refine And.intro ?_ ?_|intro _
 all_goals try exact clz
theorem qAh (h:List AObj):qm Tryz.prog 79 [qz [],.fn (.func 80) [] []] h (.tup []) h:=by
 have c120:=fun h=>qAj h
 have zl: ∀g,valL g .len [qz []]= .int .i64 0:=fun _=>rfl
 have zo: ∀g,okL g .len [qz []]=True:=fun _=>eq_true trivial
 refine acO qu4 ?_
 simp (disch:=omega) only [qw3,List.replicate,zl,zo,go_sem]
 repeat' first
  |((first|apply qc|apply qb);exact rvk;simp only [go_sem];first|exact VLe.refl _|apply qd|apply qa|apply qe|skip)
  |with_reducible first|refine And.intro ?_ ?_|intro _
 all_goals try exact clz
 refine zh (c120 _) (by exact flk) ?_
 simp (disch:=omega) only [go_sem]
 repeat' first
  |((first|apply qc|apply qb);exact rvk;simp only [go_sem];first|exact VLe.refl _|apply qd|apply qa|apply qe|skip)
  |with_reducible first|refine And.intro ?_ ?_|intro _
 all_goals try exact clz
def stC (names:List Str) (gs:List Gr) (e:En) (j:Nat):List AV:=(List.range j).map fun k=>ql (zI names gs (e.vars.getD k default).sigla)
theorem qoI (names:List Str) (gs:List Gr) (e:En) (j:Nat):stC names gs e j++ [ql (zI names gs (e.vars.getD j default).sigla)]=stC names gs e (j+1):=by unfold stC;rw [List.range_succ,List.map_append];rfl
theorem qsm (names:List Str) (gs:List Gr) (e:En) (j:Nat):(stC names gs e j).length=j:=by simp [stC]
def msC (names:List Str) (gs:List Gr) (L:List En) (i:Nat):List AV:=(List.range i).map fun k=>stV names gs (L.getD k default)
theorem qnN (names:List Str) (gs:List Gr) (L:List En) (i:Nat):msC names gs L i++ [stV names gs (L.getD i default)]=msC names gs L (i+1):=by unfold msC;rw [List.range_succ,List.map_append];rfl
theorem qrA (names:List Str) (gs:List Gr) (L:List En) (i:Nat):(msC names gs L i).length=i:=by simp [msC]
theorem qpK (names:List Str) (gs:List Gr) (L:List En) (i:Nat) (c:AV):msC names gs L i++ [c]≠ []:=by simp
theorem qgg {v n:Nat} {ty:TypeId} {L:List En} {fz:Nat→Bool} {h:List AObj} {d:Nat} (hn:n=L.length):VLe (qdr (some (.mem v ty (zA L))) v 6 0 n (rei fz h (d+1))) (qz L):=by
 subst hn
 rw [slOf_mem,if_pos ⟨rfl,by rw [zV];omega⟩]
 refine VLe.sl_eq rfl (fun i hi=> ?_)
 simp only [Nat.zero_add]
 rw [qbx hi]
 rfl
def rdV (names:List Str) (gs:List Gr) (t:List Str) (l:List En):AV:=if rdE names gs t l=0 then .agg (edL names gs t (ja l)) else .agg [.undef,.undef,.undef,.undef,.undef]
theorem qcz {names:List Str} {gs:List Gr} {t:List Str} {l:List En} (h:rdE names gs t l=0):rdV names gs t l= .agg (edL names gs t (ja l)):=if_pos h
theorem qbd {names:List Str} {gs:List Gr} {t:List Str} {l:List En} (h:rdE names gs t l≠0):rdV names gs t l= .agg [.undef,.undef,.undef,.undef,.undef]:=if_neg h
def qcY (F:List En):Nat→List AV
 |0=> [.int .i64 0,.int .i64 (-1),.int .i64 (-1),.bool false,.nl,.nl]
 |i+1=>enC (F.getD i default)
theorem qap (F:List En) (i n:Nat): ∀c∈qcY F i,zE n c=true:=by
 intro c hc
 cases i with
 |zero=>
  simp only [qcY,List.mem_cons,List.not_mem_nil,or_false]at hc
  rcases hc with rfl|rfl|rfl|rfl|rfl|rfl<;>rfl
 |succ i=>
  simp only [qcY,enC,List.mem_cons,List.not_mem_nil,or_false]at hc
  rcases hc with rfl|rfl|rfl|rfl|rfl|rfl<;>rfl
structure RSt where
 i:Nat
 v:Nat
 O4:AObj
 O5:AObj
 O6:AObj
 O7:AObj
 O9:AObj
def NL5:List AV:= [.nl,.nl,.nl,.nl,.nl]
set_option maxHeartbeats 16000000 in
theorem qx6 (names:List Str) (gs:List Gr) (t:List Str) (l:List En) (h:List AObj) (hc:CSz names gs t l) (hp:qaF SG h):
  qm Tryz.prog 48 [strs names,qv gs,strs t,qz l] h (.tup [rdV names gs t l,.int .i64 (rdE names gs t l)]) h:=by
 have c59:=fun h=>sgP names gs h hc.hz
 have c78:=fun i l'=>qzw names gs t (l.getD i default) (h++l') hc.hz hc.ht (hc.he i) (hp.app l')
 have hln:=hc.ln
 have hnn:=hc.nn
 have qwF: ∀(a b c d e:AV) (n:Int),VLe (.tup [.agg [a,b,c,d,e],.int .i64 n]) (.tup [.agg [.undef,.undef,.undef,.undef,.undef],.int .i64 n]):=fun a b c d e n=>by
  have u: ∀a,VLe a .undef:=fun a w σ x _=> .imm .undef
  exact qK ⟨VLe.agg ⟨u _,u _,u _,u _,u _,trivial⟩,VLe.refl _,trivial⟩
 by_cases g0:sgE names gs=0
 case neg=>
  have hR:rdE names gs t l=1:=by unfold rdE;rw [if_pos g0]
  rw [qbd (by rw [hR];decide),hR]
  have k0:(sgE names gs=0)=False:=eq_false g0
  refine acO quW ?_
  simp (disch:=omega) only [qwV,List.replicate,k0,go_sem]
  repeat' first
   |((first|refine cA (c59 _) ?_ ?_|refine cG (fun e=>c59 _) ?_ ?_|refine cU (fun _=>c59 _) ?_ ?_);(next=>exact flk);simp (disch:=omega) only [k0,go_sem])
   |((first|apply qc|apply qb);exact rvk;simp only [go_sem];first|exact VLe.refl _|apply qd|apply qa|apply qe|skip)
   |with_reducible first|refine And.intro ?_ ?_|intro _
  all_goals try exact clz
  exact qwF _ _ _ _ _ _
 rw [g0]at c59
 have hR:rdE names gs t l=if kQ (fun i=>qcr names gs t (l.getD i default)) 0 l.length≠0 then kQ (fun i=>qcr names gs t (l.getD i default)) 0 l.length else if ky names gs l=true then 17 else 0:=by
  unfold rdE
  rw [if_neg (fun hc=>hc g0),if_neg (by omega)]
 have k1:((4096:Int)<l.length)=False:=eq_false (by omega)
 refine acO quW ?_
 unfold qwV
 refine jn (jn (jn (jn (jn (jn (jn (qsb (fun tt hh=> ∃O3 O4 O5 O6 O7 O8 O9 O10,(∀i,i<l.length→qcr names gs t (l.getD i default)=0)∧Wk tt hh (qI 131 [(0,strs names),(8,.op h.length 1 0),(9,.op (h.length+1) 1 0),(10,.op (h.length+2) 1 0)])
  (h++ [.mem 1 71 NL5,.mem 1 29 [.int .i64 0],.mem 1 71 (edL names gs t (ja l)),O3,O4,O5,O6,O7,O8,O9,O10,.emp 0,.emp 0])) ?hx ?hy)))))))
 case hx=>
  intro KK hKK
  simp (disch:=omega) only [List.replicate,qz,k1,go_sem]
  repeat' first
   |((first|refine cA (c59 _) ?_ ?_|refine cG (fun e=>c59 _) ?_ ?_|refine cU (fun _=>c59 _) ?_ ?_);(next=>exact flk);simp (disch:=omega) only [qz,k1,go_sem])
   |((first|apply qc|apply qb);exact rvk;simp only [go_sem];first|exact VLe.refl _|apply qd|apply qa|apply qe|skip)
   |with_reducible first|refine And.intro ?_ ?_|intro _
  all_goals try exact clz
  refine qo (T:=fun i:Nat×AObj=>qI 131 [(0,strs names),(1,qv gs),(2,strs t),(3,qz l),(8,.op h.length 1 0),(9,.op (h.length+1) 1 0),(10,.op (h.length+2) 1 0),(37,qz l),(38,.int .i64 l.length),(39,.int .i64 i.1)])
   (H:=fun i=>h++ [.mem 1 71 NL5,.mem 1 29 [.int .i64 0],.mem 1 71 [strs names,qv gs,strs t,.nl,.nl],i.2,.emp 0,.emp 0,.emp 0,.emp 0,.emp 0,.emp 0,.emp 0,.emp 0,.emp 0])
   (inv:=fun i=>i.1≤l.length∧(∀j,j<i.1→qcr names gs t (l.getD j default)=0)∧qD [i.2] 0=true) (m:=fun i=>l.length-i.1) (0,.emp 0) ⟨Nat.zero_le _,fun j hj=>by omega,rfl⟩ (Wk.temps ?_) ?_
  ·(simp only [qz,List.replicate,go_sem,qj,qh,qg,qi];try (repeat' first|(with_reducible refine And.intro ?_ ?_)|(apply qd;omega)|(apply qa;rfl)|exact VLe.refl _))
  rintro ⟨i,O⟩ ⟨i1,i2,i3⟩ K hK
  simp only at i1 i2 i3 hK
  have i3': ∀m,qD (O::m) 0=true:=fun _=>i3
  by_cases hi:i<l.length
  ·have k2:((i:Int)<l.length)=True:=eq_true (by omega)
   have hE:=qU (f:=fun i=>qcr names gs t (l.getD i default)) hi i2
   have c78:=c78 i
   obtain ⟨x,hx⟩: ∃x,x=l.getD i default:=⟨_,rfl⟩
   have ex:=hx.symm
   simp only [ex]at hE c78
   simp only [enC]at c78
   by_cases g1:qcr names gs t x=0
   ·rw [g1]at c78
    simp (disch:=omega) only [List.replicate,qz,enC,NL5,k2,ex,i3',go_sem]
    repeat' first
     |((first|refine cA (c78 _) ?_ ?_|refine cG (fun e=>c78 _) ?_ ?_|refine cU (fun _=>c78 _) ?_ ?_);(next=>exact flk);simp (disch:=omega) only [qz,enC,NL5,k2,ex,i3',go_sem])
     |((first|apply qc|apply qb);exact rvk;simp only [go_sem];first|exact VLe.refl _|apply qd|apply qa|apply qe|skip)
     |with_reducible first|refine And.intro ?_ ?_|intro _
    all_goals try exact clz
    refine hK _ _ (i+1,.mem (qs (some O)+1) 49 (enC x)) ⟨hi,fun j hj=> ?_,rfl⟩ (by simp only;omega) (Wk.temps ?_)
    ·by_cases e:j=i
     ·subst e;rw [ex];exact g1
     ·exact i2 j (by simp only at hj;omega)
    ·(simp only [qz,List.replicate,go_sem,qj,qh,qg,qi];try (repeat' first|(with_reducible refine And.intro ?_ ?_)|(apply qd;omega)|(apply qa;rfl)|exact VLe.refl _))
   ·have k3:(qcr names gs t x=0)=False:=eq_false g1
    have hR2:rdE names gs t l=qcr names gs t x:=by rw [hR,if_pos (by rw [hE g1];exact g1),hE g1]
    rw [qbd (by rw [hR2];exact g1),hR2]
    simp (disch:=omega) only [List.replicate,qz,enC,NL5,k2,ex,i3',go_sem]
    repeat' first
     |((first|refine cA (c78 _) ?_ ?_|refine cG (fun e=>c78 _) ?_ ?_|refine cU (fun _=>c78 _) ?_ ?_);(next=>exact flk);simp (disch:=omega) only [qz,enC,NL5,k2,ex,i3',k3,go_sem])
     |((first|apply qc|apply qb);exact rvk;simp only [go_sem];first|exact VLe.refl _|apply qd|apply qa|apply qe|skip)
     |with_reducible first|refine And.intro ?_ ?_|intro _
    all_goals try exact clz
    exact qwF _ _ _ _ _ _
  have hi2: ∀i,i<l.length→qcr names gs t (l.getD i default)=0:=fun j hj=>i2 j (by omega)
  have k2:((i:Int)<l.length)=False:=eq_false (by omega)
  by_cases l0:l= []
  ·subst l0
   have c31:=fun h=>qzB h
   have c79:=fun h=>qAh h
   have zl: ∀g,valL g .len [qz []]= .int .i64 0:=fun _=>rfl
   have zo: ∀g,okL g .len [qz []]=True:=fun _=>eq_true trivial
   simp (disch:=omega) only [List.replicate,NL5,k2,i3',zl,zo,go_sem]
   repeat' first
    |((first|apply qc|apply qb);exact rvk;simp only [go_sem];first|exact VLe.refl _|apply qd|apply qa|apply qe|skip)
    |with_reducible first|refine And.intro ?_ ?_|intro _
   all_goals try exact clz
   refine zh (c31 _) (by exact flk) ?_
   simp (disch:=omega) only [zl,zo,go_sem]
   repeat' first
    |((first|apply qc|apply qb);exact rvk;simp only [go_sem];first|exact VLe.refl _|apply qd|apply qa|apply qe|skip)
    |with_reducible first|refine And.intro ?_ ?_|intro _
   all_goals try exact clz
   refine zh (c79 _) (by exact flk) ?_
   simp (disch:=omega) only [zl,zo,go_sem]
   repeat' first
    |((first|apply qc|apply qb);exact rvk;simp only [go_sem];first|exact VLe.refl _|apply qd|apply qa|apply qe|skip)
    |with_reducible first|refine And.intro ?_ ?_|intro _
   all_goals try exact clz
   refine ⟨_,_,Wk.refl _ _,?_⟩
   simp (disch:=omega) only [zl,zo,go_sem]
   repeat' first
    |((first|apply qc|apply qb);exact rvk;simp only [go_sem];first|exact VLe.refl _|apply qd|apply qa|apply qe|skip)
    |with_reducible first|refine And.intro ?_ ?_|intro _
   all_goals try exact clz
   refine qo (T:=fun _:Unit=>qI 131 [(0,strs names),(8,.op h.length 1 0),(9,.op (h.length+1) 1 0),(10,.op (h.length+2) 1 0),(61,.int .i64 0),(62,.int .i64 0)])
    (H:=fun _=>h++ [.mem 1 71 NL5,.mem 1 29 [.int .i64 0],.mem 1 71 [strs names,qv gs,strs t,qz [],.nl],O,.emp 0,.emp 0,.emp 0,.emp 0,.emp 0,.emp 0,.emp 0,.emp 0,.emp 0])
    (inv:=fun _=>True) (m:=fun _=>0) () trivial (Wk.temps ?_) ?_
   ·(simp only [List.replicate,go_sem,qj,qh,qg,qi];try (repeat' first|(with_reducible refine And.intro ?_ ?_)|(apply qd;omega)|(apply qa;rfl)|exact VLe.refl _))
   rintro _ _ K2 hK2
   have k3:((0:Int)<0)=False:=eq_false (by omega)
   simp (disch:=omega) only [List.replicate,k3,go_sem]
   repeat' first
    |((first|apply qc|apply qb);exact rvk;simp only [go_sem];first|exact VLe.refl _|apply qd|apply qa|apply qe|skip)
    |with_reducible first|refine And.intro ?_ ?_|intro _
   all_goals try exact clz
   refine hKK _ _ ⟨O,.emp 0,.emp 0,.emp 0,.emp 0,.emp 0,.emp 0,.emp 0,hi2,Wk.trans (Wk.cells (j:=h.length+2) (v:=1) (ty:=71) (cs:= [strs names,qv gs,strs t,qz [],.nl]) (cs':=edL names gs t (ja [])) ?w1 ?w2) ?w3⟩
   case w1=>simp only [go_sem]
   case w2=>exact ⟨VLe.refl _,VLe.refl _,VLe.refl _,VLe.refl _,zQ,trivial⟩
   case w3=>
    simp only [go_sem]
    refine Wk.temps ?_
    (simp only [List.replicate,qz,go_sem,qj,qh,qg,qi];try (repeat' first|(with_reducible refine And.intro ?_ ?_)|(apply qd;omega)|(apply qa;rfl)|exact VLe.refl _))
  ·have hpos:=List.length_pos_iff.2 l0
   simp (disch:=omega) only [List.replicate,NL5,k2,i3',go_sem]
   repeat' first
    |((first|apply qc|apply qb);exact rvk;simp only [go_sem];first|exact VLe.refl _|apply qd|apply qa|apply qe|skip)
    |with_reducible first|refine And.intro ?_ ?_|intro _
   all_goals try exact clz
   refine zh (qzA l _ (h.length+3) (by simp only [go_sem,i3']) l0 (by omega)) (by exact flk) ?_
   simp (disch:=omega) only [NL5,go_sem]
   repeat' first
    |((first|apply qc|apply qb);exact rvk;simp only [go_sem];first|exact VLe.refl _|apply qd|apply qa|apply qe|skip)
    |with_reducible first|refine And.intro ?_ ?_|intro _
   all_goals try exact clz
   obtain ⟨w,hw⟩: ∃w,w=qs (some O)+1:=⟨_,rfl⟩
   simp only [←hw]
   refine zh (qAg l (h.length+3) w 49 _ (by simp only [go_sem]) (by omega) hpos) (by exact flk) ?_
   simp (disch:=omega) only [go_sem]
   repeat' first
    |((first|apply qc|apply qb);exact rvk;simp only [go_sem];first|exact VLe.refl _|apply qd|apply qa|apply qe|skip)
    |with_reducible first|refine And.intro ?_ ?_|intro _
   all_goals try exact clz
   have hLn:=kG l
   have hLm: ∀i,i<(ja l).length→ ∃j,j<l.length∧(ja l).getD i default=l.getD j default:=fun i hi=>by
    obtain ⟨j,hj,e⟩:=List.getElem_of_mem ((jP l).subset (jg hi))
    exact ⟨j,hj,by rw [←e,gdqA,q9 hj];rfl⟩
   obtain ⟨L,hL⟩: ∃L,L=ja l:=⟨_,rfl⟩
   rw [←hL]at hLn
   simp only [←hL]at hLm hKK ⊢
   rw [←hLn]
   refine ⟨_,_,Wk.trans (Wk.fzCell (j:=h.length+2) (k:=h.length+3) (i:=3) (v:=1) (ty:=71) (cs:= [strs names,qv gs,strs t,.osl (h.length+3) w 6 0 L.length,.nl]) (c:= .osl (h.length+3) w 6 0 L.length) (c':=qz L) ?w1 rfl ?w2 (by omega) ?w3)
    (Wk.ownNil (j:=h.length+2) (i:=4) (k:=h.length+10) (v:=1) (ty:=71) (cs:= [strs names,qv gs,strs t,qz L,.nl]) (ve:=0) (sz:=1) ?w4 rfl ?w5),?_⟩
   case w1=>simp only [go_sem]
   case w2=>simp only [go_sem]
   case w3=>
    rw [jv,getO_app]
    exact qgg rfl
   case w4=>simp only [go_sem,List.set_cons_succ,List.set_cons_zero]
   case w5=>simp only [go_sem]
   have zl: ∀g,valL g .len [qz L]= .int .i64 L.length:=fun _=>rfl
   have zo: ∀g,okL g .len [qz L]=True:=fun _=>eq_true trivial
   simp (disch:=omega) only [List.set_cons_succ,List.set_cons_zero,zl,zo,go_sem]
   repeat' first
    |((first|apply qc|apply qb);exact rvk;simp only [go_sem];first|exact VLe.refl _|apply qd|apply qa|apply qe|skip)
    |with_reducible first|refine And.intro ?_ ?_|intro _
   all_goals try exact clz
   refine qo (T:=fun s:RSt=>qI 131 [(0,strs names),(1,qv gs),(8,.op h.length 1 0),(9,.op (h.length+1) 1 0),(10,.op (h.length+2) 1 0),(60,qz L),(61,.int .i64 L.length),(62,.int .i64 s.i)])
    (H:=fun s=>h++ [.mem 1 71 NL5,.mem 1 29 [.int .i64 0],.mem 1 71 [strs names,qv gs,strs t,qz L,.osl (h.length+10) s.v 1 0 s.i],.emp (w+1),s.O4,s.O5,s.O6,s.O7,.emp 0,s.O9,zp s.v 91 (msC names gs L s.i),.emp 0,.emp 0])
    (inv:=fun s=>s.i≤L.length∧qD [s.O4] 0=true∧qD [s.O5] 0=true∧qD [s.O6] 0=true∧qD [s.O7] 0=true∧qD [s.O9] 0=true) (m:=fun s=>L.length-s.i) ⟨0,0,.emp 0,.emp 0,.emp 0,.emp 0,.emp 0⟩ ⟨Nat.zero_le _,rfl,rfl,rfl,rfl,rfl⟩ (Wk.temps ?_) ?_
   ·(simp only [List.replicate,go_sem,qj,qh,qg,qi];try (repeat' first|(with_reducible refine And.intro ?_ ?_)|(apply qd;omega)|(apply qa;rfl)|exact VLe.refl _))
   rintro ⟨i,v,O4,O5,O6,O7,O9⟩ ⟨i1,p4,p5,p6,p7,p9⟩ K2 hK2
   simp only at i1 p4 p5 p6 p7 p9 hK2
   have p4': ∀m,qD (O4::m) 0=true:=fun _=>p4
   have p5': ∀m,qD (O5::m) 0=true:=fun _=>p5
   have p6': ∀m,qD (O6::m) 0=true:=fun _=>p6
   have p7': ∀m,qD (O7::m) 0=true:=fun _=>p7
   have p9': ∀m,qD (O9::m) 0=true:=fun _=>p9
   by_cases hi:i<L.length
   ·have k3:((i:Int)<L.length)=True:=eq_true (by omega)
    obtain ⟨jl,jl1,jl2⟩:=hLm i hi
    have hck:=qcN.1 (hi2 jl jl1)
    have hvl:=hc.vl jl
    have hsgl:=hc.sg jl
    have hms:=qnN names gs L i
    have hml:=qrA names gs L i
    rw [←jl2]at hck hvl
    simp only [←jl2]at hsgl
    obtain ⟨x,hx⟩: ∃x,x=L.getD i default:=⟨_,rfl⟩
    have ex:=hx.symm
    rw [ex]at hck hvl hms
    simp only [ex]at hsgl
    have zv: ∀g,valL g .len [qS x.vars]= .int .i64 x.vars.length:=fun _=>rfl
    have zw: ∀g,okL g .len [qS x.vars]=True:=fun _=>eq_true trivial
    simp (disch:=omega) only [List.replicate,qz,enC,NL5,k3,ex,p4',p5',zv,zw,go_sem]
    repeat' first
     |((first|apply qc|apply qb);exact rvk;simp only [go_sem];first|exact VLe.refl _|apply qd|apply qa|apply qe|skip)
     |with_reducible first|refine And.intro ?_ ?_|intro _
    all_goals try exact clz
    refine qo (T:=fun s:RSt=>qI 131 [(0,strs names),(1,qv gs),(8,.op h.length 1 0),(9,.op (h.length+1) 1 0),(10,.op (h.length+2) 1 0),(16,.osl (h.length+5) s.v 1 0 s.i),(60,qz L),(61,.int .i64 L.length),(62,.int .i64 i),(67,qS x.vars),(68,.int .i64 x.vars.length),(69,.int .i64 s.i)])
     (H:=fun s=>h++ [.mem 1 71 NL5,.mem 1 29 [.int .i64 0],.mem 1 71 [strs names,qv gs,strs t,qz L,.osl (h.length+10) v 1 0 i],.emp (w+1),.mem (qs (some O4)+1) 49 (enC x),zp s.v 37 (stC names gs x s.i),s.O6,s.O7,.emp 0,O9,zp v 91 (msC names gs L i),.emp 0,.emp 0])
     (inv:=fun s=>s.i≤x.vars.length∧qD [s.O6] 0=true∧qD [s.O7] 0=true) (m:=fun s=>x.vars.length-s.i) ⟨0,qs (some O5)+1,.emp 0,.emp 0,O6,O7,.emp 0⟩ ⟨Nat.zero_le _,p6,p7⟩ (Wk.temps ?_) ?_
    ·(simp only [List.replicate,qz,go_sem,qj,qh,qg,qi];try (repeat' first|(with_reducible refine And.intro ?_ ?_)|(apply qd;omega)|(apply qa;rfl)|exact VLe.refl _))
    rintro ⟨j,u,Q4,Q5,Q6,Q7,Q9⟩ ⟨j1,q6,q7⟩ K3 hK3
    simp only at j1 q6 q7 hK3
    have q6': ∀m,qD (Q6::m) 0=true:=fun _=>q6
    have q7': ∀m,qD (Q7::m) 0=true:=fun _=>q7
    have hsj:=qoI names gs x j
    have hsl:=qsm names gs x j
    by_cases hj:j<x.vars.length
    ·have k4:((j:Int)<x.vars.length)=True:=eq_true (by omega)
     have c62:=fun h=>qxl names gs (x.vars.getD j default).sigla h hc.hz (by have:=hsgl j;omega)
     rw [hck.ev j hj]at c62
     obtain ⟨va,hva⟩: ∃va,va=x.vars.getD j default:=⟨_,rfl⟩
     have eva:=hva.symm
     simp only [eva]at c62 hsj
     have eT:List.take j (stC names gs x j)=stC names gs x j:=List.take_of_length_le (by omega)
     simp (disch:=omega) only [List.replicate,qS,vaC,k4,eva,q6',q7',Nat.mul_one,go_sem]
     repeat' first
      |((first|refine cA (c62 _) ?_ ?_|refine cG (fun e=>c62 _) ?_ ?_|refine cU (fun _=>c62 _) ?_ ?_);(next=>exact flk);simp (disch:=omega) only [qS,vaC,k4,eva,q6',q7',hsl,eT,Nat.mul_one,go_sem])
      |((first|apply qc|apply qb);exact rvk;simp only [go_sem];first|exact VLe.refl _|apply qd|apply qa|apply qe|skip)
      |with_reducible first|refine And.intro ?_ ?_|intro _
     all_goals try exact clz
     refine hK3 _ _ ⟨j+1,u+1,.emp 0,.emp 0,.mem (qs (some Q6)+1) 51 [strs va.words,strs va.sigla],.mem (qs (some Q7)+1) 37 [ql (zI names gs va.sigla)],.emp 0⟩ ⟨hj,rfl,rfl⟩ (by simp only;omega) ?_
     simp only
     rw [←hsj]
     refine Wk.temps ?_
     (simp only [List.replicate,qS,qz,go_sem,qj,qh,qg,qi];try (repeat' first|(with_reducible refine And.intro ?_ ?_)|(apply qd;omega)|(apply qa;rfl)|exact VLe.refl _))
    ·obtain rfl:j=x.vars.length:=by omega
     have k4:((x.vars.length:Int)<x.vars.length)=False:=eq_false (by omega)
     have eT:List.take i (msC names gs L i)=msC names gs L i:=List.take_of_length_le (by omega)
     simp (disch:=omega) only [List.replicate,k4,p9',Nat.mul_one,go_sem]
     repeat' first
      |((first|apply qc|apply qb);exact rvk;simp only [go_sem];first|exact VLe.refl _|apply qd|apply qa|apply qe|skip)
      |with_reducible first|refine And.intro ?_ ?_|intro _
     all_goals try exact clz
     rw [eT,jj (qpK _ _ _ _ _)]
     refine hK2 _ _ ⟨i+1,v+1,.mem (qs (some O4)+1) 49 (enC x),.emp (u+1),Q6,Q7,.mem (qs (some O9)+1) 91 (.osl (h.length+5) u 1 0 x.vars.length::List.drop 1 (za [AV.nl] 1))⟩ ⟨hi,rfl,rfl,q6,q7,rfl⟩ (by simp only;omega)
      (Wk.trans (Wk.fzCell (j:=h.length+10) (k:=h.length+5) (i:=i) (v:=v+1) (ty:=91) (cs:=msC names gs L i++ [.osl (h.length+5) u 1 0 x.vars.length]) (c:= .osl (h.length+5) u 1 0 x.vars.length) (c':=stV names gs x) ?w6 ?w7 ?w8 (by omega) ?w9) ?w10)
     case w6=>simp only [go_sem]
     case w7=>rw [List.getElem?_append_right (by omega),hml,Nat.sub_self];rfl
     case w8=>simp only [go_sem]
     case w9=>
      rw [jv,getO_app]
      exact qbJ (fun _=>rfl) rfl
     case w10=>
      have eset:(msC names gs L i++ [AV.osl (h.length+5) u 1 0 x.vars.length]).set i (stV names gs x)=msC names gs L (i+1):=by
       rw [List.set_append_right _ _ (by omega),hml,Nat.sub_self,List.set_cons_zero,hms]
      have eown:zp (v+1) 91 (msC names gs L (i+1))= .mem (v+1) 91 (msC names gs L (i+1)):=jj (by rw [←hms];exact qpK _ _ _ _ _)
      simp only [go_sem,eset,eown]
      refine Wk.temps ?_
      (simp only [List.replicate,qz,go_sem,qj,qh,qg,qi];try (repeat' first|(with_reducible refine And.intro ?_ ?_)|(apply qd;omega)|(apply qa;rfl)|exact VLe.refl _))
   ·obtain rfl:i=L.length:=by omega
    have k3:((L.length:Int)<L.length)=False:=eq_false (by omega)
    simp (disch:=omega) only [List.replicate,k3,go_sem]
    repeat' first
     |((first|apply qc|apply qb);exact rvk;simp only [go_sem];first|exact VLe.refl _|apply qd|apply qa|apply qe|skip)
     |with_reducible first|refine And.intro ?_ ?_|intro _
    all_goals try exact clz
    refine hKK _ _ ⟨.emp (w+1),O4,O5,O6,O7,.emp 0,O9,.emp (v+1),hi2,Wk.trans (Wk.fzCell (j:=h.length+2) (k:=h.length+10) (i:=4) (v:=1) (ty:=71) (cs:= [strs names,qv gs,strs t,qz L,.osl (h.length+10) v 1 0 L.length]) (c:= .osl (h.length+10) v 1 0 L.length) (c':=msV names gs L) ?w11 rfl ?w12 (by omega) ?w13) ?w14⟩
    case w11=>simp only [go_sem]
    case w12=>simp only [go_sem]
    case w13=>
     rw [jv,getO_app]
     exact qbJ (fun _=>rfl) rfl
    case w14=>
     simp only [go_sem,List.set_cons_succ,List.set_cons_zero]
     refine Wk.temps ?_
     (simp only [List.replicate,qz,go_sem,qj,qh,qg,qi];try (repeat' first|(with_reducible refine And.intro ?_ ?_)|(apply qd;omega)|(apply qa;rfl)|exact VLe.refl _))
 case hy=>
  rintro tt hh ⟨O3,O4,O5,O6,O7,O8,O9,O10,hi2,hw⟩
  have hn0:=qE (f:=fun i=>qcr names gs t (l.getD i default)) (fun j (hj:j<l.length)=>hi2 j hj)
  rw [if_neg (fun hc=>hc hn0)]at hR
  simp (disch:=omega) only [go_sem]
  refine ⟨_,_,hw,?_⟩
  have vl: ∀i,((ja l).getD i default).vars.length≤1000000000:=fun i=>by
   by_cases hi:i<(ja l).length
   ·obtain ⟨j,hj,e⟩:=List.getElem_of_mem ((jP l).subset (jg hi))
    have:=hc.vl j
    rw [gdqA (l:=l),q9 hj]at this
    rw [←e]
    have e2:(some l[j]).getD default=l[j]:=rfl
    rw [e2]at this
    omega
   ·rw [gdqA,List.getElem?_eq_none (by omega)]
    exact Nat.zero_le _
  have hLn:=kG l
  have hfr: ∀(s:Nat) i,i<(ofE names gs l (s:Int)).length→0≤((ofE names gs l (s:Int)).getD i default).frm:=fun s i hi=>by
   have hm:=qkm (jg hi)
   obtain ⟨j,hj,e⟩:=List.getElem_of_mem hm
   have:=(qcN.1 (hi2 j hj)).rng.1
   rw [gdqA (l:=l),q9 hj]at this
   rw [←e]
   exact this
  have zl: ∀g,valL g .len [strs names]= .int .i64 names.length:=fun _=>rfl
  have zo: ∀g,okL g .len [strs names]=True:=fun _=>eq_true trivial
  simp (disch:=omega) only [List.replicate,zl,zo,go_sem]
  repeat' first
   |((first|apply qc|apply qb);exact rvk;simp only [go_sem];first|exact VLe.refl _|apply qd|apply qa|apply qe|skip)
   |with_reducible first|refine And.intro ?_ ?_|intro _
  all_goals try exact clz
  refine qo (T:=fun s:Nat×AObj×AObj=>qI 131 [(8,.op h.length 1 0),(9,.op (h.length+1) 1 0),(10,.op (h.length+2) 1 0),(98,.int .i64 names.length),(99,.int .i64 s.1)])
   (H:=fun s=>h++ [.mem 1 71 NL5,.mem 1 29 [.int .i64 0],.mem 1 71 (edL names gs t (ja l)),O3,O4,O5,O6,O7,O8,O9,O10,s.2.1,s.2.2])
   (inv:=fun s=>s.1≤names.length∧(∀j,j<s.1→jS (ofE names gs l (j:Int))=false)∧qD [s.2.1] 0=true∧qD [s.2.2] 0=true∧ ∀n,kX n s.2.2) (m:=fun s=>names.length-s.1) (0,.emp 0,.emp 0) ⟨Nat.zero_le _,fun j hj=>by omega,rfl,rfl,fun _=>trivial⟩ ?_ ?_
  ·refine Wk.temps ?_
   (simp only [List.replicate,go_sem,qj,qh,qg,qi];try (repeat' first|(with_reducible refine And.intro ?_ ?_)|(apply qd;omega)|(apply qa;rfl)|exact VLe.refl _))
  rintro ⟨s,O11,O12⟩ ⟨s1,s2,s3,s4,s5⟩ K hK
  simp only at s1 s2 s3 s4 s5 hK
  have s3': ∀m,qD (O11::m) 0=true:=fun _=>s3
  have s4': ∀m,qD (O12::m) 0=true:=fun _=>s4
  by_cases hs:s<names.length
  ·have k2:((s:Int)<names.length)=True:=eq_true (by omega)
   have c75:=fun h=>ofP names gs t (ja l) (s:Int) h
   have hcl:=qdG (ofE names gs l (s:Int))
   have hfr:=hfr s
   have hxl:=qa4 names gs (ja l) (s:Int)
   have hxg:=fun {i} hi=>qfC names gs (ja l) (s:Int) (i:=i) hi
   have hF0:(ja l).filter (qa8 names gs (s:Int))=ofE names gs l (s:Int):=rfl
   rw [hF0]at hxl
   simp only [hF0]at hxg
   obtain ⟨F,hF⟩: ∃F,F=ofE names gs l (s:Int):=⟨_,rfl⟩
   rw [←hF]at hcl hfr hxl
   simp only [←hF]at hxg
   obtain ⟨w,hw⟩: ∃w,qs (some O11)+1=w:=⟨_,rfl⟩
   unfold edL at c75
   simp (disch:=omega) only [List.replicate,edL,k2,s3',s4',zl,zo,hw,go_sem]
   repeat' first
    |((first|refine cA (c75 _) ?_ ?_|refine cG (fun e=>c75 _) ?_ ?_|refine cU (fun _=>c75 _) ?_ ?_);(next=>exact flk);simp (disch:=omega) only [edL,k2,s3',s4',zl,zo,hw,go_sem])
    |((first|apply qc|apply qb);exact rvk;simp only [go_sem];first|exact VLe.refl _|apply qd|apply qa|apply qe|skip)
    |with_reducible first|refine And.intro ?_ ?_|intro _
   all_goals try exact clz
   refine jY (xs:=xsE names gs (ja l) (s:Int)) (itO names gs t (ja l) (s:Int) (by omega) vl) (qfD names gs (ja l) (s:Int))
    (S:=fun i hh=> ∃O,qD [O] 0=true∧(∀n,kX n O)∧(∀j,j+1<i→j7 (F.getD j default) (F.getD (j+1) default)=false)∧hh=h++ [.mem 1 71 NL5,.mem 1 29 [.int .i64 0],.mem 1 71 (edL names gs t (ja l)),O3,O4,O5,O6,O7,O8,O9,O10,.mem w 49 (qcY F i),O])
    (E:=fun e hh=>e= .ret∧rdE names gs t l=17∧ ∃O i,(∀n,kX n O)∧hh=h++ [.mem 1 71 (edL names gs t (ja l)),.mem 1 29 [.int .i64 17],.mem 1 71 (edL names gs t (ja l)),O3,O4,O5,O6,O7,O8,O9,O10,.mem w 49 (qcY F i),O]) ?_ ?_ ?_ ?_ ?_ ?_ ?_
   ·rintro i hh ⟨O,o1,o2,o3,rfl⟩
    refine LowI.app rfl (fun o ho=> ?_)
    simp only [List.mem_cons,List.not_mem_nil,or_false]at ho
    rcases ho with rfl|rfl|rfl|rfl|rfl|rfl|rfl|rfl|rfl|rfl|rfl|rfl|rfl
    ·left;simp [NL5]
    ·left;simp
    ·left;simp [edL]
    all_goals first
     |(left;simp;done)
     |(right;exact ⟨o2 _,o2 _⟩)
     |(right;exact ⟨qap _ _ _,qap _ _ _⟩)
   ·rintro e hh ⟨rfl,_,O,i,o2,rfl⟩
    refine LowI.app rfl (fun o ho=> ?_)
    simp only [List.mem_cons,List.not_mem_nil,or_false]at ho
    rcases ho with rfl|rfl|rfl|rfl|rfl|rfl|rfl|rfl|rfl|rfl|rfl|rfl|rfl
    ·left;simp [edL]
    ·right;constructor<;>(intro c hc;simp only [List.mem_cons,List.not_mem_nil,or_false]at hc;subst hc;rfl)
    ·left;simp [edL]
    all_goals first
     |(left;simp;done)
     |(right;exact ⟨o2 _,o2 _⟩)
     |(right;exact ⟨qap _ _ _,qap _ _ _⟩)
   ·exact ⟨O12,s4,s5,fun j hj=>by omega,rfl⟩
   ·simp [zE,zE.lowVs,qbE,qc0,qcZ,qeT]
    try omega
   ·rintro i hh tl LI TS hi ⟨O,o1,o2,o3,rfl⟩ hq K3 K4 hK3 hN hRt hX
    have o1': ∀m,qD (O::m) 0=true:=fun _=>o1
    rw [hxg hi]
    rw [hxl]at hi
    have hb:=hfr i hi
    obtain ⟨B,hB⟩: ∃B,B=F.getD i default:=⟨_,rfl⟩
    have eB:=hB.symm
    rw [eB]at hb
    simp only [qaW,eB]
    obtain ⟨u,hu⟩: ∃u,qs (some O)+1=u:=⟨_,rfl⟩
    simp (disch:=omega) only [List.append_assoc,o1',enC,hu,go_sem]
    refine hK3 _ _ (h++ [.mem 1 71 NL5,.mem 1 29 [.int .i64 0],.mem 1 71 (edL names gs t (ja l)),O3,O4,O5,O6,O7,O8,O9,O10,.mem w 49 (qcY F i),.mem u 49 (enC B)]) (by simp [enC]) (by simp) ?_
    have hcf: ∀A,j7 A B=(decide (B.frm<A.to)||decide (A.frm=B.frm)&&decide (A.to=B.to)):=fun _=>rfl
    have next: ∀X,X=h++ [.mem 1 71 NL5,.mem 1 29 [.int .i64 0],.mem 1 71 (edL names gs t (ja l)),O3,O4,O5,O6,O7,O8,O9,O10,.mem w 49 (enC B),.mem u 49 (enC B)]++ .lp .busy TS LI::tl→
      (∀j,j+1<i+1→j7 (F.getD j default) (F.getD (j+1) default)=false)→ ∀t3,K4 .normal t3 X:=by
     intro X hXe hcc t3
     refine hN _ _ _ hXe (by simp) ⟨.mem u 49 (enC B),rfl,fun n=>qeK B n,hcc,?_⟩
     show _=h++ [_,_,_,_,_,_,_,_,_,_,_,.mem w 49 (enC (F.getD i default)),_]
     rw [eB]
    cases i with
    |zero=>
     have r1:(B.frm< -1)=False:=eq_false (by omega)
     have r2:(B.frm= -1)=False:=eq_false (by omega)
     simp (disch:=omega) only [List.append_assoc,qcY,enC,r1,r2,go_sem]
     repeat' first
      |((first|apply qc|apply qb);exact rvk;simp only [go_sem];first|exact VLe.refl _|apply qd|apply qa|apply qe|skip)
      |with_reducible first|refine And.intro ?_ ?_|intro _
     all_goals try exact clz
     refine next _ ?_ (fun j hj=>by omega) _
     simp [enC]
    |succ i=>
     have o4:j7 (F.getD i default) B=false→ ∀j,j+1<i+1+1→j7 (F.getD j default) (F.getD (j+1) default)=false:=by
      intro hcc j hj
      by_cases e:j=i
      ·subst e;rw [eB];exact hcc
      ·exact o3 j (by omega)
     have o5:j7 (F.getD i default) B=true→rdE names gs t l=17:=by
      intro hcc
      rw [hR,if_pos]
      unfold ky
      rw [zH]
      refine ⟨s,hs,?_⟩
      rw [←hF,hcl]
      exact ⟨i,hi,by rw [eB];exact hcc⟩
     have eS:qcY F (i+1)=enC (F.getD i default):=rfl
     obtain ⟨A,hA⟩: ∃A,A=F.getD i default:=⟨_,rfl⟩
     rw [←hA]at o4 o5 eS
     rw [eS]
     have hcfA:=hcf A
     have bad:j7 A B=true→ ∀X,X=h++ [.mem 1 71 (edL names gs t (ja l)),.mem 1 29 [.int .i64 17],.mem 1 71 (edL names gs t (ja l)),O3,O4,O5,O6,O7,O8,O9,O10,.mem w 49 (enC A),.mem u 49 (enC B)]++ .lp .busy TS LI::tl→ ∀t3,K4 .ret t3 X:=by
      intro hcc X hXe t3
      refine hRt _ _ _ hXe (by simp) ⟨rfl,o5 hcc,.mem u 49 (enC B),i+1,fun n=>qeK B n,?_⟩
      rw [eS]
     by_cases b1:B.frm<A.to
     ·have r1:(B.frm<A.to)=True:=eq_true b1
      simp (disch:=omega) only [List.append_assoc,enC,edL,NL5,r1,go_sem]
      repeat' first
       |((first|apply qc|apply qb);exact rvk;simp only [go_sem];first|exact VLe.refl _|apply qd|apply qa|apply qe|skip)
       |with_reducible first|refine And.intro ?_ ?_|intro _
      all_goals try exact clz
      refine bad (by rw [hcfA,decide_eq_true b1];rfl) _ ?_ _
      simp [enC,edL]
     have r1:(B.frm<A.to)=False:=eq_false b1
     by_cases b2:A.frm=B.frm
     ·have r2:(B.frm=A.frm)=True:=eq_true b2.symm
      by_cases b3:A.to=B.to
      ·have r3:(B.to=A.to)=True:=eq_true b3.symm
       simp (disch:=omega) only [List.append_assoc,enC,edL,NL5,r1,r2,r3,go_sem]
       repeat' first
        |((first|apply qc|apply qb);exact rvk;simp only [go_sem];first|exact VLe.refl _|apply qd|apply qa|apply qe|skip)
        |with_reducible first|refine And.intro ?_ ?_|intro _
       all_goals try exact clz
       refine bad (by rw [hcfA,decide_eq_true b2,decide_eq_true b3,Bool.and_true,Bool.or_true]) _ ?_ _
       simp [enC,edL]
      ·have r3:(B.to=A.to)=False:=eq_false (fun e=>b3 e.symm)
       simp (disch:=omega) only [List.append_assoc,enC,r1,r2,r3,go_sem]
       repeat' first
        |((first|apply qc|apply qb);exact rvk;simp only [go_sem];first|exact VLe.refl _|apply qd|apply qa|apply qe|skip)
        |with_reducible first|refine And.intro ?_ ?_|intro _
       all_goals try exact clz
       refine next _ ?_ (o4 (by rw [hcfA,decide_eq_false b1,decide_eq_false b3,Bool.and_false,Bool.or_false])) _
       simp [enC]
     ·have r2:(B.frm=A.frm)=False:=eq_false (fun e=>b2 e.symm)
      simp (disch:=omega) only [List.append_assoc,enC,r1,r2,go_sem]
      repeat' first
       |((first|apply qc|apply qb);exact rvk;simp only [go_sem];first|exact VLe.refl _|apply qd|apply qa|apply qe|skip)
       |with_reducible first|refine And.intro ?_ ?_|intro _
      all_goals try exact clz
      refine next _ ?_ (o4 (by rw [hcfA,decide_eq_false b1,decide_eq_false b2,Bool.false_and,Bool.or_false])) _
      simp [enC]
   ·rintro hh ⟨O,o1,o2,o3,rfl⟩
    rw [hxl]at o3 ⊢
    simp (disch:=omega) only [go_sem]
    repeat' first
     |((first|apply qc|apply qb);exact rvk;simp only [go_sem];first|exact VLe.refl _|apply qd|apply qa|apply qe|skip)
     |with_reducible first|refine And.intro ?_ ?_|intro _
    all_goals try exact clz
    refine hK _ _ (s+1,.mem w 49 (qcY F F.length),O) ⟨hs,fun j hj=> ?_,rfl,o1,o2⟩ (by simp only;omega) (Wk.temps ?_)
    ·by_cases e:j=s
     ·subst e
      rw [←hF]
      cases e:jS F with
      |false=>rfl
      |true=>
       obtain ⟨m,m1,m2⟩:=hcl.1 e
       rw [o3 m m1]at m2;cases m2
     ·exact s2 j (by simp only at hj;omega)
    ·(simp only [List.replicate,edL,go_sem,qj,qh,qg,qi];try (repeat' first|(with_reducible refine And.intro ?_ ?_)|(apply qd;omega)|(apply qa;rfl)|exact VLe.refl _))
   ·rintro e hh ⟨rfl,h17,O,i,o2,rfl⟩
    rw [qbd (by rw [h17];decide),h17]
    simp (disch:=omega) only [edL,go_sem]
    repeat' first
     |((first|apply qc|apply qb);exact rvk;simp only [go_sem];first|exact VLe.refl _|apply qd|apply qa|apply qe|skip)
     |with_reducible first|refine And.intro ?_ ?_|intro _
    all_goals try exact clz
    exact qwF _ _ _ _ _ _
  ·have k2:((s:Int)<names.length)=False:=eq_false (by omega)
   have hz:ky names gs l=false:=qQ.2 fun j hj=>s2 j (by omega)
   rw [if_neg (by rw [hz];simp)]at hR
   rw [qcz hR,hR]
   simp (disch:=omega) only [List.replicate,k2,edL,NL5,go_sem]
   repeat' first
    |((first|apply qc|apply qb);exact rvk;simp only [go_sem];first|exact VLe.refl _|apply qd|apply qa|apply qe|skip)
    |with_reducible first|refine And.intro ?_ ?_|intro _
   all_goals try exact clz
end RC
end
section
open Go Go.Proofs AF HY LN
namespace RC
set_option maxHeartbeats 8000000
theorem qa0 {P:En→Prop} {l:List En} (h: ∀i,P (l.getD i default)): ∀i,P ((ja l).getD i default):=fun i=>by
 by_cases hi:i<(ja l).length
 ·obtain ⟨j,hj,e⟩:=List.getElem_of_mem ((jP l).subset (jg hi))
  have:=h j
  rw [gdqA (l:=l),q9 hj]at this
  rw [←e]
  exact this
 ·have:=h l.length
  rw [gdqA,List.getElem?_eq_none (Nat.le_refl _)]at this
  rw [gdqA,List.getElem?_eq_none (by omega)]
  exact this
theorem qwF (a b c d e:AV) (n:Int):VLe (.tup [.agg [a,b,c,d,e],.int .i64 n]) (.tup [.agg [.undef,.undef,.undef,.undef,.undef],.int .i64 n]):=by
 have u: ∀a,VLe a .undef:=fun a w σ x _=> .imm .undef
 exact qK ⟨VLe.agg ⟨u _,u _,u _,u _,u _,trivial⟩,VLe.refl _,trivial⟩
section
variable (names : List Str) (gs : List Gr) (t : List Str) (l : List En) (src : Int) (h : List AObj)
theorem qwC (hc:CSz names gs t l) (hp:qaF SG h):qm Tryz.prog 43 [strs names,qv gs,strs t,qz l] h (.tup [rdV names gs t l,.int .i64 (opE (rdE names gs t l))]) h:=by
 have c48:=fun l'=>qx6 names gs t l (h++l') hc (hp.app l')
 by_cases g:rdE names gs t l=0
 ·have e1:=qcz g
  simp only [e1,g]at c48
  have e2:opE 0=0:=rfl
  rw [e1,g,e2]
  unfold edL at c48 ⊢
  refine acO quV ?_
  simp (disch:=omega) only [qwU,List.replicate,go_sem]
  repeat' first
   |((first|refine cA (c48 _) ?_ ?_|refine cG (fun e=>c48 _) ?_ ?_|refine cU (fun _=>c48 _) ?_ ?_);(next=>exact flk);simp (disch:=omega) only [go_sem])
   |((first|apply qc|apply qb);exact rvk;simp only [go_sem];first|exact VLe.refl _|apply qd|apply qa|apply qe|skip)
   |with_reducible first|refine And.intro ?_ ?_|intro _
  all_goals try exact clz
 ·have e1:=qbd g
  have k1:(rdE names gs t l=0)=False:=eq_false g
  have e2:opE (rdE names gs t l)=1:=if_neg g
  simp only [e1]at c48
  rw [e1,e2]
  refine acO quV ?_
  simp (disch:=omega) only [qwU,List.replicate,k1,go_sem]
  repeat' first
   |((first|refine cA (c48 _) ?_ ?_|refine cG (fun e=>c48 _) ?_ ?_|refine cU (fun _=>c48 _) ?_ ?_);(next=>exact flk);simp (disch:=omega) only [k1,go_sem])
   |((first|apply qc|apply qb);exact rvk;simp only [go_sem];first|exact VLe.refl _|apply qd|apply qa|apply qe|skip)
   |with_reducible first|refine And.intro ?_ ?_|intro _
  all_goals try exact clz
theorem qdT {n:Nat}:(src<0∧inR names src=false)∨(0≤src∧(names.length:Int)≤src∧inR names src=false)∨(∃s:Nat,src=(s:Int)∧s<names.length∧inR names src=true):=by
 unfold inR
 by_cases h1:0≤src
 ·by_cases h2:src<names.length
  ·refine .inr (.inr ⟨src.toNat,by omega,by omega,by simp [h1,h2]⟩)
  ·refine .inr (.inl ⟨h1,by omega,by simp [h2]⟩)
 ·refine .inl ⟨by omega,by simp [h1]⟩
theorem qye (hc:CSz names gs t l) (hp:qaF SG h):qm Tryz.prog 12 [strs names,qv gs,strs t,qz l,.int .i64 src] h (.tup [strs (qyd names gs t l src),.int .i64 (qmq names gs t l src)]) h:=by
 have c43:=fun l'=>qwC names gs t l (h++l') hc (hp.app l')
 unfold qyd
 have nl0:VLe AV.nl (strs []):=zQ
 by_cases g:rdE names gs t l=0
 case neg=>
  have e1:=qbd g
  have e2:opE (rdE names gs t l)=1:=if_neg g
  have e3:qmq names gs t l src=1:=if_neg g
  simp only [e1,e2]at c43
  rw [e3,if_neg (by decide)]
  refine acO qno ?_
  simp (disch:=omega) only [qtu,List.replicate,go_sem]
  repeat' first
   |((first|refine cA (c43 _) ?_ ?_|refine cG (fun e=>c43 _) ?_ ?_|refine cU (fun _=>c43 _) ?_ ?_);(next=>exact flk);simp (disch:=omega) only [go_sem])
   |((first|apply qc|apply qb);exact rvk;simp only [go_sem];first|exact VLe.refl _|apply qd|apply qa|apply qe|skip)
   |with_reducible first|refine And.intro ?_ ?_|intro _
  all_goals try exact clz
  exact qK ⟨nl0,VLe.refl _,trivial⟩
 have e1:=qcz g
 have e2:opE 0=0:=rfl
 have e3:qmq names gs t l src=if inR names src=true then 0 else 2:=if_pos g
 simp only [e1,g,e2]at c43
 rcases qdT names src (n:=0)with ⟨i1,i2⟩|⟨i1,i2,i3⟩|⟨s,rfl,i1,i2⟩
 ·rw [e3,i2,if_neg (by simp),if_neg (by decide)]
  have k1:(src<0)=True:=eq_true i1
  unfold edL at c43
  refine acO qno ?_
  simp (disch:=omega) only [qtu,List.replicate,k1,go_sem]
  repeat' first
   |((first|refine cA (c43 _) ?_ ?_|refine cG (fun e=>c43 _) ?_ ?_|refine cU (fun _=>c43 _) ?_ ?_);(next=>exact flk);simp (disch:=omega) only [k1,go_sem])
   |((first|apply qc|apply qb);exact rvk;simp only [go_sem];first|exact VLe.refl _|apply qd|apply qa|apply qe|skip)
   |with_reducible first|refine And.intro ?_ ?_|intro _
  all_goals try exact clz
  exact qK ⟨nl0,VLe.refl _,trivial⟩
 ·rw [e3,i3,if_neg (by simp),if_neg (by decide)]
  have k1:(src<0)=False:=eq_false (by omega)
  have k2:((names.length:Int)≤src)=True:=eq_true i2
  unfold edL strs at c43
  refine acO qno ?_
  simp (disch:=omega) only [qtu,List.replicate,k1,strs,go_sem]
  repeat' first
   |((first|refine cA (c43 _) ?_ ?_|refine cG (fun e=>c43 _) ?_ ?_|refine cU (fun _=>c43 _) ?_ ?_);(next=>exact flk);simp (disch:=omega) only [k1,k2,strs,go_sem])
   |((first|apply qc|apply qb);exact rvk;simp only [go_sem];first|exact VLe.refl _|apply qd|apply qa|apply qe|skip)
   |with_reducible first|refine And.intro ?_ ?_|intro _
  all_goals try exact clz
  exact qK ⟨nl0,VLe.refl _,trivial⟩
 ·rw [e3,i2,if_pos rfl,if_pos rfl]
  have k1:((s:Int)<0)=False:=eq_false (by omega)
  have k2:((names.length:Int)≤s)=False:=eq_false (by omega)
  have zl: ∀g,valL g .len [strs names]= .int .i64 names.length:=fun _=>rfl
  have zo: ∀g,okL g .len [strs names]=True:=fun _=>eq_true trivial
  have hLn:=kG l
  have c44:=fun h=>qzk names gs t (ja l) (s:Int) h (by have:=hc.ln;omega) (qa0 (P:=fun e=>e.vars.length≤1000) hc.vl) (qa0 (P:=fun e=> ∀j,(e.vars.getD j default).words.length≤1000) hc.wl) hc.tn ((qpS.1 g).tx i1)
  have eT:qoW names gs t (s:Int) ((ja l).filter (qa8 names gs (s:Int))) 0=qss names gs t l (s:Int):=rfl
  simp only [eT]at c44
  unfold edL at c43 c44
  refine acO qno ?_
  simp (disch:=omega) only [qtu,List.replicate,k1,zl,zo,go_sem]
  repeat' first
   |((first|refine cA (c43 _) ?_ ?_|refine cG (fun e=>c43 _) ?_ ?_|refine cA (c44 _) ?_ ?_|refine cG (fun e=>c44 _) ?_ ?_|refine cU (fun _=>c43 _) ?_ ?_|refine cU (fun _=>c44 _) ?_ ?_);(next=>exact flk);simp (disch:=omega) only [k1,k2,zl,zo,go_sem])
   |((first|apply qc|apply qb);exact rvk;simp only [go_sem];first|exact VLe.refl _|apply qd|apply qa|apply qe|skip)
   |with_reducible first|refine And.intro ?_ ?_|intro _
  all_goals try exact clz
theorem qxf (hc:CSz names gs t l) (hp:qaF SG h):qm Tryz.prog 16 [strs names,qv gs,strs t,qz l,.int .i64 src] h (.tup [.int .i64 (qxe names gs t l src),.int .i64 (qmq names gs t l src)]) h:=by
 have c43:=fun l'=>qwC names gs t l (h++l') hc (hp.app l')
 unfold qxe
 by_cases g:rdE names gs t l=0
 case neg=>
  have e1:=qbd g
  have e2:opE (rdE names gs t l)=1:=if_neg g
  have e3:qmq names gs t l src=1:=if_neg g
  simp only [e1,e2]at c43
  rw [e3,if_neg (by decide)]
  refine acO qnp ?_
  simp (disch:=omega) only [qtE,List.replicate,go_sem]
  repeat' first
   |((first|refine cA (c43 _) ?_ ?_|refine cG (fun e=>c43 _) ?_ ?_|refine cU (fun _=>c43 _) ?_ ?_);(next=>exact flk);simp (disch:=omega) only [go_sem])
   |((first|apply qc|apply qb);exact rvk;simp only [go_sem];first|exact VLe.refl _|apply qd|apply qa|apply qe|skip)
   |with_reducible first|refine And.intro ?_ ?_|intro _
  all_goals try exact clz
 have e1:=qcz g
 have e2:opE 0=0:=rfl
 have e3:qmq names gs t l src=if inR names src=true then 0 else 2:=if_pos g
 simp only [e1,g,e2]at c43
 rcases qdT names src (n:=0)with ⟨i1,i2⟩|⟨i1,i2,i3⟩|⟨s,rfl,i1,i2⟩
 ·rw [e3,i2,if_neg (by simp),if_neg (by decide)]
  have k1:(src<0)=True:=eq_true i1
  unfold edL at c43
  refine acO qnp ?_
  simp (disch:=omega) only [qtE,List.replicate,k1,go_sem]
  repeat' first
   |((first|refine cA (c43 _) ?_ ?_|refine cG (fun e=>c43 _) ?_ ?_|refine cU (fun _=>c43 _) ?_ ?_);(next=>exact flk);simp (disch:=omega) only [k1,go_sem])
   |((first|apply qc|apply qb);exact rvk;simp only [go_sem];first|exact VLe.refl _|apply qd|apply qa|apply qe|skip)
   |with_reducible first|refine And.intro ?_ ?_|intro _
  all_goals try exact clz
 ·rw [e3,i3,if_neg (by simp),if_neg (by decide)]
  have k1:(src<0)=False:=eq_false (by omega)
  have k2:((names.length:Int)≤src)=True:=eq_true i2
  unfold edL strs at c43
  refine acO qnp ?_
  simp (disch:=omega) only [qtE,List.replicate,k1,strs,go_sem]
  repeat' first
   |((first|refine cA (c43 _) ?_ ?_|refine cG (fun e=>c43 _) ?_ ?_|refine cU (fun _=>c43 _) ?_ ?_);(next=>exact flk);simp (disch:=omega) only [k1,k2,strs,go_sem])
   |((first|apply qc|apply qb);exact rvk;simp only [go_sem];first|exact VLe.refl _|apply qd|apply qa|apply qe|skip)
   |with_reducible first|refine And.intro ?_ ?_|intro _
  all_goals try exact clz
 ·rw [e3,i2,if_pos rfl,if_pos rfl]
  have k1:((s:Int)<0)=False:=eq_false (by omega)
  have k2:((names.length:Int)≤s)=False:=eq_false (by omega)
  have zl: ∀g,valL g .len [strs names]= .int .i64 names.length:=fun _=>rfl
  have zo: ∀g,okL g .len [strs names]=True:=fun _=>eq_true trivial
  have hLn:=kG l
  have c46:=fun h=>qy5 names gs t (ja l) (s:Int) h (by have:=hc.ln;omega) (qa0 (P:=fun e=>e.vars.length≤1000000000) (fun i=>by have:=hc.vl i;omega))
  have eT:(ja l).filter (qa8 names gs (s:Int))=ofE names gs l (s:Int):=rfl
  simp only [eT]at c46
  unfold edL at c43 c46
  refine acO qnp ?_
  simp (disch:=omega) only [qtE,List.replicate,k1,zl,zo,go_sem]
  repeat' first
   |((first|refine cA (c43 _) ?_ ?_|refine cG (fun e=>c43 _) ?_ ?_|refine cA (c46 _) ?_ ?_|refine cG (fun e=>c46 _) ?_ ?_|refine cU (fun _=>c43 _) ?_ ?_|refine cU (fun _=>c46 _) ?_ ?_);(next=>exact flk);simp (disch:=omega) only [k1,k2,zl,zo,go_sem])
   |((first|apply qc|apply qb);exact rvk;simp only [go_sem];first|exact VLe.refl _|apply qd|apply qa|apply qe|skip)
   |with_reducible first|refine And.intro ?_ ?_|intro _
  all_goals try exact clz
theorem qoA {v n:Nat} {L:List (List Str)} {g:AV→AV} (hg: ∀s,g (strs s)=strs s) (hn:n=L.length):VLe (qdr (some (zp v 22 (qds L))) v 1 0 n g) (jB L):=by
 subst hn
 by_cases h:L= []
 ·subst h
  show VLe (qdr (some (.emp v)) v 1 0 0 g) _
  rw [slOf_emp,if_pos rfl]
  exact zQ
 ·have e0:zp v 22 (qds L)= .mem v 22 (qds L):=jj (by simpa [qds] using h)
  rw [e0,slOf_mem,if_pos ⟨rfl,by rw [qgk];omega⟩]
  simp only [Nat.zero_add,Nat.mul_one]
  exact qoT g hg rfl
theorem kE {v n:Nat} {L:List Int} {g:AV→AV} (hg: ∀s,g (.int .i64 s)= .int .i64 s) (hn:n=L.length):VLe (qdr (some (zp v 3 (qn L))) v 1 0 n g) (ql L):=by
 subst hn
 by_cases h:L= []
 ·subst h
  show VLe (qdr (some (.emp v)) v 1 0 0 g) _
  rw [slOf_emp,if_pos rfl]
  exact zQ
 ·have e0:zp v 3 (qn L)= .mem v 3 (qn L):=jj (fun e=>h (qbX.1 e))
  rw [e0,slOf_mem,if_pos ⟨rfl,by rw [qt];omega⟩]
  simp only [Nat.zero_add,Nat.mul_one]
  exact zr g hg rfl
theorem qwJ (hc:CSz names gs t l) (hp:qaF SG h):qm Tryz.prog 14 [strs names,qv gs,strs t,qz l] h (.tup [jB (qwI names gs t l),.int .i64 (opE (rdE names gs t l))]) h:=by
 have c43:=fun l'=>qwC names gs t l (h++l') hc (hp.app l')
 unfold qwI
 have nl0:VLe AV.nl (jB []):=zQ
 have hnn:=hc.nn
 by_cases g:rdE names gs t l=0
 case neg=>
  have e1:=qbd g
  have e2:opE (rdE names gs t l)=1:=if_neg g
  simp only [e1,e2]at c43
  rw [e2,if_neg g]
  refine acO quB ?_
  simp (disch:=omega) only [qwN,List.replicate,go_sem]
  repeat' first
   |((first|refine cA (c43 _) ?_ ?_|refine cG (fun e=>c43 _) ?_ ?_|refine cU (fun _=>c43 _) ?_ ?_);(next=>exact flk);simp (disch:=omega) only [go_sem])
   |((first|apply qc|apply qb);exact rvk;simp only [go_sem];first|exact VLe.refl _|apply qd|apply qa|apply qe|skip)
   |with_reducible first|refine And.intro ?_ ?_|intro _
  all_goals try exact clz
  exact qK ⟨nl0,VLe.refl _,trivial⟩
 have e1:=qcz g
 have e2:opE 0=0:=rfl
 simp only [e1,g,e2]at c43
 rw [if_pos g,g,e2]
 have zl: ∀g,valL g .len [strs names]= .int .i64 names.length:=fun _=>rfl
 have zo: ∀g,okL g .len [strs names]=True:=fun _=>eq_true trivial
 have hLn:=kG l
 have hok:=qpS.1 g
 unfold edL at c43
 refine acO quB ?_
 simp (disch:=omega) only [qwN,List.replicate,zl,zo,go_sem]
 repeat' first
  |((first|refine cA (c43 _) ?_ ?_|refine cG (fun e=>c43 _) ?_ ?_|refine cU (fun _=>c43 _) ?_ ?_);(next=>exact flk);simp (disch:=omega) only [zl,zo,go_sem])
  |((first|apply qc|apply qb);exact rvk;simp only [go_sem];first|exact VLe.refl _|apply qd|apply qa|apply qe|skip)
  |with_reducible first|refine And.intro ?_ ?_|intro _
 all_goals try exact clz
 refine qo (T:=fun i:Nat×Nat×AObj=>qI 38 [(10,.op (h.length+1) 1 0),(12,.osl (h.length+2) i.2.1 1 0 i.1),(26,.int .i64 names.length),(27,.int .i64 i.1)])
  (H:=fun i=>h++ [.emp 1,.mem 1 71 (edL names gs t (ja l)),zp i.2.1 22 (qds (qmu names gs t l i.1)),i.2.2,.emp 0])
  (inv:=fun i=>i.1≤names.length∧qD [i.2.2] 0=true) (m:=fun i=>names.length-i.1) (0,1,.emp 0) ⟨Nat.zero_le _,rfl⟩ (Wk.temps ?_) ?_
 ·(simp only [List.replicate,go_sem,qj,qh,qg,qi];try (repeat' first|(with_reducible refine And.intro ?_ ?_)|(apply qd;omega)|(apply qa;rfl)|exact VLe.refl _))
 rintro ⟨i,v,O⟩ ⟨i1,i2⟩ K hK
 simp only at i1 i2 hK
 have i2': ∀m,qD (O::m) 0=true:=fun _=>i2
 have hst:=qh5 names gs t l i
 have hln:=qmv names gs t l i
 by_cases hi:i<names.length
 ·have k1:((i:Int)<names.length)=True:=eq_true (by omega)
  have c44:=fun h=>qzk names gs t (ja l) (i:Int) h (by have:=hc.ln;omega) (qa0 (P:=fun e=>e.vars.length≤1000) hc.vl) (qa0 (P:=fun e=> ∀j,(e.vars.getD j default).words.length≤1000) hc.wl) hc.tn (hok.tx hi)
  have eT:qoW names gs t (i:Int) ((ja l).filter (qa8 names gs (i:Int))) 0=qss names gs t l (i:Int):=rfl
  simp only [eT]at c44
  obtain ⟨L,hL⟩: ∃L,L=qmu names gs t l i:=⟨_,rfl⟩
  rw [←hL]at hst hln
  have eL:=hL.symm
  have eC:=qgk L
  have eTk:List.take i (qds L)=qds L:=List.take_of_length_le (by omega)
  unfold edL at c44
  simp (disch:=omega) only [List.replicate,edL,k1,i2',eL,Nat.mul_one,go_sem]
  repeat' first
   |((first|refine cA (c44 _) ?_ ?_|refine cG (fun e=>c44 _) ?_ ?_|refine cU (fun _=>c44 _) ?_ ?_);(next=>exact flk);simp (disch:=omega) only [edL,k1,i2',eL,eC,hln,eTk,Nat.mul_one,go_sem])
   |((first|apply qc|apply qb);exact rvk;simp only [go_sem];first|exact VLe.refl _|apply qd|apply qa|apply qe|skip)
   |with_reducible first|refine And.intro ?_ ?_|intro _
  all_goals try exact clz
  have eA:qds L++ [strs (qss names gs t l (i:Int))]=qds (qmu names gs t l (i+1)):=by rw [hst,qoR];rfl
  try rw [eTk]
  rw [eA]
  refine hK _ _ (i+1,v+1,.mem (qs (some O)+1) 22 [strs (qss names gs t l (i:Int))]) ⟨hi,rfl⟩ (by simp only;omega) (Wk.temps ?_)
  (simp only [List.replicate,go_sem,qj,qh,qg,qi];try (repeat' first|(with_reducible refine And.intro ?_ ?_)|(apply qd;omega)|(apply qa;rfl)|exact VLe.refl _))
 ·obtain rfl:i=names.length:=by omega
  have k1:((names.length:Int)<names.length)=False:=eq_false (by omega)
  simp (disch:=omega) only [List.replicate,k1,go_sem]
  repeat' first
   |((first|apply qc|apply qb);exact rvk;simp only [go_sem];first|exact VLe.refl _|apply qd|apply qa|apply qe|skip)
   |with_reducible first|refine And.intro ?_ ?_|intro _
  all_goals try exact clz
  exact qK ⟨qoA (fun _=>rfl) hln.symm,VLe.refl _,trivial⟩
theorem qwL (hc:CSz names gs t l) (hp:qaF SG h):qm Tryz.prog 18 [strs names,qv gs,strs t,qz l] h (.tup [ql (qwK names gs t l),.int .i64 (opE (rdE names gs t l))]) h:=by
 have c43:=fun l'=>qwC names gs t l (h++l') hc (hp.app l')
 unfold qwK
 have hnn:=hc.nn
 by_cases g:rdE names gs t l=0
 case neg=>
  have e1:=qbd g
  have e2:opE (rdE names gs t l)=1:=if_neg g
  simp only [e1,e2]at c43
  rw [e2,if_neg g]
  refine acO quN ?_
  simp (disch:=omega) only [qwO,List.replicate,go_sem]
  repeat' first
   |((first|refine cA (c43 _) ?_ ?_|refine cG (fun e=>c43 _) ?_ ?_|refine cU (fun _=>c43 _) ?_ ?_);(next=>exact flk);simp (disch:=omega) only [go_sem])
   |((first|apply qc|apply qb);exact rvk;simp only [go_sem];first|exact VLe.refl _|apply qd|apply qa|apply qe|skip)
   |with_reducible first|refine And.intro ?_ ?_|intro _
  all_goals try exact clz
  exact zb
 have e1:=qcz g
 have e2:opE 0=0:=rfl
 simp only [e1,g,e2]at c43
 rw [if_pos g,g,e2]
 have zl: ∀g,valL g .len [strs names]= .int .i64 names.length:=fun _=>rfl
 have zo: ∀g,okL g .len [strs names]=True:=fun _=>eq_true trivial
 have hLn:=kG l
 unfold edL at c43
 refine acO quN ?_
 simp (disch:=omega) only [qwO,List.replicate,zl,zo,go_sem]
 repeat' first
  |((first|refine cA (c43 _) ?_ ?_|refine cG (fun e=>c43 _) ?_ ?_|refine cU (fun _=>c43 _) ?_ ?_);(next=>exact flk);simp (disch:=omega) only [zl,zo,go_sem])
  |((first|apply qc|apply qb);exact rvk;simp only [go_sem];first|exact VLe.refl _|apply qd|apply qa|apply qe|skip)
  |with_reducible first|refine And.intro ?_ ?_|intro _
 all_goals try exact clz
 refine qo (T:=fun i:Nat×Nat×AObj=>qI 40 [(10,.op (h.length+1) 1 0),(12,.osl (h.length+2) i.2.1 1 0 (qP (noE names gs l) i.1).length),(26,.int .i64 names.length),(27,.int .i64 i.1)])
  (H:=fun i=>h++ [.emp 1,.mem 1 71 (edL names gs t (ja l)),zp i.2.1 3 (qn (qP (noE names gs l) i.1)),i.2.2,.emp 0])
  (inv:=fun i=>i.1≤names.length∧qD [i.2.2] 0=true) (m:=fun i=>names.length-i.1) (0,1,.emp 0) ⟨Nat.zero_le _,rfl⟩ (Wk.temps ?_) ?_
 ·(simp only [qP,List.range_zero,List.filter_nil,List.length_nil,List.replicate,go_sem,qj,qh,qg,qi];try (repeat' first|(with_reducible refine And.intro ?_ ?_)|(apply qd;omega)|(apply qa;rfl)|exact VLe.refl _))
 rintro ⟨i,v,O⟩ ⟨i1,i2⟩ K hK
 simp only at i1 i2 hK
 have i2': ∀m,qD (O::m) 0=true:=fun _=>i2
 have hst:=zC (noE names gs l) i
 have hln:=qF (noE names gs l) i
 have hnE:noE names gs l i=decide ((ofE names gs l (i:Int)).length=0):=rfl
 obtain ⟨L,hL⟩: ∃L,L=qP (noE names gs l) i:=⟨_,rfl⟩
 rw [←hL]at hst hln
 have eL:=hL.symm
 have eC:=qt L
 by_cases hi:i<names.length
 ·have k1:((i:Int)<names.length)=True:=eq_true (by omega)
  have c46:=fun h=>qy5 names gs t (ja l) (i:Int) h (by have:=hc.ln;omega) (qa0 (P:=fun e=>e.vars.length≤1000000000) (fun i=>by have:=hc.vl i;omega))
  have eF:(ja l).filter (qa8 names gs (i:Int))=ofE names gs l (i:Int):=rfl
  simp only [eF]at c46
  have eTk:List.take L.length (qn L)=qn L:=List.take_of_length_le (by omega)
  unfold edL at c46
  obtain ⟨q,hq⟩: ∃q,q=(ofE names gs l (i:Int)).length:=⟨_,rfl⟩
  rw [←hq]at hnE
  simp only [←hq]at c46
  by_cases g0:q=0
  ·have k2:((q:Int)=0)=True:=eq_true (by omega)
   rw [if_pos (by rw [hnE];exact decide_eq_true g0)]at hst
   simp (disch:=omega) only [List.replicate,edL,k1,i2',eL,Nat.mul_one,go_sem]
   repeat' first
    |((first|refine cA (c46 _) ?_ ?_|refine cG (fun e=>c46 _) ?_ ?_|refine cU (fun _=>c46 _) ?_ ?_);(next=>exact flk);simp (disch:=omega) only [edL,k1,k2,i2',eL,eC,eTk,Nat.mul_one,go_sem])
    |((first|apply qc|apply qb);exact rvk;simp only [go_sem];first|exact VLe.refl _|apply qd|apply qa|apply qe|skip)
    |with_reducible first|refine And.intro ?_ ?_|intro _
   all_goals try exact clz
   have eA:qn L++ [AV.int .i64 (i:Int)]=qn (qP (noE names gs l) (i+1)):=by rw [hst,qG];rfl
   rw [eA]
   refine hK _ _ (i+1,v+1,.mem (qs (some O)+1) 3 [.int .i64 (i:Int)]) ⟨hi,rfl⟩ (by simp only;omega) ?_
   simp only [hst,List.length_append,List.length_cons,List.length_nil]
   refine Wk.temps ?_
   (simp only [List.replicate,go_sem,qj,qh,qg,qi];try (repeat' first|(with_reducible refine And.intro ?_ ?_)|(apply qd;omega)|(apply qa;rfl)|exact VLe.refl _))
  ·have k2:((q:Int)=0)=False:=eq_false (by omega)
   rw [if_neg (by rw [hnE];simpa using g0),List.append_nil]at hst
   simp (disch:=omega) only [List.replicate,edL,k1,i2',eL,go_sem]
   repeat' first
    |((first|refine cA (c46 _) ?_ ?_|refine cG (fun e=>c46 _) ?_ ?_|refine cU (fun _=>c46 _) ?_ ?_);(next=>exact flk);simp (disch:=omega) only [edL,k1,k2,i2',eL,go_sem])
    |((first|apply qc|apply qb);exact rvk;simp only [go_sem];first|exact VLe.refl _|apply qd|apply qa|apply qe|skip)
    |with_reducible first|refine And.intro ?_ ?_|intro _
   all_goals try exact clz
   refine hK _ _ (i+1,v,O) ⟨hi,i2⟩ (by simp only;omega) ?_
   simp only [hst]
   refine Wk.temps ?_
   (simp only [List.replicate,go_sem,qj,qh,qg,qi];try (repeat' first|(with_reducible refine And.intro ?_ ?_)|(apply qd;omega)|(apply qa;rfl)|exact VLe.refl _))
 ·obtain rfl:i=names.length:=by omega
  have k1:((names.length:Int)<names.length)=False:=eq_false (by omega)
  rw [eL]
  simp (disch:=omega) only [List.replicate,k1,eL,go_sem]
  repeat' first
   |((first|apply qc|apply qb);exact rvk;simp only [go_sem];first|exact VLe.refl _|apply qd|apply qa|apply qe|skip)
   |with_reducible first|refine And.intro ?_ ?_|intro _
  all_goals try exact clz
  exact qK ⟨kE (fun _=>rfl) rfl,VLe.refl _,trivial⟩
end
end RC
end
section
open Go Go.Proofs AF
end
section
open Go Go.Proofs AF HY LN
namespace RC
set_option maxHeartbeats 8000000
end RC
end
section
open Go Go.Proofs AF HY LN
namespace RC
set_option maxHeartbeats 8000000
section
variable (names : List Str) (gs : List Gr) (t : List Str) (l : List En) (src : Int) (h : List AObj)
end
end RC
end
section
open Go Go.Proofs AF HY LN
namespace RC
set_option maxHeartbeats 8000000
theorem qAc (a:List Str) (h:List AObj) (hn:a.length≤1000000000):qm Tryz.prog 51 [strs a,strs a] h (.bool true) h:=by
 refine acO qxw ?_
 simp (disch:=omega) only [qyH,List.replicate,strs,go_sem]
 repeat' first
  |((first|apply qc|apply qb);exact rvk;simp only [go_sem];first|exact VLe.refl _|apply qd|apply qa|apply qe|skip)
  |with_reducible first|refine And.intro ?_ ?_|intro _
 all_goals try exact clz
 refine qo (T:=fun i:Nat=>qI 26 [(0,strs a),(1,strs a),(5,.int .i64 i)]) (H:=fun _=>h) (inv:=fun i=>i≤a.length) (m:=fun i=>a.length-i) 0 (Nat.zero_le _) (Wk.temps ?_) ?_
 ·(simp only [strs,List.replicate,go_sem,qj,qh,qg,qi];try (repeat' first|(with_reducible refine And.intro ?_ ?_)|(apply qd;omega)|(apply qa;rfl)|exact VLe.refl _))
 rintro i i1 K hK
 by_cases hi:i<a.length
 ·have k1:((i:Int)<a.length)=True:=eq_true (by omega)
  simp (disch:=omega) only [List.replicate,strs,k1,go_sem]
  repeat' first
   |((first|apply qc|apply qb);exact rvk;simp only [go_sem];first|exact VLe.refl _|apply qd|apply qa|apply qe|skip)
   |with_reducible first|refine And.intro ?_ ?_|intro _
  all_goals try exact clz
  refine hK _ _ (i+1) hi (by omega) (Wk.temps ?_)
  (simp only [strs,List.replicate,go_sem,qj,qh,qg,qi];try (repeat' first|(with_reducible refine And.intro ?_ ?_)|(apply qd;omega)|(apply qa;rfl)|exact VLe.refl _))
 ·have k1:((i:Int)<a.length)=False:=eq_false (by omega)
  simp (disch:=omega) only [List.replicate,strs,k1,go_sem]
  repeat' first
   |((first|apply qc|apply qb);exact rvk;simp only [go_sem];first|exact VLe.refl _|apply qd|apply qa|apply qe|skip)
   |with_reducible first|refine And.intro ?_ ?_|intro _
  all_goals try exact clz
theorem qAe (L:List (List Str)) (h:List AObj) (hn:L.length≤1000000000) (hl: ∀i,(L.getD i []).length≤1000000000):qm Tryz.prog 23 [jB L,jB L] h (.bool true) h:=by
 have c51:=fun i h=>qAc (L.getD i []) h (hl i)
 refine acO qxo ?_
 simp (disch:=omega) only [qyB,List.replicate,jB,go_sem]
 repeat' first
  |((first|apply qc|apply qb);exact rvk;simp only [go_sem];first|exact VLe.refl _|apply qd|apply qa|apply qe|skip)
  |with_reducible first|refine And.intro ?_ ?_|intro _
 all_goals try exact clz
 refine qo (T:=fun i:Nat=>qI 27 [(0,jB L),(1,jB L),(5,.int .i64 i)]) (H:=fun _=>h) (inv:=fun i=>i≤L.length) (m:=fun i=>L.length-i) 0 (Nat.zero_le _) (Wk.temps ?_) ?_
 ·(simp only [jB,List.replicate,go_sem,qj,qh,qg,qi];try (repeat' first|(with_reducible refine And.intro ?_ ?_)|(apply qd;omega)|(apply qa;rfl)|exact VLe.refl _))
 rintro i i1 K hK
 by_cases hi:i<L.length
 ·have k1:((i:Int)<L.length)=True:=eq_true (by omega)
  have c51:=c51 i
  simp (disch:=omega) only [List.replicate,jB,k1,go_sem]
  repeat' first
   |((first|refine cA (c51 _) ?_ ?_|refine cG (fun e=>c51 _) ?_ ?_|refine cU (fun _=>c51 _) ?_ ?_);(next=>exact flk);simp (disch:=omega) only [jB,k1,go_sem])
   |((first|apply qc|apply qb);exact rvk;simp only [go_sem];first|exact VLe.refl _|apply qd|apply qa|apply qe|skip)
   |with_reducible first|refine And.intro ?_ ?_|intro _
  all_goals try exact clz
  refine hK _ _ (i+1) hi (by omega) (Wk.temps ?_)
  (simp only [jB,List.replicate,go_sem,qj,qh,qg,qi];try (repeat' first|(with_reducible refine And.intro ?_ ?_)|(apply qd;omega)|(apply qa;rfl)|exact VLe.refl _))
 ·have k1:((i:Int)<L.length)=False:=eq_false (by omega)
  simp (disch:=omega) only [List.replicate,jB,k1,go_sem]
  repeat' first
   |((first|apply qc|apply qb);exact rvk;simp only [go_sem];first|exact VLe.refl _|apply qd|apply qa|apply qe|skip)
   |with_reducible first|refine And.intro ?_ ?_|intro _
  all_goals try exact clz
theorem eqS (a:List Str) (h:List AObj) (hn:a.length≤1000000000):qm Tryz.prog 22 [strs a,strs a] h (.bool true) h:=by
 have c:=qxj quP a.length a.length (fun j=> .s (a.getD j [])) (fun j=> .s (a.getD j [])) h (fun _ _ _=>rfl) (by omega) (by omega)
 rw [decide_eq_true ⟨rfl,fun _ _=>rfl⟩]at c
 exact c
theorem eqI (a:List Int) (h:List AObj) (hn:a.length≤1000000000):qm Tryz.prog 24 [ql a,ql a] h (.bool true) h:=by
 have c:=qxj qxp a.length a.length (fun j=> .i (a.getD j 0)) (fun j=> .i (a.getD j 0)) h (fun _ _ _=>rfl) (by omega) (by omega)
 rw [decide_eq_true ⟨rfl,fun _ _=>rfl⟩]at c
 exact c
def exN:List Str:= [[65],[66],[67]]
def exT:List Str:= [[100,101,117,115],[101,115,116]]
def exL:List En:= [⟨0,0,1,false,[],[⟨[[100,111,109,105,110,117,115]],[[66]]⟩]⟩,⟨0,2,2,false,[],[⟨[[118,101,114,101]],[[66],[67]]⟩]⟩]
def exA:List (List Str):= [[[100,101,117,115],[101,115,116]],[[100,111,109,105,110,117,115],[101,115,116],[118,101,114,101]],[[100,101,117,115],[101,115,116],[118,101,114,101]]]
theorem qua:rdE exN [] exT exL=0:=by decide+kernel
theorem qt7:qwI exN [] exT exL=exA:=by decide+kernel
theorem qub:qyd exN [] exT exL 2=exA.getD 2 []:=by decide+kernel
theorem qqZ:qmq exN [] exT exL 2=0:=by decide+kernel
theorem qt9:qxe exN [] exT exL 1=2:=by decide+kernel
theorem qqY:qmq exN [] exT exL 1=0:=by decide+kernel
theorem qt8:qwK exN [] exT exL= [0]:=by decide+kernel
theorem qm9:qjU exN [] exT exL=false:=by decide+kernel
theorem qAb (h:List AObj):qm Tryz.prog 42 [] h (.tup [strs exN,strs exT,qz exL]) h:=by
 refine acO qxt ?_
 simp (disch:=omega) only [qyE,List.replicate,go_sem]
 repeat' first
  |((first|apply qc|apply qb);exact rvk;simp only [go_sem];first|exact VLe.refl _|apply qd|apply qa|apply qe|skip)
  |with_reducible first|refine And.intro ?_ ?_|intro _
 all_goals try exact clz
 have one: ∀ {f g:Nat→List AV},f 0=g 0→ILe (.sl 1 f) (.sl 1 g):=fun h=>ILe.sl_eq fun i hi=>by
  obtain rfl:i=0:=by omega
  exact h
 have two: ∀ {f g:Nat→List AV},f 0=g 0→f 1=g 1→ILe (.sl 2 f) (.sl 2 g):=fun h1 h2=>ILe.sl_eq fun i hi=>by
  match i,hi with
  |0,_=>exact h1
  |1,_=>exact h2
  |n+2,hi=>exact absurd hi (by omega)
 have one': ∀ {f g:Nat→List AV},qcd (f 0) (g 0)→ILe (.sl 1 f) (.sl 1 g):=fun h=>ILe.sl fun i hi=>by
  obtain rfl:i=0:=by omega
  exact h
 refine qK ⟨VLe.sl_eq rfl (fun i hi=> ?_),VLe.sl_eq rfl (fun i hi=> ?_),VLe.sl (fun i hi=> ?_),trivial⟩
 ·match i,hi with
  |0,_=>rfl
  |1,_=>rfl
  |2,_=>rfl
  |n+3,hi=>exact absurd hi (by omega)
 ·match i,hi with
  |0,_=>rfl
  |1,_=>rfl
  |n+2,hi=>exact absurd hi (by omega)
 ·match i,hi with
  |0,_=>
   refine ⟨ILe.refl _,ILe.refl _,ILe.refl _,ILe.refl _,ILe.nl,?_,trivial⟩
   simp only [go_sem]
   refine one' ⟨?_,?_,trivial⟩
   ·simp only [go_sem]
    exact one rfl
   ·simp only [go_sem]
    exact one rfl
  |1,_=>
   refine ⟨ILe.refl _,ILe.refl _,ILe.refl _,ILe.refl _,ILe.nl,?_,trivial⟩
   simp only [go_sem]
   refine one' ⟨?_,?_,trivial⟩
   ·simp only [go_sem]
    exact one rfl
   ·simp only [go_sem]
    exact two rfl rfl
  |n+2,hi=>exact absurd hi (by omega)
end RC
end
section
open Go Go.Proofs AF HY LN
namespace RC
set_option maxHeartbeats 8000000
theorem qzl (names:List Str) (t:List Str) (l:List En):ke [strs names,.nl,strs t,qz l] [strs names,qv [],strs t,qz l]:=⟨VLe.refl _,zQ,VLe.refl _,VLe.refl _,trivial⟩
theorem qv5 (names:List Str) (t:List Str) (l:List En) (n:Int):ke [strs names,.nl,strs t,qz l,.int .i64 n] [strs names,qv [],strs t,qz l,.int .i64 n]:=⟨VLe.refl _,zQ,VLe.refl _,VLe.refl _,VLe.refl _,trivial⟩
theorem qAd {L:List (List Str)} {X:AV} {h:List AObj} (hv:ke ([jB L,X].map (rei (fun _=>true) h 8)) [jB L,jB L]) (hn:L.length≤1000000000) (hl: ∀i,(L.getD i []).length≤1000000000):qm Tryz.prog 23 [jB L,X] h (.bool true) h:=
 qm.borrow ((qAe L [] hn hl).le hv (VLe.refl _)) rfl
theorem qzI {L:List Str} {X:AV} {h:List AObj} (hv:ke ([strs L,X].map (rei (fun _=>true) h 8)) [strs L,strs L]) (hn:L.length≤1000000000):qm Tryz.prog 22 [strs L,X] h (.bool true) h:=
 qm.borrow ((eqS L [] hn).le hv (VLe.refl _)) rfl
theorem qzH {L:List Int} {X:AV} {h:List AObj} (hv:ke ([ql L,X].map (rei (fun _=>true) h 8)) [ql L,ql L]) (hn:L.length≤1000000000):qm Tryz.prog 24 [ql L,X] h (.bool true) h:=
 qm.borrow ((eqI L [] hn).le hv (VLe.refl _)) rfl
theorem qzr (h:List AObj) (hp:qaF SG h):qm Tryz.prog 11 [] h (.bool true) h:=by
 have hc:CSz exN [] exT exL:=qeO qm9
 have c42:=fun h=>qAb h
 have c14:=fun l=>(qwJ exN [] exT exL (h++l) hc (hp.app l)).le (qzl _ _ _) (VLe.refl _)
 have c12:=fun l=>(qye exN [] exT exL 2 (h++l) hc (hp.app l)).le (qv5 _ _ _ _) (VLe.refl _)
 have c18:=fun l=>(qwL exN [] exT exL (h++l) hc (hp.app l)).le (qzl _ _ _) (VLe.refl _)
 have c16:=fun l=>(qxf exN [] exT exL 1 (h++l) hc (hp.app l)).le (qv5 _ _ _ _) (VLe.refl _)
 have e0:opE 0=0:=rfl
 simp only [qua,qt7,e0]at c14
 simp only [qub,qqZ]at c12
 simp only [qua,qt8,e0]at c18
 simp only [qt9,qqY]at c16
 have zm:valP (.mm true) [.int .i64 0,.int .i64 0,.int .i64 0,.int .i64 0]= .int .i64 0:=rfl
 have zn:okP (.mm true) [.int .i64 0,.int .i64 0,.int .i64 0,.int .i64 0]=True:=eq_true (by simp [okP,kC])
 refine acO qxn ?_
 simp (disch:=omega) only [qyA,List.replicate,zm,zn,go_sem]
 repeat' first
  |((first|refine cA (c42 _) ?_ ?_|refine cG (fun e=>c42 _) ?_ ?_|refine cA (c14 _) ?_ ?_|refine cG (fun e=>c14 _) ?_ ?_|refine cA (c12 _) ?_ ?_|refine cG (fun e=>c12 _) ?_ ?_|refine cA (c18 _) ?_ ?_|refine cG (fun e=>c18 _) ?_ ?_|refine cA (c16 _) ?_ ?_|refine cG (fun e=>c16 _) ?_ ?_|refine cU (fun _=>c42 _) ?_ ?_|refine cU (fun _=>c14 _) ?_ ?_|refine cU (fun _=>c12 _) ?_ ?_|refine cU (fun _=>c18 _) ?_ ?_|refine cU (fun _=>c16 _) ?_ ?_);(next=>exact flk);simp (disch:=omega) only [zm,zn,go_sem])
  |((first|apply qc|apply qb);exact rvk;simp only [go_sem];first|exact VLe.refl _|apply qd|apply qa|apply qe|skip)
  |with_reducible first|refine And.intro ?_ ?_|intro _
 all_goals try exact clz
 refine cG (fun _=>qAd (L:=exA) (X:= .osl (h.length+3) 1 1 0 3) ?s1 (by decide) ?s2) (fun _=>by exact flk) ?_
 case s2=>
  intro i
  match i with
  |0=>decide
  |1=>decide
  |2=>decide
  |n+3=>exact Nat.zero_le _
 case s1=>
  simp only [List.map_cons,List.map_nil,go_sem]
  refine ⟨VLe.refl _,VLe.sl (fun i hi=> ?_),trivial⟩
  match i,hi with
  |0,_=>
   refine ⟨?_,trivial⟩
   simp only [go_sem]
   refine ILe.sl_eq fun j hj=> ?_
   match j,hj with
   |0,_=>rfl
   |1,_=>rfl
   |n+2,hj=>exact absurd hj (by omega)
  |1,_=>
   refine ⟨?_,trivial⟩
   simp only [go_sem]
   refine ILe.sl_eq fun j hj=> ?_
   match j,hj with
   |0,_=>rfl
   |1,_=>rfl
   |2,_=>rfl
   |n+3,hj=>exact absurd hj (by omega)
  |2,_=>
   refine ⟨?_,trivial⟩
   simp only [go_sem]
   refine ILe.sl_eq fun j hj=> ?_
   match j,hj with
   |0,_=>rfl
   |1,_=>rfl
   |2,_=>rfl
   |n+3,hj=>exact absurd hj (by omega)
  |n+3,hi=>exact absurd hi (by omega)
 simp (disch:=omega) only [go_sem]
 repeat' first
  |((first|apply qc|apply qb);exact rvk;simp only [go_sem];first|exact VLe.refl _|apply qd|apply qa|apply qe|skip)
  |with_reducible first|refine And.intro ?_ ?_|intro _
 all_goals try exact clz
 refine cG (fun _=>qzI (L:=exA.getD 2 []) (X:= .osl (h.length+4) 1 1 0 3) ?s3 (by decide)) (fun _=>by exact flk) ?_
 case s3=>
  simp only [List.map_cons,List.map_nil,go_sem]
  refine ⟨VLe.refl _,VLe.sl_eq rfl (fun j hj=> ?_),trivial⟩
  match j,hj with
  |0,_=>rfl
  |1,_=>rfl
  |2,_=>rfl
  |n+3,hj=>exact absurd hj (by omega)
 simp (disch:=omega) only [go_sem]
 repeat' first
  |((first|apply qc|apply qb);exact rvk;simp only [go_sem];first|exact VLe.refl _|apply qd|apply qa|apply qe|skip)
  |with_reducible first|refine And.intro ?_ ?_|intro _
 all_goals try exact clz
 refine cG (fun _=>qzH (L:= [0]) (X:= .osl (h.length+5) 1 1 0 1) ?s4 (by decide)) (fun _=>by exact flk) ?_
 case s4=>
  simp only [List.map_cons,List.map_nil,go_sem]
  refine ⟨VLe.refl _,VLe.sl_eq rfl (fun j hj=> ?_),trivial⟩
  match j,hj with
  |0,_=>rfl
  |n+1,hj=>exact absurd hj (by omega)
 simp (disch:=omega) only [go_sem]
 repeat' first
  |((first|apply qc|apply qb);exact rvk;simp only [go_sem];first|exact VLe.refl _|apply qd|apply qa|apply qe|skip)
  |with_reducible first|refine And.intro ?_ ?_|intro _
 all_goals try exact clz
end RC
end
section
open Go Go.Proofs AF HY LN
namespace RC
set_option maxHeartbeats 8000000
end RC
end
section
open Go Go.Proofs AF HY LN
namespace RC
set_option maxHeartbeats 8000000
end RC
namespace RC
set_option maxHeartbeats 8000000
end RC
end
section
open Go Go.Proofs AF
end
section
open Go Go.Proofs AF HY LN
namespace AF
structure qsU (E:AV) (n:Nat) (cs:List AV):Prop where
 fl:E.flag=true
 st:E.strip=E
 vl: ∀g,valL g .len [E]= .int .i64 n
 ok: ∀g,okL g .len [E]=True
 sc: ∀g,qr g E=some (n,cs)
 ap: ∀k v z p m,qab (.osl k v z p m) E=true
theorem qsU.sl (n:Nat) (f:Nat→List AV):qsU (.sl n f) n ((List.range n).flatMap f):=⟨rfl,rfl,fun _=>rfl,fun _=>eq_true trivial,fun _=>rfl,fun _ _ _ _ _=>rfl⟩
structure Src (h:List AObj) (e:AV) (n:Nat) (cs:List AV):Prop where
 flag:e.flag=true
 strip:e.strip=e
 lenOk: ∀X,okL (h++X) .len [e]=True
 len: ∀X,valL (h++X) .len [e]= .int .i64 n
 cells: ∀X,qr (h++X) e=some (n,cs)
 apart: ∀k v z p m,h.length≤k→qab (.osl k v z p m) e=true
theorem qy7 {P:Program} {f:FuncId} {args:List AV} {h h':List AObj} {r:AV} (ks:List Nat) (hs:zN ks h=true) (hc:qm P f (args.map (frz (fun k=>ks.contains k) h 8)) (kK ks h) r h'):qm P f args h r h':=by
 refine ⟨hc.1,fun w σ xs H hv=> ?_⟩
 obtain ⟨σ',g1,g2,g3,g4⟩:=qbZ ks H hs
 refine (hc.2 w σ' xs g1 ⟨by rw [hv.1];simp,fun i c x hcc hx=> ?_⟩).mono ?_
 ·rw [List.getElem?_map,Option.map_eq_some_iff]at hcc
  obtain ⟨c0,hcc,rfl⟩:=hcc
  exact qfX H (fun b hb=>(g4 b hb).elim fun j ⟨o,h1,h2,h3⟩=>⟨j,o,by simpa using h1,h2,h3⟩) (fun j o hj ho=>g3 j o (by simpa using hj) ho) 8 (hv.2 i c0 x hcc hx)
 ·rintro e w' ⟨v,σ2,rfl,k1,k2,k3⟩
  exact ⟨v,σ2,rfl,k1,k2,g2.trans k3⟩
end AF
namespace RC
set_option maxHeartbeats 8000000
theorem qm7 {L:List En} {n:Nat} {fz:Nat→Bool} {h:List AObj} {d:Nat} (hn:n=L.length):VLe (.sl n fun i=>(((zA L).drop (i*6)).take 6).map (rei fz h (d+1))) (qz L):=by
 subst hn
 refine VLe.sl_eq rfl (fun i hi=> ?_)
 rw [qbx hi]
 rfl
theorem qsU.strs (L:List Str):qsU (strs L) L.length (zR L):=⟨rfl,rfl,fun _=>rfl,fun _=>eq_true trivial,fun g=>qaz g L,fun _ _ _ _ _=>rfl⟩
theorem qsU.sub {t:List Str} {a b:Nat} (h1:a≤b) (h2:b≤t.length):qsU (.sl (b-a) fun i=> [.str (t.getD (a+i) [])]) (j6 t a b).length (zR (j6 t a b)):=by
 rw [qbL h1 h2]
 exact ⟨rfl,rfl,fun _=>rfl,fun _=>eq_true trivial,fun g=>qff g h1 h2,fun _ _ _ _ _=>rfl⟩
end RC
end
