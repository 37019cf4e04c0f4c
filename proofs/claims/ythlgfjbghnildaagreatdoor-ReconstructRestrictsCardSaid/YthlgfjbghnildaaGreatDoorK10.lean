import Derived.Test.YthlgfjbghnildaaGreatDoorK9
import Derived.Test.YthlgfjbghnildaaGreatDoorK1
import Derived.Test.YthlgfjbghnildaaGreatDoorK3
import Derived.Test.YthlgfjbghnildaaGreatDoorK6
import Derived.Test.YthlgfjbghnildaaGreatDoorProg
set_option linter.all false
set_option linter.unusedSimpArgs false
set_option linter.unusedVariables false
set_option linter.unusedSectionVars false
set_option maxRecDepth 100000
section
open Go Go.Proofs AF HY LN
namespace RC
set_option maxHeartbeats 4000000
theorem qcs {a:En} {r:List En} (h:jS (a::r)=false):jS r=false:=by
 cases r with
 |nil=>rfl
 |cons b r=>rw [jS,Bool.or_eq_false_iff]at h;exact h.2
theorem qlD {L:List En} (hs:L.Pairwise fun a b=>qce b a=false) (hc:jS L=false):L.Pairwise fun a b=>qce a b=true:=by
 induction L with
 |nil=>exact List.Pairwise.nil
 |cons a r ih=>
  obtain ⟨h1,h2⟩:=List.pairwise_cons.1 hs
  have h3:=ih h2 (qcs hc)
  refine List.pairwise_cons.2 ⟨?_,h3⟩
  cases r with
  |nil=>intro z hz;cases hz
  |cons b r=>
   have hab:qce a b=true:=by
    rw [jS,Bool.or_eq_false_iff]at hc
    have h5:=hc.1
    unfold j7 at h5
    rw [Bool.or_eq_false_iff,Bool.and_eq_false_imp,decide_eq_false_iff_not,decide_eq_true_iff,decide_eq_false_iff_not]at h5
    have h4:=h1 b (by simp)
    rw [qaI]at h4
    rw [kA]
    obtain ⟨h5,h6⟩:=h5
    by_cases e:a.frm=b.frm
    ·have:=h6 e;omega
    ·omega
   intro z hz
   rcases List.mem_cons.1 hz with rfl|hz
   ·exact hab
   ·have h6:=(List.pairwise_cons.1 h3).1 z hz
    rw [kA]at*
    omega
theorem qmR {L:List En} (hc:jS L=false) {i:Nat} (hi:i+1<L.length):(L.getD i default).to≤(L.getD (i+1) default).frm:=by
 cases h:j7 (L.getD i default) (L.getD (i+1) default)with
 |true=>rw [(qdG L).2 ⟨i,hi,h⟩]at hc;cases hc
 |false=>
  unfold j7 at h
  rw [Bool.or_eq_false_iff,decide_eq_false_iff_not]at h
  omega
theorem qg9 (names:List Str) (gs:List Gr) (l:List En) (src:Int):(ofE names gs l src).Pairwise fun a b=>qce b a=false:=List.Pairwise.filter _ (qfg l)
theorem kM {names:List Str} {gs:List Gr} {l:List En} (h:ky names gs l=false) {s:Nat} (hs:s<names.length):jS (ofE names gs l (s:Int))=false:=
 qQ.1 h s hs
structure qp1 (names:List Str) (gs:List Gr) (t:List Str) (l:List En):Prop where
 sg:sgE names gs=0
 n:l.length≤4096
 ck: ∀e∈l,qcr names gs t e=0
 cl:ky names gs l=false
theorem qpS {names:List Str} {gs:List Gr} {t:List Str} {l:List En}:rdE names gs t l=0↔qp1 names gs t l:=by
 have key:(∀e∈l,qcr names gs t e=0)↔kQ (fun i=>qcr names gs t (l.getD i default)) 0 l.length=0:=by
  rw [kp]
  constructor
  ·intro h i hi
   refine h _ ?_
   rw [gdqA,q9 hi]
   exact List.getElem_mem hi
  ·intro h e he
   obtain ⟨i,hi,rfl⟩:=List.getElem_of_mem he
   have:=h i hi
   rw [gdqA,q9 hi]at this
   exact this
 unfold rdE
 constructor
 ·intro h
  split at h
  ·cases h
  rename_i h1
  split at h
  ·cases h
  rename_i h2
  split at h
  ·rename_i h3;exact absurd h h3
  rename_i h3
  split at h
  ·cases h
  rename_i h4
  exact ⟨Classical.not_not.1 h1,by omega,key.2 (Classical.not_not.1 h3),by simpa using h4⟩
 ·rintro ⟨h1,h2,h3,h4⟩
  rw [if_neg (fun hc=>hc h1),if_neg (by omega),if_neg (fun hc=>hc (key.1 h3)),if_neg (by rw [h4];simp)]
structure qwH (names:List Str) (gs:List Gr) (t:List Str) (e:En):Prop where
 sg:sgE names gs=0
 tn:t.length≤4096
 tw:qaD t=0
 lay:0≤e.layer∧e.layer<16
 rng:0≤e.frm∧e.frm≤e.to∧e.to≤t.length
 sp:0<e.sup.length→e.pos=true
 ne:e.vars.length≠0
 va: ∀i,i<e.vars.length→qen t e i=0
 es:jR names gs e.sup=0
 ev: ∀i,i<e.vars.length→jR names gs (e.vars.getD i default).sigla=0
 tc:(kf names gs e e.vars.length).2=false
theorem qcN {names:List Str} {gs:List Gr} {t:List Str} {e:En}:qcr names gs t e=0↔qwH names gs t e:=by
 unfold qcr
 constructor
 ·intro h
  split at h
  ·cases h
  rename_i h1
  split at h
  ·cases h
  rename_i h2
  split at h
  ·cases h
  rename_i h3
  split at h
  ·cases h
  rename_i h4
  split at h
  ·cases h
  rename_i h5
  split at h
  ·cases h
  rename_i h6
  split at h
  ·rename_i h7;exact absurd h h7
  rename_i h7
  split at h
  ·rename_i h8;exact absurd h h8
  rename_i h8
  split at h
  ·rename_i h9;exact absurd h h9
  rename_i h9
  split at h
  ·cases h
  rename_i h10
  unfold qoq at h4
  refine ⟨Classical.not_not.1 h1,by omega,Classical.not_not.1 h3,by omega,by omega,fun h=> ?_,h6,kp.1 (Classical.not_not.1 h7),Classical.not_not.1 h8,kp.1 (Classical.not_not.1 h9),?_⟩
  ·cases hp:e.pos with
   |true=>rfl
   |false=>exact absurd ⟨h,hp⟩ h5
  ·rw [qaa]at h10
   simpa using h10
 ·rintro ⟨h1,h2,h3,h4,h5,h6,h7,h8,h9,h10,h11⟩
  have hr: ¬qoq t e:=by unfold qoq;omega
  rw [if_neg (fun hc=>hc h1),if_neg (by omega),if_neg (fun hc=>hc h3),if_neg hr,if_neg (by rintro ⟨a,b⟩;rw [h6 a]at b;cases b),if_neg h7,if_neg (fun hc=>hc (qE (f:=qen t e) h8)),if_neg (fun hc=>hc h9),
   if_neg (fun hc=>hc (qE (f:=fun i=>jR names gs (e.vars.getD i default).sigla) h10)),if_neg (by rw [qaa,h11];simp)]
theorem qp5 (names:List Str) (gs:List Gr) (e:En): ∀i,(kf names gs e i).2=false→ ∀x:Int,(x∈(kf names gs e i).1↔x∈zI names gs e.sup∨ ∃j,j<i∧x∈zI names gs (e.vars.getD j default).sigla):=by
 intro i
 induction i with
 |zero=>intro _ x;simp [kf]
 |succ i ih=>
  intro h x
  rw [k9]at h ⊢
  simp only [Bool.or_eq_false_iff]at h
  have hi:=ih h.1 x
  have hb1:x∈(kf names gs e i).1→0≤x∧x<64:=fun hx=>zJ (jZ (qh3 names gs e i).1).1 x hx
  have hb2:x∈zI names gs (e.vars.getD i default).sigla→0≤x∧x<64:=fun hx=>zJ (jZ (qbB names gs _).1).1 x hx
  have hm:x∈qP (fun k=>decide ((k:Int)∈(kf names gs e i).1)||decide ((k:Int)∈zI names gs (e.vars.getD i default).sigla)) 64↔x∈(kf names gs e i).1∨x∈zI names gs (e.vars.getD i default).sigla:=by
   unfold qP
   rw [List.mem_map]
   constructor
   ·rintro ⟨k,hk,rfl⟩
    have:=(List.mem_filter.1 hk).2
    simpa [Bool.or_eq_true] using this
   ·intro hx
    have hb:0≤x∧x<64:=hx.elim hb1 hb2
    refine ⟨x.toNat,List.mem_filter.2 ⟨List.mem_range.2 (by omega),?_⟩,by simp;omega⟩
    rw [show ((x.toNat:Nat):Int)=x by omega]
    simpa [Bool.or_eq_true] using hx
  simp only [hm,hi]
  constructor
  ·rintro ((h|⟨j,hj,hx⟩)|hx)
   ·exact .inl h
   ·exact .inr ⟨j,by omega,hx⟩
   ·exact .inr ⟨i,by omega,hx⟩
  ·rintro (h|⟨j,hj,hx⟩)
   ·exact .inl (.inl h)
   ·by_cases e':j=i
    ·subst e';exact .inr hx
    ·exact .inl (.inr ⟨j,by omega,hx⟩)
end RC
end
section
open Go Go.Proofs AF HY LN
namespace RC
set_option maxHeartbeats 8000000
section
variable {k v w : Nat} {h : List AObj} {o o' : AObj} {ty : TypeId} {cs : List AV}
theorem cellsOf_setm (hk:k<h.length):cellsOf (qB k h (.mem w ty cs)) k v=if w=v then some cs else none:=by
 have:=qeC (l:= []) (v:=v) (w:=w) (ty:=ty) (cs:=cs) hk
 simpa using this
theorem setO_setm:qB k (qB k h o) o'=qB k h o':=qee
theorem tyOf_setm (hk:k<h.length):qv2 (qA k (qB k h (.mem w ty cs)))=ty:=by rw [zX hk];rfl
end
attribute [go_sem] cellsOf_setm setO_setm tyOf_setm
theorem qc1 {k v:Nat} {h:List AObj} {ty:TypeId} {cs:List AV} (hl: ∀n,∀c∈cs,zE n c=true): ∀o∈qB k h (.mem v ty cs),o∈h∨kX h.length o:=by
 intro o ho
 rcases qat ho with h1|rfl
 ·exact .inl h1
 ·exact .inr (fun c hc=>hl _ c hc)
theorem qzV (l:List En) (k v:Nat) (ty:TypeId) (h:List AObj) (hk:qA k h=some (.mem v ty (zA l))) (hl:l.length≤1000000) (h0:0<l.length):
  qm Tryz.prog 147 [.osl k v 6 0 l.length,.int .i64 0,.int .i64 l.length,.fn (.func 80) [] []] h (.tup []) (qB k h (.mem v ty (zA (ja l)))):=by
 have c80:=fun a b h=>qxa a b h
 have hkl:=zM hk
 have e0:h=qB k h (.mem v ty (zA (qnH l 1))):=by rw [qnJ h0];exact (qed hk).symm
 obtain ⟨n,hn⟩: ∃n,n=l.length:=⟨_,rfl⟩
 rw [←hn]at hl h0 ⊢
 refine acO qpA ?_
 simp (disch:=omega) only [qqo,List.replicate,go_sem]
 repeat' first
  |((first|apply qc|apply qb);exact rvk;simp only [go_sem];first|exact VLe.refl _|apply qd|apply qa|apply qe|skip)
  |with_reducible first|refine And.intro ?_ ?_|intro _
 all_goals try exact clz
 refine qo (T:=fun i:Nat=>qI 53 [(0,.osl k v 6 0 n),(1,.int .i64 0),(2,.int .i64 n),(3,.fn (.func 80) [] []),(8,.int .i64 i)]) (H:=fun i=>qB k h (.mem v ty (zA (qnH l i))))
  (inv:=fun i=>1≤i∧i≤n) (m:=fun i=>n-i) 1 ⟨by omega,by omega⟩ ?_ ?_
 ·rw [←e0]
  refine Wk.temps ?_
  (simp only [List.replicate,go_sem,qj,qh,qg,qi];try (repeat' first|(with_reducible refine And.intro ?_ ?_)|(apply qd;omega)|(apply qa;rfl)|exact VLe.refl _))
 rintro i ⟨i1,i2⟩ K hK
 by_cases hi:i<n
 ·have q0:((i:Int)<n)=True:=eq_true (by omega)
  simp (disch:=omega) only [List.replicate,q0,go_sem]
  repeat' first
   |((first|apply qc|apply qb);exact rvk;simp only [go_sem];first|exact VLe.refl _|apply qd|apply qa|apply qe|skip)
   |with_reducible first|refine And.intro ?_ ?_|intro _
  all_goals try exact clz
  have hil:i<l.length:=by omega
  have hst:=qrv hil
  have hend:=fun j=>qnI (l:=l) (i:=i) (j:=j) hil
  have hML:=qc9 (l:=l) (i:=i) (by omega)
  obtain ⟨x,hx⟩: ∃x,x=l.getD i default:=⟨_,rfl⟩
  obtain ⟨M,hM⟩: ∃M,M=qf8 l i:=⟨_,rfl⟩
  obtain ⟨r,hr⟩: ∃r,r=l.drop (i+1):=⟨_,rfl⟩
  have hrl:r.length=n-(i+1):=by rw [hr,List.length_drop,hn]
  rw [←hx,←hM,←hr]at hst
  simp only [←hx,←hM,←hr]at hend
  rw [←hM]at hML
  refine qo (T:=fun j:Nat=>qI 53 [(0,.osl k v 6 0 n),(1,.int .i64 0),(2,.int .i64 n),(3,.fn (.func 80) [] []),(8,.int .i64 i),(9,.int .i64 j)]) (H:=fun j=>qB k h (.mem v ty (zA (jV M x j r))))
   (inv:=fun j=>j≤i∧ ∀u,j≤u→u<i→qce x (M.getD u default)=true) (m:=fun j=>j) i ⟨Nat.le_refl _,fun u h1 h2=>by omega⟩ ?_ ?_
  ·rw [hst]
   refine Wk.temps ?_
   (simp only [List.replicate,go_sem,qj,qh,qg,qi];try (repeat' first|(with_reducible refine And.intro ?_ ?_)|(apply qd;omega)|(apply qa;rfl)|exact VLe.refl _))
  rintro j ⟨j1,j2⟩ K2 hK2
  have eL:=qj2 (M:=M) (x:=x) (j:=j) (r:=r) (by omega)
  have eC:=zV (jV M x j r)
  rw [eL]at eC
  cases j with
  |zero=>
   have z0:((0:Nat):Int)=0:=rfl
   have z1:((0:Int)<0)=False:=eq_false (by omega)
   rw [z0]
   simp (disch:=omega) only [List.replicate,z1,go_sem]
   repeat' first
    |(refine qu ( .bool false) ?_;simp (disch:=omega) only [z1,go_sem])
    |((first|apply qc|apply qb);exact rvk;simp only [go_sem];first|exact VLe.refl _|apply qd|apply qa|apply qe|skip)
    |with_reducible first|refine And.intro ?_ ?_|intro _
   all_goals try exact clz
   refine hK _ _ (i+1) ⟨by omega,by omega⟩ (by omega) ?_
   rw [hend 0 (Nat.zero_le _) j2 (.inl rfl)]
   refine Wk.temps ?_
   (simp only [List.replicate,go_sem,qj,qh,qg,qi];try (repeat' first|(with_reducible refine And.intro ?_ ?_)|(apply qd;omega)|(apply qa;rfl)|exact VLe.refl _))
  |succ m=>
   have ec:((m+1:Nat):Int)=(m:Int)+1:=by omega
   rw [ec]
   have q1:(0<(m:Int)+1)=True:=eq_true (by omega)
   have q2:((m:Int)+1<n)=True:=eq_true (by omega)
   have q3:((m:Int)<n)=True:=eq_true (by omega)
   have q4:(0≤(m:Int)+1)=True:=eq_true (by omega)
   have q5:(0≤(m:Int))=True:=eq_true (by omega)
   have rt1:((m:Int)+1).toNat=m+1:=by omega
   have g1:=qbx (L:=jV M x (m+1) r) (i:=m+1) (by omega)
   have g2:=qbx (L:=jV M x (m+1) r) (i:=m) (by omega)
   rw [qrt (by omega)]at g1
   rw [qru (by omega)]at g2
   have f1:((m+1)*6+6≤(M.length+1+r.length)*6)=True:=eq_true (by omega)
   have f2:(m*6+6≤(M.length+1+r.length)*6)=True:=eq_true (by omega)
   have f3:=qaL
   obtain ⟨y,hy⟩: ∃y,y=M.getD m default:=⟨_,rfl⟩
   rw [←hy]at g2
   have es1:=qfP (L:=jV M x (m+1) r) (i:=m+1) y (by omega)
   have esw:=qg1 (M:=M) (x:=x) (j:=m) (r:=r) (by omega)
   rw [←hy]at esw
   obtain ⟨zs,hzs⟩: ∃zs,zs=(jV M x (m+1) r).set (m+1) y:=⟨_,rfl⟩
   rw [←hzs]at es1 esw
   have ezl:zs.length=M.length+1+r.length:=by rw [hzs,List.length_set,eL]
   have eC2:=zV zs
   rw [ezl]at eC2
   have es2:=qfP (L:=zs) (i:=m) x (by omega)
   rw [esw]at es2
   cases hlt:qce x y with
   |true=>
    have hd:(qqx x y<0)=True:=eq_true ((qjm x y).2 hlt)
    simp (disch:=omega) only [List.replicate,q1,q2,q3,q4,q5,rt1,g1,g2,f1,f2,f3,Int.add_sub_cancel,Int.toNat_natCast,eC,go_sem]
    repeat' first
     |(refine jd (c80 _ _ _) ?_;simp (disch:=omega) only [q1,q2,q3,q4,q5,rt1,g1,g2,f1,f2,f3,Int.add_sub_cancel,Int.toNat_natCast,eC,eC2,hd,es1,es2,go_sem])
     |((first|apply qc|apply qb);exact rvk;simp only [go_sem];first|exact VLe.refl _|apply qd|apply qa|apply qe|skip)
     |with_reducible first|refine And.intro ?_ ?_|intro _
    all_goals try exact clz
    refine hK2 _ _ m ⟨by omega,fun u h1 h2=> ?_⟩ (by omega) (Wk.temps ?_)
    ·by_cases e:u=m
     ·subst e;rw [←hy];exact hlt
     ·exact j2 u (by omega) h2
    ·(simp only [List.replicate,go_sem,qj,qh,qg,qi];try (repeat' first|(with_reducible refine And.intro ?_ ?_)|(apply qd;omega)|(apply qa;rfl)|exact VLe.refl _))
   |false=>
    have hd:(qqx x y<0)=False:=eq_false (fun hc=>by rw [(qjm x y).1 hc]at hlt;cases hlt)
    simp (disch:=omega) only [List.replicate,q1,q2,q3,q4,q5,rt1,g1,g2,f1,f2,f3,Int.add_sub_cancel,Int.toNat_natCast,eC,go_sem]
    repeat' first
     |(refine jd (c80 _ _ _) ?_;simp (disch:=omega) only [q1,q2,q3,q4,q5,rt1,g1,g2,f1,f2,f3,Int.add_sub_cancel,Int.toNat_natCast,eC,hd,go_sem])
     |((first|apply qc|apply qb);exact rvk;simp only [go_sem];first|exact VLe.refl _|apply qd|apply qa|apply qe|skip)
     |with_reducible first|refine And.intro ?_ ?_|intro _
    all_goals try exact clz
    refine hK _ _ (i+1) ⟨by omega,by omega⟩ (by omega) ?_
    rw [hend (m+1) j1 j2 (.inr (by rw [show m+1-1=m by omega,←hy];exact hlt))]
    refine Wk.temps ?_
    (simp only [List.replicate,go_sem,qj,qh,qg,qi];try (repeat' first|(with_reducible refine And.intro ?_ ?_)|(apply qd;omega)|(apply qa;rfl)|exact VLe.refl _))
 ·have e:i=n:=by omega
  subst e
  have q0:((i:Int)<i)=False:=eq_false (by omega)
  simp (disch:=omega) only [List.replicate,q0,go_sem]
  repeat' first
   |((first|apply qc|apply qb);exact rvk;simp only [go_sem];first|exact VLe.refl _|apply qd|apply qa|apply qe|skip)
   |with_reducible first|refine And.intro ?_ ?_|intro _
  all_goals try exact clz
  have e2:qnH l i=ja l:=by
   unfold qnH
   rw [hn,qod,List.drop_length,List.append_nil]
  rw [e2]
  exact jH trivial qV (qc1 (qby _)) ⟨rfl,rfl⟩ (VLe.refl _)
end RC
end
section
open Go Go.Proofs AF HY LN
namespace AF
theorem jn {P:Program} {b:Nat} {x y z:C} {Q:Ex→Nx} {t:List AV} {h:List AObj} (H:qR P b ((x.seq y).seq z) Q t h):qR P b (x.seq (y.seq z)) Q t h:=by
 refine jG (x:=x) (fun e t h H=> ?_) H
 cases e with
 |normal=>exact H
 |ret=>exact H
 |exit id=>exact H
theorem qsb {P:Program} {b:Nat} {x y:C} {Q:Ex→Nx} {t:List AV} {h:List AObj} (I:List AV→List AObj→Prop) (hx: ∀K:Nx,(∀t h,I t h→K t h)→qR P b x (Ex.andThen K Q) t h)
  (hy: ∀t h,I t h→qR P b y Q t h):qR P b (x.seq y) Q t h:=hx _ hy
theorem Wk.cells {t:List AV} {h:List AObj} {j v:Nat} {ty:TypeId} {cs cs':List AV} (hj:qA j h=some (.mem v ty cs)) (hc:ke cs cs'):Wk t h t (qB j h (.mem v ty cs')):=by
 intro N w σ a H
 have hjl:j<σ.length:=by rw [H.hr.len];exact zM hj
 have ho:=q9 hjl
 obtain ⟨m1,m2,b,arr,m3,m4,m5,m6,m7,m8⟩:=H.hr.obj j _ _ hj ho
 have q:=H.hr.recell (cs':=cs') hj ho m3 m4 m5 (by rw [hc.length];exact m6) (fun i x hi hx=>m7 i x (by rw [←hc.length];exact hi) hx) (fun i c x hi hx=>by
  obtain ⟨c0,h1,h2⟩:=hc.get i c hi
  exact h2 _ _ _ (m8 i c0 x h1 hx))
 exact ⟨σ,⟨q,H.sz,H.tm,H.df⟩,Ext.refl _ _⟩
end AF
namespace RC
set_option maxHeartbeats 4000000
theorem qAi (l:List En) (k v:Nat) (ty:TypeId) (h:List AObj) (hk:qA k h=some (.mem v ty (zA l))) (hl:l.length<20) (h0:0<l.length):
  qm Tryz.prog 120 [.osl k v 6 0 l.length,.int .i64 l.length,.fn (.func 80) [] []] h (.tup []) (qB k h (.mem v ty (zA (ja l)))):=by
 have c147:=qzV l k v ty h hk (by omega) h0
 have q1:((20:Int)≤l.length)=False:=eq_false (by omega)
 have q2:((20:Int)<l.length)=False:=eq_false (by omega)
 refine acO qpw ?_
 simp (disch:=omega) only [qqk,List.replicate,go_sem]
 repeat' first
  |((first|apply qc|apply qb);exact rvk;simp only [go_sem];first|exact VLe.refl _|apply qd|apply qa|apply qe|skip)
  |with_reducible first|refine And.intro ?_ ?_|intro _
 all_goals try exact clz
 refine qo (T:=fun _:Unit=>qI 63 [(0,.osl k v 6 0 l.length),(1,.int .i64 l.length),(2,.fn (.func 80) [] []),(6,.int .i64 20),(7,.int .i64 0),(8,.int .i64 20)]) (H:=fun _=>h) (inv:=fun _=>True) (m:=fun _=>0) () trivial (Wk.temps ?_) ?_
 ·(simp only [List.replicate,go_sem,qj,qh,qg,qi];try (repeat' first|(with_reducible refine And.intro ?_ ?_)|(apply qd;omega)|(apply qa;rfl)|exact VLe.refl _))
 rintro _ _ K hK
 simp (disch:=omega) only [List.replicate,q1,go_sem]
 repeat' first
  |((first|apply qc|apply qb);exact rvk;simp only [go_sem];first|exact VLe.refl _|apply qd|apply qa|apply qe|skip)
  |with_reducible first|refine And.intro ?_ ?_|intro _
 all_goals try exact clz
 refine zh c147 (by exact flk) ?_
 simp (disch:=omega) only [go_sem]
 repeat' first
  |((first|apply qc|apply qb);exact rvk;simp only [go_sem];first|exact VLe.refl _|apply qd|apply qa|apply qe|skip)
  |with_reducible first|refine And.intro ?_ ?_|intro _
 all_goals try exact clz
 refine qo (T:=fun _:Unit=>qI 63 [(0,.osl k v 6 0 l.length),(1,.int .i64 l.length),(2,.fn (.func 80) [] []),(6,.int .i64 20)]) (H:=fun _=>qB k h (.mem v ty (zA (ja l)))) (inv:=fun _=>True) (m:=fun _=>0) () trivial (Wk.temps ?_) ?_
 ·(simp only [List.replicate,go_sem,qj,qh,qg,qi];try (repeat' first|(with_reducible refine And.intro ?_ ?_)|(apply qd;omega)|(apply qa;rfl)|exact VLe.refl _))
 rintro _ _ K2 hK2
 simp (disch:=omega) only [List.replicate,q2,go_sem]
 repeat' first
  |((first|apply qc|apply qb);exact rvk;simp only [go_sem];first|exact VLe.refl _|apply qd|apply qa|apply qe|skip)
  |with_reducible first|refine And.intro ?_ ?_|intro _
 all_goals try exact clz
 exact jH trivial qV (qc1 (qby _)) ⟨rfl,rfl⟩ (VLe.refl _)
theorem qAg (l:List En) (k v:Nat) (ty:TypeId) (h:List AObj) (hk:qA k h=some (.mem v ty (zA l))) (hl:l.length<20) (h0:0<l.length):
  qm Tryz.prog 79 [.osl k v 6 0 l.length,.fn (.func 80) [] []] h (.tup []) (qB k h (.mem v ty (zA (ja l)))):=by
 have c120:=qAi l k v ty h hk hl h0
 have hv:zf h k v=true:=by rw [qdY,hk];simp [qf0]
 refine acO qu4 ?_
 simp (disch:=omega) only [qw3,List.replicate,hv,go_sem]
 repeat' first
  |((first|apply qc|apply qb);exact rvk;simp only [go_sem];first|exact VLe.refl _|apply qd|apply qa|apply qe|skip)
  |with_reducible first|refine And.intro ?_ ?_|intro _
 all_goals try exact clz
 refine zh c120 (by exact flk) ?_
 simp (disch:=omega) only [go_sem]
 repeat' first
  |((first|apply qc|apply qb);exact rvk;simp only [go_sem];first|exact VLe.refl _|apply qd|apply qa|apply qe|skip)
  |with_reducible first|refine And.intro ?_ ?_|intro _
 all_goals try exact clz
 exact jH trivial qV (qc1 (qby _)) ⟨rfl,rfl⟩ (VLe.refl _)
theorem qj9 {L:List En} (h:L≠ []):valP (.isnil .slice false) [qz L]= .bool false:=by
 unfold qz
 rw [qaB,if_neg (by simpa using h)]
 rfl
theorem qzB (h:List AObj):qm Tryz.prog 31 [qz []] h (qz []) h:=by
 have s1:=fun h=>qly h []
 have z0:valP (.isnil .slice false) [qz []]= .anyb:=rfl
 have z1:okP (.isnil .slice false) [qz []]=True:=eq_true trivial
 have e0:zA []= []:=rfl
 refine acO quR ?_
 simp (disch:=omega) only [qwQ,List.replicate,s1,z0,z1,e0,go_sem]
 repeat' first
  |((first|apply qc|apply qb);exact rvk;simp only [go_sem];first|exact VLe.refl _|apply qd|apply qa|apply qe|skip)
  |with_reducible first|refine And.intro ?_ ?_|intro _
 all_goals try exact clz
 ·exact zQ
 ·rfl
 ·exact VLe.sl_eq rfl (fun i hi=>absurd hi (by simp))
theorem qzA (L:List En) (h:List AObj) (k:Nat) (hk:qD h k=true) (h0:L≠ []) (hl:L.length≤1000000):
  qm Tryz.prog 31 [qz L] h (.osl k (qs (qA k h)+1) 6 0 L.length) (qB k h (.mem (qs (qA k h)+1) 49 (zA L))):=by
 have s1:=fun h=>qly h L
 have eP:=zV L
 have hp:=List.length_pos_iff.2 h0
 have z0:=qj9 h0
 have z1:okP (.isnil .slice false) [qz L]=True:=eq_true trivial
 refine qp4 quR k (by simp) ?_
 simp only [List.length_cons,List.length_nil,Nat.reduceAdd,Nat.reduceSub,List.replicate,List.cons_append,List.nil_append,List.append_nil]
 simp (disch:=omega) only [qwQ,s1,z0,z1,go_sem]
 repeat' first
  |(with_reducible refine And.intro ?_ ?_)
  |(with_reducible intro _)
 all_goals first
  |omega
  |contradiction
  |skip
 ·rfl
 exact ⟨h.length+1,2,6,0,L.length,49,zA L,_,⟨trivial,trivial⟩,rfl,rfl,by omega,by simp only [go_sem],qby L _,hk,rfl,rfl⟩
end RC
end
section
open Go Go.Proofs AF HY LN
namespace RC
set_option maxHeartbeats 4000000
theorem qqa (L:List Int) (src:Int):jp (fun j=>decide (src=L.getD j 0)) L.length=decide (src∈L):=by
 by_cases h:src∈L
 ·rw [decide_eq_true h,zH]
  obtain ⟨j,hj,e⟩:=List.getElem_of_mem h
  exact ⟨j,hj,decide_eq_true (by rw [gdqA,q9 hj];exact e.symm)⟩
 ·rw [decide_eq_false h,qQ]
  intro j hj
  refine decide_eq_false fun e=>h ?_
  rw [e,gdqA,q9 hj]
  exact List.getElem_mem hj
theorem qxd (L:List Int) (x:Int) (h:List AObj) (hn:L.length≤1000000000):qm Tryz.prog 27 [ql L,.int .i64 x] h (.bool (decide (x∈L))) h:=by
 have:=qvl qxx L.length (fun j=> .i (L.getD j 0)) (.i x) h (fun _ _=>rfl) (by omega)
 simp only [At.v,At.i.injEq]at this
 have c:=qtT qxq ⟨rfl,rfl⟩ ⟨rfl,rfl⟩ this
 rw [←qqa]
 exact c
theorem qz2 (L:List Int) (x:Int) (h:List AObj) (hn:L.length≤1000000000):qm Tryz.prog 115 [ql L,.ip [.int .i64 x]] h (.bool (decide (x∈L))) h:=by
 have c27:=fun h=>qxd L x h hn
 refine acO qul ?_
 simp (disch:=omega) only [qtm,List.replicate,go_sem]
 repeat' first
  |((first|refine cA (c27 _) ?_ ?_|refine cG (fun e=>c27 _) ?_ ?_|refine cU (fun _=>c27 _) ?_ ?_);(next=>exact flk);simp (disch:=omega) only [go_sem])
  |((first|apply qc|apply qb);exact rvk;simp only [go_sem];first|exact VLe.refl _|apply qd|apply qa|apply qe|skip)
  |with_reducible first|refine And.intro ?_ ?_|intro _
 all_goals try exact clz
def stV (names:List Str) (gs:List Gr) (e:En):AV:= .sl e.vars.length fun j=> [ql (zI names gs (e.vars.getD j default).sigla)]
def msV (names:List Str) (gs:List Gr) (L:List En):AV:= .sl L.length fun i=> [stV names gs (L.getD i default)]
def edL (names:List Str) (gs:List Gr) (t:List Str) (L:List En):List AV:= [strs names,qv gs,strs t,qz L,msV names gs L]
theorem qni (names:List Str) (gs:List Gr) (e:En):(stV names gs e).flag=true:=rfl
theorem qlJ (names:List Str) (gs:List Gr) (e:En):(stV names gs e).strip=stV names gs e:=rfl
theorem qng (names:List Str) (gs:List Gr) (L:List En):(msV names gs L).flag=true:=rfl
theorem qlH (names:List Str) (gs:List Gr) (L:List En):(msV names gs L).strip=msV names gs L:=rfl
theorem qre {fz:Nat→Bool} {h:List AObj} {n:Nat} (names:List Str) (gs:List Gr) (e:En):frz fz h (n+1) (stV names gs e)=stV names gs e:=rfl
theorem qr6 {fz:Nat→Bool} {h:List AObj} {n:Nat} (names:List Str) (gs:List Gr) (e:En):rei fz h (n+1) (stV names gs e)=stV names gs e:=rfl
theorem qrd {fz:Nat→Bool} {h:List AObj} {n:Nat} (names:List Str) (gs:List Gr) (L:List En):frz fz h (n+1) (msV names gs L)=msV names gs L:=rfl
theorem qr5 {fz:Nat→Bool} {h:List AObj} {n:Nat} (names:List Str) (gs:List Gr) (L:List En):rei fz h (n+1) (msV names gs L)=msV names gs L:=rfl
attribute [go_sem] qni qlJ qng qlH qre qr6 qrd qr5
theorem qxZ (names:List Str) (gs:List Gr) (e:En) (src:Int) (h:List AObj) (hl:e.vars.length≤1000000000):
  qm Tryz.prog 114 [stV names gs e,.fn (.func 115) [] [.ip [.int .i64 src]]] h (.int .i64 (vIx names gs e src)) h:=by
 unfold stV vIx
 refine qj0 quk e.vars.length (fun j=> [ql (zI names gs (e.vars.getD j default).sigla)]) (fun j=>ql (zI names gs (e.vars.getD j default).sigla)) _ [] [.ip [.int .i64 src]] (inV names gs e src) h (fun i _=>⟨rfl,by simp [jA],rfl,rfl,rfl⟩) (fun i _=> ?_) (by omega)
 exact qz2 _ src h (by have:=(qbB names gs (e.vars.getD i default).sigla).2;omega)
def xsE (names:List Str) (gs:List Gr) (L:List En) (src:Int):List (List AV):=(L.filter (qa8 names gs src)).map fun e=> [.agg (enC e),strs (qh0 names gs e src)]
theorem qq4 {L:List En} {p:En→Bool} {i:Nat} (hi:i<L.length) (hp:p (L.getD i default)=true): ∃h:((L.take i).filter p).length<(L.filter p).length,(L.filter p)[((L.take i).filter p).length]=L.getD i default:=by
 have e1:L.getD i default=L[i]:=by rw [gdqA,q9 hi];rfl
 have e:L.filter p=(L.take i).filter p++L[i]::(L.drop (i+1)).filter p:=by
  conv=>lhs;rw [←List.take_append_drop i L,List.filter_append,List.drop_eq_getElem_cons hi,List.filter_cons,if_pos (by rw [←e1];exact hp)]
 refine ⟨by rw [e];simp,?_⟩
 simp only [e]
 rw [List.getElem_append_right (Nat.le_refl _)]
 simp only [Nat.sub_self,List.getElem_cons_zero]
 exact e1.symm
theorem qjC {L:List En} {p:En→Bool} {i:Nat} (hi:i<L.length):((L.take (i+1)).filter p).length=((L.take i).filter p).length+if p (L.getD i default)=true then 1 else 0:=by
 have e1:L.getD i default=L[i]:=by rw [gdqA,q9 hi];rfl
 rw [List.take_succ_eq_append_getElem hi,List.filter_append,List.length_append,List.filter_cons,e1]
 split<;>rfl
theorem qv3 (names:List Str) (gs:List Gr) (e:En) (src:Int):vIx names gs e src<e.vars.length:=by
 unfold vIx
 rcases jI (inV names gs e src) e.vars.length with ⟨i,h1,_,_,h4⟩|⟨_,h2⟩
 ·rw [h4];omega
 ·rw [h2];omega
set_option maxHeartbeats 8000000 in
theorem itO (names:List Str) (gs:List Gr) (t:List Str) (L:List En) (src:Int) (hl:L.length≤1000000) (hv: ∀i,(L.getD i default).vars.length≤1000000000):
  qs6 Tryz.prog 113 [.ip (edL names gs t L),.ip [.int .i64 src]] (xsE names gs L src):=by
 intro h ts LI S E hS hE body start hts
 refine acQ quj ?_
 simp (disch:=omega) only [qtl,List.replicate,edL,qz,go_sem]
 repeat' first
  |((first|apply qc|apply qb);exact rvk;simp only [go_sem];first|exact VLe.refl _|apply qd|apply qa|apply qe|skip)
  |with_reducible first|refine And.intro ?_ ?_|intro _
 all_goals try exact clz
 obtain ⟨p,hp⟩: ∃p,p=qa8 names gs src:=⟨_,rfl⟩
 have hxl:(xsE names gs L src).length=(L.filter p).length:=by rw [hp];simp [xsE]
 refine qo (T:=fun i:Nat×List AObj×AObj=>qI 37 [(0,.yld h.length),(1,.ip (edL names gs t L)),(2,.ip [.int .i64 src]),(8,qz L),(9,.int .i64 L.length),(10,.int .i64 i.1)])
  (H:=fun i=>i.2.1++ [.lp .ready ts LI]++ [i.2.2])
  (inv:=fun i=>i.1≤L.length∧S ((L.take i.1).filter p).length i.2.1∧qD [i.2.2] 0=true) (m:=fun i=>L.length-i.1) (0,h,.emp 0) ⟨Nat.zero_le _,start,rfl⟩ (Wk.temps ?_) ?_
 ·(simp only [edL,qz,List.replicate,go_sem,qj,qh,qg,qi];try (repeat' first|(with_reducible refine And.intro ?_ ?_)|(apply qd;omega)|(apply qa;rfl)|exact VLe.refl _))
 rintro ⟨i,hh,O⟩ ⟨i1,i2,i3⟩ K hK
 simp only at i1 i2 i3 hK
 obtain ⟨hlen,hlow⟩:=hS _ _ i2
 have hb:(h++ [AObj.lp LS.ready ts LI]).length=(hh++ [AObj.lp LS.ready ts LI]).length:=by simp [hlen]
 rw [hb]
 have i3': ∀m,qD (O::m) 0=true:=fun _=>i3
 by_cases hi:i<L.length
 ·have q0:((i:Int)<L.length)=True:=eq_true (by omega)
  have hst:=qjC (p:=p) hi
  have hfx:=qq4 (p:=p) hi
  have hvl:=hv i
  have c114:=fun h=>qxZ names gs (L.getD i default) src h hvl
  have hlt:=qv3 names gs (L.getD i default) src
  have hpe:p (L.getD i default)=decide (0≤vIx names gs (L.getD i default) src):=by rw [hp];rfl
  have hX: ∀(hd:((L.take i).filter p).length<(xsE names gs L src).length),p (L.getD i default)=true→(xsE names gs L src)[((L.take i).filter p).length]= [.agg (enC (L.getD i default)),strs (qh0 names gs (L.getD i default) src)]:=by
   intro hd hpp
   obtain ⟨h1,h2⟩:=hfx hpp
   unfold xsE
   simp only [List.getElem_map,←hp]
   rw [h2]
  have hW:qh0 names gs (L.getD i default) src=((L.getD i default).vars.getD (vIx names gs (L.getD i default) src).toNat default).words:=rfl
  obtain ⟨x,hx⟩: ∃x,x=L.getD i default:=⟨_,rfl⟩
  have ex:=hx.symm
  simp only [ex]at c114 hst hlt hpe hX hvl hW hfx
  obtain ⟨d,hd⟩: ∃d,d=((L.take i).filter p).length:=⟨_,rfl⟩
  rw [←hd]at i2 hst hfx
  simp only [←hd]at hX
  obtain ⟨k,hk⟩: ∃k,k=vIx names gs x src:=⟨_,rfl⟩
  rw [←hk]at c114 hlt hpe hW
  by_cases hk0:0≤k
  ·obtain ⟨u,rfl⟩: ∃u:Nat,k=(u:Int):=⟨k.toNat,by omega⟩
   rw [Int.toNat_natCast]at hW
   rw [decide_eq_true hk0]at hpe
   rw [hpe,if_pos rfl]at hst
   have q1:((0:Int)≤u)=True:=eq_true hk0
   have q2:((u:Int)<x.vars.length)=True:=eq_true hlt
   have hdl:d<(xsE names gs L src).length:=by rw [hxl];exact (hfx hpe).1
   have hxx:=hX hdl hpe
   obtain ⟨wd,hwd⟩: ∃wd,wd=x.vars.getD u default:=⟨_,rfl⟩
   have ewd:=hwd.symm
   rw [ewd]at hW
   rw [hW]at hxx
   have hb':=fun O'=>body d hh [O'] hdl i2
   rw [hxx]at hb'
   simp (disch:=omega) only [List.replicate,edL,qz,msV,enC,i3',q0,ex,go_sem]
   unfold stV at c114
   repeat' first
    |((first|refine cA (c114 _) ?_ ?_|refine cG (fun e=>c114 _) ?_ ?_|refine cU (fun _=>c114 _) ?_ ?_);(next=>exact flk);simp (disch:=omega) only [edL,qz,msV,stV,enC,qS,vaC,i3',q0,q1,q2,ex,ewd,go_sem])
    |((first|apply qc|apply qb);exact rvk;simp only [go_sem];first|exact VLe.refl _|apply qd|apply qa|apply qe|skip)
    |with_reducible first|refine And.intro ?_ ?_|intro _
   all_goals try exact clz
   ·exact ⟨.ready,ts,LI,by rw [List.append_assoc];exact kq hlen⟩
   ·rw [List.append_assoc]
    refine kg.mono ?_ (hb' _)
    rintro v h' ⟨hh',⟨rfl,hn,rfl⟩|⟨st,rfl,hs',rfl⟩⟩
    ·simp (disch:=omega) only [q1,go_sem]
     repeat' first
      |((first|apply qc|apply qb);exact rvk;simp only [go_sem];first|exact VLe.refl _|apply qd|apply qa|apply qe|skip)
      |with_reducible first|refine And.intro ?_ ?_|intro _
     all_goals try exact clz
     refine hK _ _ (i+1,hh',.mem (qs (some O)+1) 49 (enC x)) ⟨hi,by simp only;rw [hst];exact hn,rfl⟩ (by simp only;omega) ?_
     simp only [List.append_assoc]
     refine Wk.temps ?_
     (simp only [edL,qz,List.replicate,go_sem,qj,qh,qg,qi];try (repeat' first|(with_reducible refine And.intro ?_ ?_)|(apply qd;omega)|(apply qa;rfl)|exact VLe.refl _))
    ·simp (disch:=omega) only [q1,go_sem]
     obtain ⟨r1,r2⟩:=(hE _ _ hs').ret (L:=LI) st hts
     have eO: ∀O',hh'++AObj.lp st ts LI:: [O']=(hh'++ [AObj.lp st ts LI])++ [O']:=fun _=>by simp
     rw [eO]
     exact qjR trivial r1 r2 ⟨_,.inr ⟨st,hs',rfl⟩⟩ (VLe.refl _)
  ·have q1:(0≤k)=False:=eq_false hk0
   rw [decide_eq_false hk0]at hpe
   rw [hpe,if_neg (by simp),Nat.add_zero]at hst
   simp (disch:=omega) only [List.replicate,edL,qz,msV,enC,i3',q0,ex,go_sem]
   unfold stV at c114
   repeat' first
    |((first|refine cA (c114 _) ?_ ?_|refine cG (fun e=>c114 _) ?_ ?_|refine cU (fun _=>c114 _) ?_ ?_);(next=>exact flk);simp (disch:=omega) only [edL,qz,msV,stV,enC,qS,vaC,i3',q0,q1,ex,go_sem])
    |((first|apply qc|apply qb);exact rvk;simp only [go_sem];first|exact VLe.refl _|apply qd|apply qa|apply qe|skip)
    |with_reducible first|refine And.intro ?_ ?_|intro _
   all_goals try exact clz
   refine hK _ _ (i+1,hh,.mem (qs (some O)+1) 49 (enC x)) ⟨hi,by simp only;rw [hst];exact i2,rfl⟩ (by simp only;omega) ?_
   simp only
   refine Wk.temps ?_
   (simp only [edL,qz,List.replicate,go_sem,qj,qh,qg,qi];try (repeat' first|(with_reducible refine And.intro ?_ ?_)|(apply qd;omega)|(apply qa;rfl)|exact VLe.refl _))
 ·have e:i=L.length:=by omega
  subst e
  have q0:((L.length:Int)<L.length)=False:=eq_false (by omega)
  rw [List.take_length]at i2
  simp (disch:=omega) only [List.replicate,edL,qz,i3',q0,go_sem]
  repeat' first
   |((first|apply qc|apply qb);exact rvk;simp only [go_sem];first|exact VLe.refl _|apply qd|apply qa|apply qe|skip)
   |with_reducible first|refine And.intro ?_ ?_|intro _
  all_goals try exact clz
  obtain ⟨r1,r2⟩:=(hS _ _ i2).ret (L:=LI) .ready hts
  exact qnt trivial r1 r2 ⟨hh,.inl ⟨by rw [hxl];exact i2,rfl⟩⟩ (VLe.refl _)
end RC
end
section
open Go Go.Proofs AF HY LN
namespace AF
theorem jY {P:Program} {f:FuncId} {cap:List AV} {xs:List (List AV)} (hf:qs6 P f cap xs) {ps:List Nat} {b:Nat} {x y:C} {Q:Ex→Nx} {ts:List AV} {h:List AObj} (hps: ∀a∈xs,a.length=ps.length)
  (S:Nat→List AObj→Prop) (E:Ex→List AObj→Prop) (hS: ∀i hh,S i hh→LowI h hh) (hE: ∀s hh,E s hh→LowI h hh)
  (start:S 0 h) (hts: ∀c∈ts,zE (h.length+1) c=true)
  (body: ∀i hh tl L TS,(hi:i<xs.length)→S i hh→hh.length=h.length→ ∀(K:Nx) (K2:Ex→Nx),
   (∀t2 X hm,X=hm++ .lp .ready TS L::tl→hm.length=h.length→qR P b y K2 t2 (hm++ .lp .busy TS L::tl)→K t2 X)→
   (∀t3 X hh',X=hh'++ .lp .busy TS L::tl→hh'.length=h.length→S (i+1) hh'→K2 .normal t3 X)→
   (∀t3 X hh',X=hh'++ .lp .busy TS L::tl→hh'.length=h.length→E .ret hh'→K2 .ret t3 X)→
   (∀id t3 X hh',X=hh'++ .lp .busy TS L::tl→hh'.length=h.length→E (.exit id) hh'→K2 (.exit id) t3 X)→
   qR P b x (Ex.andThen K (fun _ _ _=>False)) (qaW ts ps (xs[i])) (hh++ .lp .ready TS L::tl))
  (done: ∀hh,S xs.length hh→Q .normal ts hh) (doneE: ∀e hh,E e hh→match e with
   | .normal=>False
   |e=>Q e ts hh):
  qd6 P (.fn (.func f) [] cap) ps (qR P b x) (qR P b y) Q ts h:=by
 intro L hy
 show zZ _ _ _ _ _
 have key:=hf h ts L S (fun s hh=>match s with
  | .ret=>E .ret hh
  | .exit id=>E (.exit id) hh
  |_=>False) hS
  (by
   intro s hh hs
   cases s with
   |ret=>exact hE _ _ hs
   |exit id=>exact hE _ _ hs
   |ready=>exact hs.elim
   |busy=>exact hs.elim)
  (by
   intro i hh tl hi i4
   have hlen:=(hS _ _ i4).1
   refine hy h.length ts _ _ _ (kq hlen) (hps _ (List.getElem_mem hi)) ?_
   refine jG (Q:=Ex.andThen (fun t2 h2=> ∃hm,hm.length=h.length∧h2=hm++ .lp .ready ts L::tl∧
    qR P b y (fun e t3 h3=> ∃hh',h3=hh'++ .lp .busy ts L::tl∧hh'.length=h.length∧match e with
     | .normal=>S (i+1) hh'
     | .ret=>E .ret hh'
     | .exit id=>E (.exit id) hh') t2 (hm++ .lp .busy ts L::tl)) (fun _ _ _=>False)) ?_
    (body i hh tl L ts hi i4 hlen _ _ (fun t2 X hm e1 e2 e3=>⟨hm,e2,e1,e3⟩) (fun t3 X hh' e1 e2 e3=>⟨hh',e1,e2,e3⟩) (fun t3 X hh' e1 e2 e3=>⟨hh',e1,e2,e3⟩) (fun id t3 X hh' e1 e2 e3=>⟨hh',e1,e2,e3⟩))
   intro e t2 h2 hq
   cases e with
   |ret=>exact hq.elim
   |exit id=>exact hq.elim
   |normal=>
    obtain ⟨hm,hml,rfl,h3⟩:=hq
    refine ⟨rfl,⟨ts,kq hml⟩,fun ts' hts'=> ?_⟩
    rw [kq hml]at hts'
    cases hts'
    rw [qbh hml]
    refine jG ?_ h3
    rintro e t3 h3' ⟨hh',rfl,g1,g2⟩
    refine ⟨ts,kq g1,?_⟩
    cases e with
    |normal=>exact ⟨hh',.inl ⟨rfl,g2,qbh g1⟩⟩
    |ret=>exact ⟨hh',.inr ⟨.ret,rfl,g2,qbh g1⟩⟩
    |exit id=>exact ⟨hh',.inr ⟨.exit id,rfl,g2,qbh g1⟩⟩)
  start hts
 refine key.le (ke.refl _) ?_
 rintro v h' ⟨hh,⟨g1,rfl⟩|⟨s,g1,rfl⟩⟩
 ·have hl:=hS _ _ g1
  exact ⟨v,VLe.refl _,hh,.ready,ts,L,rfl,hl.1,fun o ho=>(hl.2 o ho).imp (fun h=>h) And.left,done hh g1⟩
 ·cases s with
  |ready=>exact g1.elim
  |busy=>exact g1.elim
  |ret=>
   have hl:=hE _ _ g1
   exact ⟨v,VLe.refl _,hh,.ret,ts,L,rfl,hl.1,fun o ho=>(hl.2 o ho).imp (fun h=>h) And.left,doneE _ _ g1⟩
  |exit id=>
   have hl:=hE _ _ g1
   exact ⟨v,VLe.refl _,hh,.exit id,ts,L,rfl,hl.1,fun o ho=>(hl.2 o ho).imp (fun h=>h) And.left,doneE _ _ g1⟩
end AF
namespace RC
set_option maxHeartbeats 4000000
theorem ofP (names:List Str) (gs:List Gr) (t:List Str) (L:List En) (src:Int) (h:List AObj):
  qm Tryz.prog 75 [.agg (edL names gs t L),.int .i64 src] h (.fn (.func 113) [] [.ip (edL names gs t L),.ip [.int .i64 src]]) h:=by
 unfold edL
 refine acO qxI ?_
 simp (disch:=omega) only [qyS,List.replicate,go_sem]
 repeat' first
  |((first|apply qc|apply qb);exact rvk;simp only [go_sem];first|exact VLe.refl _|apply qd|apply qa|apply qe|skip)
  |with_reducible first|refine And.intro ?_ ?_|intro _
 all_goals try exact clz
theorem qbE (n:Nat) (L:List Str):zE n (strs L)=true:=rfl
theorem qc0 (n:Nat) (L:List Gr):zE n (qv L)=true:=rfl
theorem qcZ (n:Nat) (L:List En):zE n (qz L)=true:=rfl
theorem qeT (n:Nat) (names:List Str) (gs:List Gr) (L:List En):zE n (msV names gs L)=true:=rfl
theorem qa4 (names:List Str) (gs:List Gr) (L:List En) (src:Int):(xsE names gs L src).length=(L.filter (qa8 names gs src)).length:=by simp [xsE]
theorem qfC (names:List Str) (gs:List Gr) (L:List En) (src:Int) {i:Nat} (hi:i<(xsE names gs L src).length):
  (xsE names gs L src)[i]= [.agg (enC ((L.filter (qa8 names gs src)).getD i default)),strs (qh0 names gs ((L.filter (qa8 names gs src)).getD i default) src)]:=by
 have hi':i<(L.filter (qa8 names gs src)).length:=by rw [qa4]at hi;exact hi
 simp only [xsE,List.getElem_map]
 rw [gdqA,q9 hi']
 rfl
theorem qfD (names:List Str) (gs:List Gr) (L:List En) (src:Int): ∀a∈xsE names gs L src,a.length=2:=by
 intro a ha
 unfold xsE at ha
 obtain ⟨_,_,rfl⟩:=List.mem_map.1 ha
 rfl
theorem qy5 (names:List Str) (gs:List Gr) (t:List Str) (L:List En) (src:Int) (h:List AObj) (hl:L.length≤1000000) (hv: ∀i,(L.getD i default).vars.length≤1000000000):
  qm Tryz.prog 46 [.agg (edL names gs t L),.int .i64 src] h (.int .i64 (L.filter (qa8 names gs src)).length) h:=by
 have c75:=fun h=>ofP names gs t L src h
 have hle:=List.length_filter_le (qa8 names gs src) L
 unfold edL at c75
 refine acO qxv ?_
 simp (disch:=omega) only [qyG,List.replicate,edL,go_sem]
 repeat' first
  |((first|refine cA (c75 _) ?_ ?_|refine cG (fun e=>c75 _) ?_ ?_|refine cU (fun _=>c75 _) ?_ ?_);(next=>exact flk);simp (disch:=omega) only [go_sem])
  |((first|apply qc|apply qb);exact rvk;simp only [go_sem];first|exact VLe.refl _|apply qd|apply qa|apply qe|skip)
  |with_reducible first|refine And.intro ?_ ?_|intro _
 all_goals try exact clz
 refine jY (xs:=xsE names gs L src) (itO names gs t L src hl hv) (qfD names gs L src)
  (S:=fun i hh=>hh=h++ [.mem 1 71 (edL names gs t L),.mem 1 3 [.int .i64 i]]) (E:=fun _ _=>False) ?_ (fun _ _ h=>h.elim) ?_ ?_ ?_ ?_ (fun _ _ h=>h.elim)
 ·rintro i hh rfl
  refine LowI.app rfl (fun o ho=> ?_)
  simp only [List.mem_cons,List.not_mem_nil,or_false]at ho
  rcases ho with rfl|rfl
  ·left;simp [edL]
  ·right;constructor<;>(intro c hc;simp at hc;subst hc;rfl)
 ·rfl
 ·simp [zE,zE.lowVs,edL,qbE,qc0,qcZ,qeT]
  try omega
 ·rintro i hh tl LI TS hi rfl hlen K K2 hK hN hR hX
  rw [qfC names gs L src hi]
  rw [qa4]at hi
  simp only [qaW]
  simp (disch:=omega) only [List.append_assoc,go_sem]
  refine hK _ _ (h++ [.mem 1 71 (edL names gs t L),.mem 1 3 [.int .i64 i]]) (by simp) (by simp) ?_
  simp (disch:=omega) only [List.append_assoc,go_sem]
  repeat' first
   |((first|apply qc|apply qb);exact rvk;simp only [go_sem];first|exact VLe.refl _|apply qd|apply qa|apply qe|skip)
   |with_reducible first|refine And.intro ?_ ?_|intro _
  all_goals try exact clz
  refine hN _ _ (h++ [.mem 1 71 (edL names gs t L),.mem 1 3 [.int .i64 ((i+1:Nat):Int)]]) (by simp) (by simp) rfl
 ·rintro hh rfl
  rw [qa4]
  simp (disch:=omega) only [go_sem]
  repeat' first
   |((first|apply qc|apply qb);exact rvk;simp only [go_sem];first|exact VLe.refl _|apply qd|apply qa|apply qe|skip)
   |with_reducible first|refine And.intro ?_ ?_|intro _
  all_goals try exact clz
end RC
end
section
open Go Go.Proofs AF HY LN
namespace AF
theorem Wk.ownNil {t:List AV} {h:List AObj} {j v i k ve sz:Nat} {ty:TypeId} {cs:List AV} (hj:qA j h=some (.mem v ty cs)) (hi:cs[i]? =some .nl) (hk:qA k h=some (.emp ve)):
  Wk t h t (qB j h (.mem v ty (cs.set i (.osl k ve sz 0 0)))):=by
 intro N w σ a H
 have hjl:j<σ.length:=by rw [H.hr.len];exact zM hj
 have hkl:k<σ.length:=by rw [H.hr.len];exact zM hk
 have ho:=q9 hjl
 have hok:=q9 hkl
 obtain ⟨e1,e2⟩:=H.hr.obj k _ _ hk hok
 obtain ⟨m1,m2,b,arr,m3,m4,m5,m6,m7,m8⟩:=H.hr.obj j _ _ hj ho
 have q:=H.hr.recell (cs':=cs.set i (.osl k ve sz 0 0)) hj ho m3 m4 m5 (by simpa using m6) (fun n x hn hx=>m7 n x (by simpa using hn) hx) (fun n c x hn hx=>by
  rw [List.getElem?_set]at hn
  split at hn
  ·rename_i e
   subst e
   split at hn
   ·cases hn
    have hv:=m8 i _ x hi hx
    cases hv with
    |imm hv=>
     cases hv
     exact .osl _ hok ⟨none,0,0,rfl⟩ (Nat.le_of_eq e1.symm) (fun _=> .inl ⟨e2,rfl,rfl,rfl⟩)
   ·cases hn
  ·exact m8 n c x hn hx)
 exact ⟨σ,⟨q,H.sz,H.tm,H.df⟩,Ext.refl _ _⟩
end AF
namespace RC
set_option maxHeartbeats 4000000
def qcf (names:List Str) (gs:List Gr) (t:List Str) (src:Int) (L:List En):List Str×Nat:=
 L.foldl (fun o e=>(o.1++(j6 t o.2 e.frm.toNat++qh0 names gs e src),e.to.toNat)) ([],0)
theorem qlP (names:List Str) (gs:List Gr) (t:List Str) (src:Int) (L:List En) (e:En):
  qcf names gs t src (L++ [e])=((qcf names gs t src L).1++(j6 t (qcf names gs t src L).2 e.frm.toNat++qh0 names gs e src),e.to.toNat):=by
 unfold qcf
 rw [List.foldl_append]
 rfl
theorem qsq (names:List Str) (gs:List Gr) (t:List Str) (src:Int) (L:List En): ∀(o:List Str) (k:Nat),
  (L.foldl (fun o e=>(o.1++(j6 t o.2 e.frm.toNat++qh0 names gs e src),e.to.toNat)) (o,k)).1++j6 t (L.foldl (fun o e=>(o.1++(j6 t o.2 e.frm.toNat++qh0 names gs e src),e.to.toNat)) (o,k)).2 t.length=o++qoW names gs t src L k:=by
 induction L with
 |nil=>
  intro o k
  simp only [List.foldl_nil,qoW,j6]
  rw [List.take_of_length_le (by simp)]
 |cons e r ih=>
  intro o k
  rw [List.foldl_cons,ih]
  simp [qoW]
theorem qoX (names:List Str) (gs:List Gr) (t:List Str) (src:Int) (L:List En):
  (qcf names gs t src L).1++j6 t (qcf names gs t src L).2 t.length=qoW names gs t src L 0:=by
 have:=qsq names gs t src L [] 0
 rw [List.nil_append]at this
 exact this
structure qwz (t:List Str) (L:List En):Prop where
 rg: ∀i,i<L.length→0≤(L.getD i default).frm∧(L.getD i default).frm≤(L.getD i default).to∧(L.getD i default).to≤t.length
 nx: ∀i,i+1<L.length→(L.getD i default).to≤(L.getD (i+1) default).frm
theorem qlO {L:List En} {i:Nat} (hi:i<L.length):L.take (i+1)=L.take i++ [L.getD i default]:=by
 rw [List.take_succ_eq_append_getElem hi,gdqA,q9 hi]
 rfl
theorem qaA {names:List Str} {gs:List Gr} {t:List Str} {src:Int} {L:List En} {i:Nat} (hi:i<L.length):
  qcf names gs t src (L.take (i+1))=((qcf names gs t src (L.take i)).1++(j6 t (qcf names gs t src (L.take i)).2 (L.getD i default).frm.toNat++qh0 names gs (L.getD i default) src),(L.getD i default).to.toNat):=by
 rw [qlO hi,qlP]
theorem qsp {names:List Str} {gs:List Gr} {t:List Str} {src:Int} {L:List En} (ok:qwz t L): ∀i,i<L.length→((qcf names gs t src (L.take i)).2:Int)≤(L.getD i default).frm:=by
 intro i hi
 cases i with
 |zero=>exact (ok.rg 0 hi).1
 |succ i=>
  rw [qaA (by omega)]
  have:=ok.nx i hi
  have h2:=ok.rg i (by omega)
  show (((L.getD i default).to.toNat:Nat):Int)≤_
  omega
theorem qsr {names:List Str} {gs:List Gr} {t:List Str} {src:Int} {L:List En} (ok:qwz t L): ∀i,i≤L.length→(qcf names gs t src (L.take i)).2≤t.length:=by
 intro i hi
 cases i with
 |zero=>exact Nat.zero_le _
 |succ i=>
  rw [qaA (by omega)]
  have h2:=ok.rg i (by omega)
  show ((L.getD i default).to.toNat:Nat)≤_
  omega
theorem qmg {names:List Str} {gs:List Gr} {e:En} {src:Int} {W:Nat} (h: ∀i,(e.vars.getD i default).words.length≤W):(qh0 names gs e src).length≤W:=h _
theorem qoY {names:List Str} {gs:List Gr} {t:List Str} {src:Int} {W:Nat} {L:List En} (h: ∀i,i<L.length→ ∀k,((L.getD i default).vars.getD k default).words.length≤W):
  ∀i,i≤L.length→(qcf names gs t src (L.take i)).1.length≤i*(t.length+W):=by
 intro i
 induction i with
 |zero=>intro _;exact Nat.zero_le _
 |succ i ih=>
  intro hi
  rw [qaA (by omega)]
  have h1:=ih (by omega)
  have h2:=qmg (names:=names) (gs:=gs) (src:=src) (h i (by omega))
  have h3:(j6 t (qcf names gs t src (L.take i)).2 (L.getD i default).frm.toNat).length≤t.length:=by unfold j6;simp;omega
  simp only [List.length_append,Nat.add_mul,Nat.one_mul]
  omega
theorem qkm {names:List Str} {gs:List Gr} {l:List En} {src:Int} {e:En} (h:e∈ofE names gs l src):e∈l:=(jP l).subset (List.mem_filter.1 h).1
theorem jg {L:List En} {i:Nat} (hi:i<L.length):L.getD i default∈L:=by
 rw [gdqA,q9 hi]
 exact List.getElem_mem hi
theorem qp1.tx {names:List Str} {gs:List Gr} {t:List Str} {l:List En} (h:qp1 names gs t l) {s:Nat} (hs:s<names.length):qwz t (ofE names gs l (s:Int)):=
 ⟨fun i hi=>(qcN.1 (h.ck _ (qkm (jg hi)))).rng,fun i hi=>qmR (kM h.cl hs) hi⟩
end RC
end
section
open Go Go.Proofs AF HY LN
namespace RC
set_option maxHeartbeats 4000000
structure CSz (names:List Str) (gs:List Gr) (t:List Str) (l:List En):Prop where
 hz:Szs names gs
 ht:TSz t
 tn:t.length≤1000
 ln:l.length≤10
 nn:names.length≤1000
 gm: ∀i,(gs.getD i default).mem.length≤1000
 he: ∀i,ESz (l.getD i default)
 vl: ∀i,(l.getD i default).vars.length≤1000
 sg: ∀i j,((l.getD i default).vars.getD j default).sigla.length≤1000
 wl: ∀i j,((l.getD i default).vars.getD j default).words.length≤1000
 sp: ∀i,(l.getD i default).sup.length≤1000
def inR (names:List Str) (src:Int):Bool:=decide (0≤src)&&decide (src<names.length)
def opE (e:Int):Int:=if e=0 then 0 else 1
def qmq (names:List Str) (gs:List Gr) (t:List Str) (l:List En) (src:Int):Int:=if rdE names gs t l=0 then (if inR names src=true then 0 else 2) else 1
def qyd (names:List Str) (gs:List Gr) (t:List Str) (l:List En) (src:Int):List Str:=if qmq names gs t l src=0 then qss names gs t l src else []
def qmu (names:List Str) (gs:List Gr) (t:List Str) (l:List En) (n:Nat):List (List Str):=(List.range n).map fun (s:Nat)=>qss names gs t l (s:Int)
def qwI (names:List Str) (gs:List Gr) (t:List Str) (l:List En):List (List Str):=if rdE names gs t l=0 then qmu names gs t l names.length else []
def qxe (names:List Str) (gs:List Gr) (t:List Str) (l:List En) (src:Int):Int:=if qmq names gs t l src=0 then (ofE names gs l src).length else 0
def noE (names:List Str) (gs:List Gr) (l:List En) (s:Nat):Bool:=decide ((ofE names gs l (s:Int)).length=0)
def qwK (names:List Str) (gs:List Gr) (t:List Str) (l:List En):List Int:=if rdE names gs t l=0 then qP (noE names gs l) names.length else []
def jB (L:List (List Str)):AV:= .sl L.length fun i=> [strs (L.getD i [])]
def qds (L:List (List Str)):List AV:=L.map strs
theorem qgk (L:List (List Str)):(qds L).length=L.length:=by simp [qds]
theorem qoR (L M:List (List Str)):qds (L++M)=qds L++qds M:=by simp [qds]
theorem qoS {L:List (List Str)} {i:Nat} (hi:i<L.length):((qds L).drop i).take 1= [strs (L.getD i [])]:=by
 unfold qds
 rw [←List.map_drop,List.drop_eq_getElem_cons hi,List.map_cons,List.take_succ_cons,List.take_zero,gdqA,q9 hi]
 rfl
theorem qh5 (names:List Str) (gs:List Gr) (t:List Str) (l:List En) (n:Nat):qmu names gs t l (n+1)=qmu names gs t l n++ [qss names gs t l (n:Int)]:=by
 unfold qmu;rw [List.range_succ,List.map_append];rfl
theorem qmv (names:List Str) (gs:List Gr) (t:List Str) (l:List En) (n:Nat):(qmu names gs t l n).length=n:=by simp [qmu]
theorem qgT (L:List (List Str)):(jB L).flag=true:=rfl
theorem qfn (L:List (List Str)):(jB L).strip=jB L:=rfl
attribute [go_sem] qgT qfn
theorem zd (L:List Str):(zR L).length=L.length:=by simp [zR]
theorem kH (L M:List Str):zR (L++M)=zR L++zR M:=by simp [zR]
theorem qoK {L:List Str}:zR L= []↔L= []:=by simp [zR]
theorem qbK {L:List Str} {n:Nat} (g:AV→AV) (hg: ∀s,g (.str s)= .str s) (hn:n=L.length):VLe (.sl n fun i=>(((zR L).drop i).take 1).map g) (strs L):=by
 subst hn
 refine VLe.sl_eq rfl (fun i hi=> ?_)
 unfold zR
 rw [←List.map_drop,List.drop_eq_getElem_cons hi,List.map_cons,List.take_succ_cons,List.take_zero,List.map_cons,List.map_nil,hg,gdqA,q9 hi]
 rfl
theorem qoT {L:List (List Str)} {n:Nat} (g:AV→AV) (hg: ∀s,g (strs s)=strs s) (hn:n=L.length):VLe (.sl n fun i=>(((qds L).drop i).take 1).map g) (jB L):=by
 subst hn
 refine VLe.sl_eq rfl (fun i hi=> ?_)
 rw [qoS hi,List.map_cons,List.map_nil,hg]
theorem qfS {α β:Type} (f:α→β) (L:List α):L.flatMap (fun i=> [f i])=L.map f:=by
 induction L with
 |nil=>rfl
 |cons a L ih=>rw [List.flatMap_cons,ih];rfl
theorem qff (h:List AObj) {t:List Str} {a b:Nat} (h1:a≤b) (h2:b≤t.length):qr h (.sl (b-a) fun i=> [.str (t.getD (a+i) [])])=some (b-a,zR (j6 t a b)):=by
 show some (b-a,(List.range (b-a)).flatMap fun i=> [AV.str (t.getD (a+i) [])])=_
 rw [qfS (fun i=>AV.str (t.getD (a+i) []))]
 congr 2
 unfold zR j6
 apply List.ext_getElem
 ·simp;omega
 ·intro i g1 g2
  have hi:i<b-a:=by simpa using g1
  have hl:a+i<t.length:=by omega
  simp [gdqA,hl]
theorem qaz (h:List AObj) (t:List Str):qr h (strs t)=some (t.length,zR t):=by
 have:=qff h (t:=t) (a:=0) (b:=t.length) (Nat.zero_le _) (Nat.le_refl _)
 simp only [Nat.sub_zero,Nat.zero_add]at this
 have e:j6 t 0 t.length=t:=by simp [j6]
 rw [e]at this
 exact this
end RC
end
section
open Go Go.Proofs AF HY LN
namespace RC
set_option maxHeartbeats 8000000
def gwB (ws:List Str) (n:Nat):Bool:=jp (fun i=>decide (20<(ws.getD i []).length)) ws.length||decide (n<ws.length)
theorem kz {p:Nat→Bool} {i:Nat} (h: ∀j,j<i→p j=false) (hp:p i=false): ∀j,j<i+1→p j=false:=by
 intro j hj
 by_cases e:j=i
 ·subst e;exact hp
 ·exact h j (by omega)
theorem gwP (ws:List Str) (n:Nat) (h:List AObj) (hn:ws.length≤9223372036854775807):qm Tryz.prog 144 [strs ws,.int .i64 n] h (.bool (gwB ws n)) h:=by
 obtain ⟨R,hR⟩: ∃R,R=gwB ws n:=⟨_,rfl⟩
 rw [←hR]
 unfold gwB at hR
 refine acO quz ?_
 simp (disch:=omega) only [qty,List.replicate,strs,go_sem]
 repeat' first
  |((first|apply qc|apply qb);exact rvk;simp only [go_sem];first|exact VLe.refl _|apply qd|apply qa|apply qe|skip)
  |with_reducible first|refine And.intro ?_ ?_|intro _
 all_goals try exact clz
 refine qo (T:=fun i:Nat=>qI 22 [(0,strs ws),(1,.int .i64 n),(5,.int .i64 i)]) (H:=fun _=>h) (inv:=fun i=>i≤ws.length∧ ∀j,j<i→(fun i=>decide (20<(ws.getD i []).length)) j=false) (m:=fun i=>ws.length-i) 0 ⟨Nat.zero_le _,fun j hj=>by omega⟩ (Wk.temps ?_) ?_
 ·(simp only [strs,List.replicate,go_sem,qj,qh,qg,qi];try (repeat' first|(with_reducible refine And.intro ?_ ?_)|(apply qd;omega)|(apply qa;rfl)|exact VLe.refl _))
 rintro i ⟨i1,i2⟩ K hK
 by_cases hi:i<ws.length
 ·have k1:((i:Int)<ws.length)=True:=eq_true (by omega)
  by_cases g:20<(ws.getD i []).length
  ·have hV:R=true:=by rw [hR,zH.2 ⟨i,hi,decide_eq_true g⟩];rfl
   obtain ⟨s,hs⟩: ∃s,s=ws.getD i []:=⟨_,rfl⟩
   have es:=hs.symm
   rw [es]at g
   have k2:((20:Int)<s.length)=True:=eq_true (by omega)
   rw [hV]
   simp (disch:=omega) only [List.replicate,strs,k1,k2,es,go_sem]
   repeat' first
    |((first|apply qc|apply qb);exact rvk;simp only [go_sem];first|exact VLe.refl _|apply qd|apply qa|apply qe|skip)
    |with_reducible first|refine And.intro ?_ ?_|intro _
   all_goals try exact clz
  ·have i3:=kz i2 (decide_eq_false g)
   obtain ⟨s,hs⟩: ∃s,s=ws.getD i []:=⟨_,rfl⟩
   have es:=hs.symm
   rw [es]at g
   have k2:((20:Int)<s.length)=False:=eq_false (by omega)
   simp (disch:=omega) only [List.replicate,strs,k1,k2,es,go_sem]
   repeat' first
    |((first|apply qc|apply qb);exact rvk;simp only [go_sem];first|exact VLe.refl _|apply qd|apply qa|apply qe|skip)
    |with_reducible first|refine And.intro ?_ ?_|intro _
   all_goals try exact clz
   refine hK _ _ (i+1) ⟨hi,i3⟩ (by omega) (Wk.temps ?_)
   (simp only [strs,List.replicate,go_sem,qj,qh,qg,qi];try (repeat' first|(with_reducible refine And.intro ?_ ?_)|(apply qd;omega)|(apply qa;rfl)|exact VLe.refl _))
 ·have k1:((i:Int)<ws.length)=False:=eq_false (by omega)
  rw [qQ.2 (fun j hj=>i2 j (by omega)),Bool.false_or]at hR
  have e:decide ((n:Int)<ws.length)=R:=by rw [hR];exact decide_eq_decide.2 (by omega)
  simp (disch:=omega) only [List.replicate,strs,k1,go_sem]
  repeat' first
   |((first|apply qc|apply qb);exact rvk;simp only [go_sem];first|exact VLe.refl _|apply qd|apply qa|apply qe|skip)
   |with_reducible first|refine And.intro ?_ ?_|intro _
  all_goals try exact clz
structure EnB (e:En):Prop where
 v:e.vars.length≤9223372036854775807
 s:e.sup.length≤9223372036854775807
 w: ∀i,(e.vars.getD i default).words.length≤9223372036854775807
 g: ∀i,(e.vars.getD i default).sigla.length≤9223372036854775807
def geB (e:En):Bool:=(decide (6<e.vars.length)||gwB e.sup 8)||jp (fun i=>gwB (e.vars.getD i default).words 8||gwB (e.vars.getD i default).sigla 8) e.vars.length
theorem geP (e:En) (h:List AObj) (hb:EnB e):qm Tryz.prog 112 [.agg (enC e)] h (.bool (geB e)) h:=by
 have cs:=fun h=>gwP e.sup 8 h hb.s
 have cw:=fun i h=>gwP (e.vars.getD i default).words 8 h (hb.w i)
 have cg:=fun i h=>gwP (e.vars.getD i default).sigla 8 h (hb.g i)
 have hv:=hb.v
 have z8:((8:Nat):Int)=8:=rfl
 simp only [z8]at cs cw cg
 obtain ⟨R,hR⟩: ∃R,R=geB e:=⟨_,rfl⟩
 rw [←hR]
 unfold geB at hR
 by_cases g1:6<e.vars.length
 ·have k1:((6:Int)<e.vars.length)=True:=eq_true (by omega)
  rw [decide_eq_true g1]at hR
  rw [hR]
  refine acO qjN ?_
  simp (disch:=omega) only [qmG,List.replicate,enC,qS,k1,go_sem]
  repeat' first
   |(refine qu (.bool true) ?_;simp (disch:=omega) only [enC,qS,k1,go_sem])
   |((first|apply qc|apply qb);exact rvk;simp only [go_sem];first|exact VLe.refl _|apply qd|apply qa|apply qe|skip)
   |with_reducible first|refine And.intro ?_ ?_|intro _
  all_goals try exact clz
 have k1:((6:Int)<e.vars.length)=False:=eq_false (by omega)
 rw [decide_eq_false g1,Bool.false_or]at hR
 cases g2:gwB e.sup 8 with
 |true=>
  rw [g2]at hR cs
  rw [hR]
  refine acO qjN ?_
  simp (disch:=omega) only [qmG,List.replicate,enC,qS,k1,go_sem]
  repeat' first
   |((first|refine cA (cs _) ?_ ?_|refine cG (fun e=>cs _) ?_ ?_|refine cU (fun _=>cs _) ?_ ?_);(next=>exact flk);simp (disch:=omega) only [enC,qS,k1,go_sem])
   |((first|apply qc|apply qb);exact rvk;simp only [go_sem];first|exact VLe.refl _|apply qd|apply qa|apply qe|skip)
   |with_reducible first|refine And.intro ?_ ?_|intro _
  all_goals try exact clz
 |false=>
 rw [g2,Bool.false_or]at hR
 rw [g2]at cs
 refine acO qjN ?_
 simp (disch:=omega) only [qmG,List.replicate,enC,qS,k1,go_sem]
 repeat' first
  |((first|refine cA (cs _) ?_ ?_|refine cG (fun e=>cs _) ?_ ?_|refine cU (fun _=>cs _) ?_ ?_);(next=>exact flk);simp (disch:=omega) only [enC,qS,k1,go_sem])
  |((first|apply qc|apply qb);exact rvk;simp only [go_sem];first|exact VLe.refl _|apply qd|apply qa|apply qe|skip)
  |with_reducible first|refine And.intro ?_ ?_|intro _
 all_goals try exact clz
 refine qo (T:=fun i:Nat=>qI 36 [(1,.op h.length 1 0),(3,.int .i64 i)]) (H:=fun _=>h++ [.mem 1 49 (enC e)]) (inv:=fun i=>i≤e.vars.length∧ ∀j,j<i→(fun i=>gwB (e.vars.getD i default).words 8||gwB (e.vars.getD i default).sigla 8) j=false) (m:=fun i=>e.vars.length-i) 0 ⟨Nat.zero_le _,fun j hj=>by omega⟩ ?_ ?_
 ·refine Wk.temps ?_
  (simp only [List.replicate,go_sem,qj,qh,qg,qi];try (repeat' first|(with_reducible refine And.intro ?_ ?_)|(apply qd;omega)|(apply qa;rfl)|exact VLe.refl _))
 rintro i ⟨i1,i2⟩ K hK
 by_cases hi:i<e.vars.length
 ·have k2:((i:Int)<e.vars.length)=True:=eq_true (by omega)
  have cw:=cw i
  have cg:=cg i
  have hit:(gwB (e.vars.getD i default).words 8||gwB (e.vars.getD i default).sigla 8)=true→R=true:=fun hc=>by rw [hR];exact zH.2 ⟨i,hi,hc⟩
  have i3:=fun hc=>kz (p:=fun i=>gwB (e.vars.getD i default).words 8||gwB (e.vars.getD i default).sigla 8) i2 hc
  obtain ⟨v,hv⟩: ∃v,v=e.vars.getD i default:=⟨_,rfl⟩
  have ev:=hv.symm
  simp only [ev]at cw cg hit i3
  cases g3:gwB v.words 8 with
  |true=>
   rw [g3]at cw hit
   rw [hit rfl]
   simp (disch:=omega) only [List.replicate,enC,qS,vaC,k2,ev,go_sem]
   repeat' first
    |(refine qu (.bool true) ?_;simp (disch:=omega) only [enC,qS,vaC,k2,ev,go_sem])
    |((first|refine cA (cw _) ?_ ?_|refine cG (fun e=>cw _) ?_ ?_|refine cU (fun _=>cw _) ?_ ?_);(next=>exact flk);simp (disch:=omega) only [enC,qS,vaC,k2,ev,go_sem])
    |((first|apply qc|apply qb);exact rvk;simp only [go_sem];first|exact VLe.refl _|apply qd|apply qa|apply qe|skip)
    |with_reducible first|refine And.intro ?_ ?_|intro _
   all_goals try exact clz
  |false=>
   rw [g3]at cw hit
   cases g4:gwB v.sigla 8 with
   |true=>
    rw [g4]at cg hit
    rw [hit rfl]
    simp (disch:=omega) only [List.replicate,enC,qS,vaC,k2,ev,go_sem]
    repeat' first
     |((first|refine cA (cw _) ?_ ?_|refine cG (fun e=>cw _) ?_ ?_|refine cA (cg _) ?_ ?_|refine cG (fun e=>cg _) ?_ ?_|refine cU (fun _=>cw _) ?_ ?_|refine cU (fun _=>cg _) ?_ ?_);(next=>exact flk);simp (disch:=omega) only [enC,qS,vaC,k2,ev,go_sem])
     |((first|apply qc|apply qb);exact rvk;simp only [go_sem];first|exact VLe.refl _|apply qd|apply qa|apply qe|skip)
     |with_reducible first|refine And.intro ?_ ?_|intro _
    all_goals try exact clz
   |false=>
    rw [g4]at cg
    simp (disch:=omega) only [List.replicate,enC,qS,vaC,k2,ev,go_sem]
    repeat' first
     |((first|refine cA (cw _) ?_ ?_|refine cG (fun e=>cw _) ?_ ?_|refine cA (cg _) ?_ ?_|refine cG (fun e=>cg _) ?_ ?_|refine cU (fun _=>cw _) ?_ ?_|refine cU (fun _=>cg _) ?_ ?_);(next=>exact flk);simp (disch:=omega) only [enC,qS,vaC,k2,ev,go_sem])
     |((first|apply qc|apply qb);exact rvk;simp only [go_sem];first|exact VLe.refl _|apply qd|apply qa|apply qe|skip)
     |with_reducible first|refine And.intro ?_ ?_|intro _
    all_goals try exact clz
    refine hK _ _ (i+1) ⟨hi,i3 (by rw [g3,g4];rfl)⟩ (by omega) (Wk.temps ?_)
    (simp only [List.replicate,go_sem,qj,qh,qg,qi];try (repeat' first|(with_reducible refine And.intro ?_ ?_)|(apply qd;omega)|(apply qa;rfl)|exact VLe.refl _))
 ·have k2:((i:Int)<e.vars.length)=False:=eq_false (by omega)
  rw [qQ.2 (fun j hj=>i2 j (by omega))]at hR
  rw [hR]
  simp (disch:=omega) only [List.replicate,enC,qS,k2,go_sem]
  repeat' first
   |((first|apply qc|apply qb);exact rvk;simp only [go_sem];first|exact VLe.refl _|apply qd|apply qa|apply qe|skip)
   |with_reducible first|refine And.intro ?_ ?_|intro _
  all_goals try exact clz
def qsY (l:List En):Bool:=decide (10<l.length)||jp (fun i=>geB (l.getD i default)) l.length
theorem qzO (l:List En) (h:List AObj) (hb: ∀i,EnB (l.getD i default)) (hn:l.length≤9223372036854775807):qm Tryz.prog 73 [qz l] h (.bool (qsY l)) h:=by
 have c:=fun i h=>geP (l.getD i default) h (hb i)
 obtain ⟨R,hR⟩: ∃R,R=qsY l:=⟨_,rfl⟩
 rw [←hR]
 unfold qsY at hR
 by_cases g1:10<l.length
 ·have k1:((10:Int)<l.length)=True:=eq_true (by omega)
  have k2:((l.length:Int)≤10)=False:=eq_false (by omega)
  have k3:((0:Int)<l.length)=True:=eq_true (by omega)
  rw [decide_eq_true g1]at hR
  rw [hR]
  refine acO qu3 ?_
  simp (disch:=omega) only [qw2,List.replicate,qz,k1,k2,k3,go_sem]
  repeat' first
   |((first|apply qc|apply qb);exact rvk;simp only [go_sem];first|exact VLe.refl _|apply qd|apply qa|apply qe|skip)
   |with_reducible first|refine And.intro ?_ ?_|intro _
  all_goals try exact clz
  refine qo (T:=fun _:Unit=>qI 23 [(0,qz l),(3,.int .i64 0)]) (H:=fun _=>h) (inv:=fun _=>True) (m:=fun _=>0) () trivial (Wk.temps ?_) ?_
  ·(simp only [qz,List.replicate,go_sem,qj,qh,qg,qi];try (repeat' first|(with_reducible refine And.intro ?_ ?_)|(apply qd;omega)|(apply qa;rfl)|exact VLe.refl _))
  rintro _ _ K hK
  simp (disch:=omega) only [List.replicate,qz,k1,k2,k3,go_sem]
  repeat' first
   |((first|apply qc|apply qb);exact rvk;simp only [go_sem];first|exact VLe.refl _|apply qd|apply qa|apply qe|skip)
   |with_reducible first|refine And.intro ?_ ?_|intro _
  all_goals try exact clz
 have k1:((10:Int)<l.length)=False:=eq_false (by omega)
 have k2:((l.length:Int)≤10)=True:=eq_true (by omega)
 rw [decide_eq_false g1,Bool.false_or]at hR
 refine acO qu3 ?_
 simp (disch:=omega) only [qw2,List.replicate,qz,k1,k2,go_sem]
 repeat' first
  |((first|apply qc|apply qb);exact rvk;simp only [go_sem];first|exact VLe.refl _|apply qd|apply qa|apply qe|skip)
  |with_reducible first|refine And.intro ?_ ?_|intro _
 all_goals try exact clz
 refine qo (T:=fun i:Nat=>qI 23 [(0,qz l),(3,.int .i64 i)]) (H:=fun _=>h) (inv:=fun i=>i≤l.length∧ ∀j,j<i→(fun i=>geB (l.getD i default)) j=false) (m:=fun i=>l.length-i) 0 ⟨Nat.zero_le _,fun j hj=>by omega⟩ (Wk.temps ?_) ?_
 ·(simp only [qz,List.replicate,go_sem,qj,qh,qg,qi];try (repeat' first|(with_reducible refine And.intro ?_ ?_)|(apply qd;omega)|(apply qa;rfl)|exact VLe.refl _))
 rintro i ⟨i1,i2⟩ K hK
 by_cases hi:i<l.length
 ·have k3:((i:Int)<l.length)=True:=eq_true (by omega)
  have c:=c i
  have hit:geB (l.getD i default)=true→R=true:=fun hc=>by rw [hR];exact zH.2 ⟨i,hi,hc⟩
  have i3:=fun hc=>kz (p:=fun i=>geB (l.getD i default)) i2 hc
  obtain ⟨x,hx⟩: ∃x,x=l.getD i default:=⟨_,rfl⟩
  have ex:=hx.symm
  simp only [ex]at c hit i3
  simp only [enC]at c
  cases g3:geB x with
  |true=>
   rw [g3]at c
   rw [hit g3]
   simp (disch:=omega) only [List.replicate,qz,enC,k2,k3,ex,go_sem]
   repeat' first
    |((first|refine cA (c _) ?_ ?_|refine cG (fun e=>c _) ?_ ?_|refine cU (fun _=>c _) ?_ ?_);(next=>exact flk);simp (disch:=omega) only [qz,enC,k2,k3,ex,go_sem])
    |((first|apply qc|apply qb);exact rvk;simp only [go_sem];first|exact VLe.refl _|apply qd|apply qa|apply qe|skip)
    |with_reducible first|refine And.intro ?_ ?_|intro _
   all_goals try exact clz
  |false=>
   rw [g3]at c
   simp (disch:=omega) only [List.replicate,qz,enC,k2,k3,ex,go_sem]
   repeat' first
    |((first|refine cA (c _) ?_ ?_|refine cG (fun e=>c _) ?_ ?_|refine cU (fun _=>c _) ?_ ?_);(next=>exact flk);simp (disch:=omega) only [qz,enC,k2,k3,ex,go_sem])
    |((first|apply qc|apply qb);exact rvk;simp only [go_sem];first|exact VLe.refl _|apply qd|apply qa|apply qe|skip)
    |with_reducible first|refine And.intro ?_ ?_|intro _
   all_goals try exact clz
   refine hK _ _ (i+1) ⟨hi,i3 g3⟩ (by omega) (Wk.temps ?_)
   (simp only [qz,List.replicate,go_sem,qj,qh,qg,qi];try (repeat' first|(with_reducible refine And.intro ?_ ?_)|(apply qd;omega)|(apply qa;rfl)|exact VLe.refl _))
 ·have k3:((i:Int)<l.length)=False:=eq_false (by omega)
  rw [qQ.2 (fun j hj=>i2 j (by omega))]at hR
  rw [hR]
  simp (disch:=omega) only [List.replicate,qz,k1,k2,k3,go_sem]
  repeat' first
   |((first|apply qc|apply qb);exact rvk;simp only [go_sem];first|exact VLe.refl _|apply qd|apply qa|apply qe|skip)
   |with_reducible first|refine And.intro ?_ ?_|intro _
  all_goals try exact clz
end RC
end
section
open Go Go.Proofs AF HY LN
namespace RC
set_option maxHeartbeats 8000000
def grB (g:Gr):Bool:=decide (20<g.name.length)||decide (40<g.mem.length)
def qpF (names:List Str) (gs:List Gr):Bool:=
 jp (fun i=>decide (20<(names.getD i []).length)) names.length||(jp (fun i=>grB (gs.getD i default)) gs.length||
  (((decide (8<names.length)&&decide (names.length≤32))||decide (34<names.length))||(decide (5<gs.length)&&decide (gs.length≤16))||decide (18<gs.length)))
theorem qzN (names:List Str) (gs:List Gr) (h:List AObj) (hn:names.length≤9223372036854775807) (hg:gs.length≤9223372036854775807):qm Tryz.prog 72 [strs names,qv gs] h (.bool (qpF names gs)) h:=by
 obtain ⟨R,hR⟩: ∃R,R=qpF names gs:=⟨_,rfl⟩
 rw [←hR]
 unfold qpF at hR
 refine acO qxG ?_
 simp (disch:=omega) only [qyQ,List.replicate,strs,qv,go_sem]
 repeat' first
  |((first|apply qc|apply qb);exact rvk;simp only [go_sem];first|exact VLe.refl _|apply qd|apply qa|apply qe|skip)
  |with_reducible first|refine And.intro ?_ ?_|intro _
 all_goals try exact clz
 refine qo (T:=fun i:Nat=>qI 69 [(0,strs names),(1,qv gs),(5,.int .i64 i)]) (H:=fun _=>h) (inv:=fun i=>i≤names.length∧ ∀j,j<i→(fun i=>decide (20<(names.getD i []).length)) j=false) (m:=fun i=>names.length-i) 0 ⟨Nat.zero_le _,fun j hj=>by omega⟩ (Wk.temps ?_) ?_
 ·(simp only [strs,qv,List.replicate,go_sem,qj,qh,qg,qi];try (repeat' first|(with_reducible refine And.intro ?_ ?_)|(apply qd;omega)|(apply qa;rfl)|exact VLe.refl _))
 rintro i ⟨i1,i2⟩ K hK
 by_cases hi:i<names.length
 ·have k1:((i:Int)<names.length)=True:=eq_true (by omega)
  by_cases g:20<(names.getD i []).length
  ·have hV:R=true:=by rw [hR,zH.2 ⟨i,hi,decide_eq_true g⟩];rfl
   obtain ⟨s,hs⟩: ∃s,s=names.getD i []:=⟨_,rfl⟩
   have es:=hs.symm
   rw [es]at g
   have k2:((20:Int)<s.length)=True:=eq_true (by omega)
   rw [hV]
   simp (disch:=omega) only [List.replicate,strs,qv,k1,k2,es,go_sem]
   repeat' first
    |((first|apply qc|apply qb);exact rvk;simp only [go_sem];first|exact VLe.refl _|apply qd|apply qa|apply qe|skip)
    |with_reducible first|refine And.intro ?_ ?_|intro _
   all_goals try exact clz
  ·have i3:=kz i2 (decide_eq_false g)
   obtain ⟨s,hs⟩: ∃s,s=names.getD i []:=⟨_,rfl⟩
   have es:=hs.symm
   rw [es]at g
   have k2:((20:Int)<s.length)=False:=eq_false (by omega)
   simp (disch:=omega) only [List.replicate,strs,qv,k1,k2,es,go_sem]
   repeat' first
    |((first|apply qc|apply qb);exact rvk;simp only [go_sem];first|exact VLe.refl _|apply qd|apply qa|apply qe|skip)
    |with_reducible first|refine And.intro ?_ ?_|intro _
   all_goals try exact clz
   refine hK _ _ (i+1) ⟨hi,i3⟩ (by omega) (Wk.temps ?_)
   (simp only [strs,qv,List.replicate,go_sem,qj,qh,qg,qi];try (repeat' first|(with_reducible refine And.intro ?_ ?_)|(apply qd;omega)|(apply qa;rfl)|exact VLe.refl _))
 have k1:((i:Int)<names.length)=False:=eq_false (by omega)
 rw [qQ.2 (fun j hj=>i2 j (by omega)),Bool.false_or]at hR
 simp (disch:=omega) only [List.replicate,strs,qv,k1,go_sem]
 repeat' first
  |((first|apply qc|apply qb);exact rvk;simp only [go_sem];first|exact VLe.refl _|apply qd|apply qa|apply qe|skip)
  |with_reducible first|refine And.intro ?_ ?_|intro _
 all_goals try exact clz
 refine qo (T:=fun i:Nat=>qI 69 [(0,strs names),(1,qv gs),(6,.int .i64 i)]) (H:=fun _=>h) (inv:=fun i=>i≤gs.length∧ ∀j,j<i→(fun i=>grB (gs.getD i default)) j=false) (m:=fun i=>gs.length-i) 0 ⟨Nat.zero_le _,fun j hj=>by omega⟩ (Wk.temps ?_) ?_
 ·(simp only [strs,qv,List.replicate,go_sem,qj,qh,qg,qi];try (repeat' first|(with_reducible refine And.intro ?_ ?_)|(apply qd;omega)|(apply qa;rfl)|exact VLe.refl _))
 clear hK K
 rintro i ⟨i1,i2⟩ K hK
 by_cases hi:i<gs.length
 ·have k1:((i:Int)<gs.length)=True:=eq_true (by omega)
  have hit:grB (gs.getD i default)=true→R=true:=fun hc=>by rw [hR,zH.2 ⟨i,hi,hc⟩];rfl
  have i3:=fun hc=>kz (p:=fun i=>grB (gs.getD i default)) i2 hc
  obtain ⟨g,hg⟩: ∃g,g=gs.getD i default:=⟨_,rfl⟩
  have eg:=hg.symm
  simp only [eg]at hit i3
  have hB:grB g=(decide (20<g.name.length)||decide (40<g.mem.length)):=rfl
  by_cases g1:20<g.name.length
  ·have k2:((20:Int)<g.name.length)=True:=eq_true (by omega)
   rw [hit (by rw [hB,decide_eq_true g1];rfl)]
   simp (disch:=omega) only [List.replicate,strs,qv,grC,k1,k2,eg,go_sem]
   repeat' first
    |((first|apply qc|apply qb);exact rvk;simp only [go_sem];first|exact VLe.refl _|apply qd|apply qa|apply qe|skip)
    |with_reducible first|refine And.intro ?_ ?_|intro _
   all_goals try exact clz
  ·have k2:((20:Int)<g.name.length)=False:=eq_false (by omega)
   by_cases g2:40<g.mem.length
   ·have k3:((40:Int)<g.mem.length)=True:=eq_true (by omega)
    rw [hit (by rw [hB,decide_eq_true g2,Bool.or_true])]
    simp (disch:=omega) only [List.replicate,strs,qv,grC,ql,k1,k2,k3,eg,go_sem]
    repeat' first
     |((first|apply qc|apply qb);exact rvk;simp only [go_sem];first|exact VLe.refl _|apply qd|apply qa|apply qe|skip)
     |with_reducible first|refine And.intro ?_ ?_|intro _
    all_goals try exact clz
   ·have k3:((40:Int)<g.mem.length)=False:=eq_false (by omega)
    simp (disch:=omega) only [List.replicate,strs,qv,grC,ql,k1,k2,k3,eg,go_sem]
    repeat' first
     |((first|apply qc|apply qb);exact rvk;simp only [go_sem];first|exact VLe.refl _|apply qd|apply qa|apply qe|skip)
     |with_reducible first|refine And.intro ?_ ?_|intro _
    all_goals try exact clz
    refine hK _ _ (i+1) ⟨hi,i3 (by rw [hB,decide_eq_false g1,decide_eq_false g2];rfl)⟩ (by omega) (Wk.temps ?_)
    (simp only [strs,qv,List.replicate,go_sem,qj,qh,qg,qi];try (repeat' first|(with_reducible refine And.intro ?_ ?_)|(apply qd;omega)|(apply qa;rfl)|exact VLe.refl _))
 have k2:((i:Int)<gs.length)=False:=eq_false (by omega)
 rw [qQ.2 (fun j hj=>i2 j (by omega)),Bool.false_or]at hR
 have n1:((8:Int)<names.length)=(8<names.length):=propext (by omega)
 have n2:((names.length:Int)≤32)=(names.length≤32):=propext (by omega)
 have n3:((34:Int)<names.length)=(34<names.length):=propext (by omega)
 have n4:((5:Int)<gs.length)=(5<gs.length):=propext (by omega)
 have n5:((gs.length:Int)≤16)=(gs.length≤16):=propext (by omega)
 have n6:((18:Int)<gs.length)=(18<gs.length):=propext (by omega)
 obtain ⟨q1,h1⟩: ∃q,q=decide (8<names.length):=⟨_,rfl⟩
 obtain ⟨q2,h2⟩: ∃q,q=decide (names.length≤32):=⟨_,rfl⟩
 obtain ⟨q3,h3⟩: ∃q,q=decide (34<names.length):=⟨_,rfl⟩
 obtain ⟨q4,h4⟩: ∃q,q=decide (5<gs.length):=⟨_,rfl⟩
 obtain ⟨q5,h5⟩: ∃q,q=decide (gs.length≤16):=⟨_,rfl⟩
 obtain ⟨q6,h6⟩: ∃q,q=decide (18<gs.length):=⟨_,rfl⟩
 have e1:=h1.symm
 have e2:=h2.symm
 have e3:=h3.symm
 have e4:=h4.symm
 have e5:=h5.symm
 have e6:=h6.symm
 rw [e1,e2,e3,e4,e5,e6]at hR
 have b1:(q1=true∧q2=true)∨(q1=false∧q2=true)∨(q1=true∧q2=false)∨(q1=false∧q2=false):=by cases q1<;>cases q2<;>simp
 have b4:(q4=true∧q5=true)∨(q4=false∧q5=true)∨(q4=true∧q5=false)∨(q4=false∧q5=false):=by cases q4<;>cases q5<;>simp
 clear h1 h2 h3 h4 h5 h6
 rcases b1 with ⟨rfl,rfl⟩|⟨rfl,rfl⟩|⟨rfl,rfl⟩|⟨rfl,rfl⟩
 ·skip
  simp only [Bool.true_and,Bool.false_and,Bool.true_or,Bool.false_or]at hR
  rw [hR]
  simp (disch:=omega) only [List.replicate,strs,qv,k2,n1,n2,n3,n4,n5,n6,e1,e2,e3,e4,e5,e6,go_sem]
  repeat' first
   |((first|apply qc|apply qb);exact rvk;simp only [go_sem];first|exact VLe.refl _|apply qd|apply qa|apply qe|skip)
   |with_reducible first|refine And.intro ?_ ?_|intro _
  all_goals try exact clz
 ·skip
  cases q3 with
  |true=>
   simp only [Bool.true_and,Bool.false_and,Bool.true_or,Bool.false_or]at hR
   rw [hR]
   simp (disch:=omega) only [List.replicate,strs,qv,k2,n1,n2,n3,n4,n5,n6,e1,e2,e3,e4,e5,e6,go_sem]
   repeat' first
    |((first|apply qc|apply qb);exact rvk;simp only [go_sem];first|exact VLe.refl _|apply qd|apply qa|apply qe|skip)
    |with_reducible first|refine And.intro ?_ ?_|intro _
   all_goals try exact clz
  |false=>
   rcases b4 with ⟨rfl,rfl⟩|⟨rfl,rfl⟩|⟨rfl,rfl⟩|⟨rfl,rfl⟩
   ·skip
    simp only [Bool.true_and,Bool.false_and,Bool.true_or,Bool.false_or]at hR
    rw [hR]
    simp (disch:=omega) only [List.replicate,strs,qv,k2,n1,n2,n3,n4,n5,n6,e1,e2,e3,e4,e5,e6,go_sem]
    repeat' first
     |((first|apply qc|apply qb);exact rvk;simp only [go_sem];first|exact VLe.refl _|apply qd|apply qa|apply qe|skip)
     |with_reducible first|refine And.intro ?_ ?_|intro _
    all_goals try exact clz
   ·skip
    cases q6 with
    |true=>
     simp only [Bool.true_and,Bool.false_and,Bool.true_or,Bool.false_or]at hR
     rw [hR]
     simp (disch:=omega) only [List.replicate,strs,qv,k2,n1,n2,n3,n4,n5,n6,e1,e2,e3,e4,e5,e6,go_sem]
     repeat' first
      |((first|apply qc|apply qb);exact rvk;simp only [go_sem];first|exact VLe.refl _|apply qd|apply qa|apply qe|skip)
      |with_reducible first|refine And.intro ?_ ?_|intro _
     all_goals try exact clz
    |false=>
     simp only [Bool.true_and,Bool.false_and,Bool.true_or,Bool.false_or]at hR
     rw [hR]
     simp (disch:=omega) only [List.replicate,strs,qv,k2,n1,n2,n3,n4,n5,n6,e1,e2,e3,e4,e5,e6,go_sem]
     repeat' first
      |((first|apply qc|apply qb);exact rvk;simp only [go_sem];first|exact VLe.refl _|apply qd|apply qa|apply qe|skip)
      |with_reducible first|refine And.intro ?_ ?_|intro _
     all_goals try exact clz
   ·skip
    cases q6 with
    |true=>
     simp only [Bool.true_and,Bool.false_and,Bool.true_or,Bool.false_or]at hR
     rw [hR]
     simp (disch:=omega) only [List.replicate,strs,qv,k2,n1,n2,n3,n4,n5,n6,e1,e2,e3,e4,e5,e6,go_sem]
     repeat' first
      |((first|apply qc|apply qb);exact rvk;simp only [go_sem];first|exact VLe.refl _|apply qd|apply qa|apply qe|skip)
      |with_reducible first|refine And.intro ?_ ?_|intro _
     all_goals try exact clz
    |false=>
     simp only [Bool.true_and,Bool.false_and,Bool.true_or,Bool.false_or]at hR
     rw [hR]
     simp (disch:=omega) only [List.replicate,strs,qv,k2,n1,n2,n3,n4,n5,n6,e1,e2,e3,e4,e5,e6,go_sem]
     repeat' first
      |((first|apply qc|apply qb);exact rvk;simp only [go_sem];first|exact VLe.refl _|apply qd|apply qa|apply qe|skip)
      |with_reducible first|refine And.intro ?_ ?_|intro _
     all_goals try exact clz
   ·skip
    cases q6 with
    |true=>
     simp only [Bool.true_and,Bool.false_and,Bool.true_or,Bool.false_or]at hR
     rw [hR]
     simp (disch:=omega) only [List.replicate,strs,qv,k2,n1,n2,n3,n4,n5,n6,e1,e2,e3,e4,e5,e6,go_sem]
     repeat' first
      |((first|apply qc|apply qb);exact rvk;simp only [go_sem];first|exact VLe.refl _|apply qd|apply qa|apply qe|skip)
      |with_reducible first|refine And.intro ?_ ?_|intro _
     all_goals try exact clz
    |false=>
     simp only [Bool.true_and,Bool.false_and,Bool.true_or,Bool.false_or]at hR
     rw [hR]
     simp (disch:=omega) only [List.replicate,strs,qv,k2,n1,n2,n3,n4,n5,n6,e1,e2,e3,e4,e5,e6,go_sem]
     repeat' first
      |((first|apply qc|apply qb);exact rvk;simp only [go_sem];first|exact VLe.refl _|apply qd|apply qa|apply qe|skip)
      |with_reducible first|refine And.intro ?_ ?_|intro _
     all_goals try exact clz
 ·skip
  cases q3 with
  |true=>
   simp only [Bool.true_and,Bool.false_and,Bool.true_or,Bool.false_or]at hR
   rw [hR]
   simp (disch:=omega) only [List.replicate,strs,qv,k2,n1,n2,n3,n4,n5,n6,e1,e2,e3,e4,e5,e6,go_sem]
   repeat' first
    |((first|apply qc|apply qb);exact rvk;simp only [go_sem];first|exact VLe.refl _|apply qd|apply qa|apply qe|skip)
    |with_reducible first|refine And.intro ?_ ?_|intro _
   all_goals try exact clz
  |false=>
   rcases b4 with ⟨rfl,rfl⟩|⟨rfl,rfl⟩|⟨rfl,rfl⟩|⟨rfl,rfl⟩
   ·skip
    simp only [Bool.true_and,Bool.false_and,Bool.true_or,Bool.false_or]at hR
    rw [hR]
    simp (disch:=omega) only [List.replicate,strs,qv,k2,n1,n2,n3,n4,n5,n6,e1,e2,e3,e4,e5,e6,go_sem]
    repeat' first
     |((first|apply qc|apply qb);exact rvk;simp only [go_sem];first|exact VLe.refl _|apply qd|apply qa|apply qe|skip)
     |with_reducible first|refine And.intro ?_ ?_|intro _
    all_goals try exact clz
   ·skip
    cases q6 with
    |true=>
     simp only [Bool.true_and,Bool.false_and,Bool.true_or,Bool.false_or]at hR
     rw [hR]
     simp (disch:=omega) only [List.replicate,strs,qv,k2,n1,n2,n3,n4,n5,n6,e1,e2,e3,e4,e5,e6,go_sem]
     repeat' first
      |((first|apply qc|apply qb);exact rvk;simp only [go_sem];first|exact VLe.refl _|apply qd|apply qa|apply qe|skip)
      |with_reducible first|refine And.intro ?_ ?_|intro _
     all_goals try exact clz
    |false=>
     simp only [Bool.true_and,Bool.false_and,Bool.true_or,Bool.false_or]at hR
     rw [hR]
     simp (disch:=omega) only [List.replicate,strs,qv,k2,n1,n2,n3,n4,n5,n6,e1,e2,e3,e4,e5,e6,go_sem]
     repeat' first
      |((first|apply qc|apply qb);exact rvk;simp only [go_sem];first|exact VLe.refl _|apply qd|apply qa|apply qe|skip)
      |with_reducible first|refine And.intro ?_ ?_|intro _
     all_goals try exact clz
   ·skip
    cases q6 with
    |true=>
     simp only [Bool.true_and,Bool.false_and,Bool.true_or,Bool.false_or]at hR
     rw [hR]
     simp (disch:=omega) only [List.replicate,strs,qv,k2,n1,n2,n3,n4,n5,n6,e1,e2,e3,e4,e5,e6,go_sem]
     repeat' first
      |((first|apply qc|apply qb);exact rvk;simp only [go_sem];first|exact VLe.refl _|apply qd|apply qa|apply qe|skip)
      |with_reducible first|refine And.intro ?_ ?_|intro _
     all_goals try exact clz
    |false=>
     simp only [Bool.true_and,Bool.false_and,Bool.true_or,Bool.false_or]at hR
     rw [hR]
     simp (disch:=omega) only [List.replicate,strs,qv,k2,n1,n2,n3,n4,n5,n6,e1,e2,e3,e4,e5,e6,go_sem]
     repeat' first
      |((first|apply qc|apply qb);exact rvk;simp only [go_sem];first|exact VLe.refl _|apply qd|apply qa|apply qe|skip)
      |with_reducible first|refine And.intro ?_ ?_|intro _
     all_goals try exact clz
   ·skip
    cases q6 with
    |true=>
     simp only [Bool.true_and,Bool.false_and,Bool.true_or,Bool.false_or]at hR
     rw [hR]
     simp (disch:=omega) only [List.replicate,strs,qv,k2,n1,n2,n3,n4,n5,n6,e1,e2,e3,e4,e5,e6,go_sem]
     repeat' first
      |((first|apply qc|apply qb);exact rvk;simp only [go_sem];first|exact VLe.refl _|apply qd|apply qa|apply qe|skip)
      |with_reducible first|refine And.intro ?_ ?_|intro _
     all_goals try exact clz
    |false=>
     simp only [Bool.true_and,Bool.false_and,Bool.true_or,Bool.false_or]at hR
     rw [hR]
     simp (disch:=omega) only [List.replicate,strs,qv,k2,n1,n2,n3,n4,n5,n6,e1,e2,e3,e4,e5,e6,go_sem]
     repeat' first
      |((first|apply qc|apply qb);exact rvk;simp only [go_sem];first|exact VLe.refl _|apply qd|apply qa|apply qe|skip)
      |with_reducible first|refine And.intro ?_ ?_|intro _
     all_goals try exact clz
 ·skip
  cases q3 with
  |true=>
   simp only [Bool.true_and,Bool.false_and,Bool.true_or,Bool.false_or]at hR
   rw [hR]
   simp (disch:=omega) only [List.replicate,strs,qv,k2,n1,n2,n3,n4,n5,n6,e1,e2,e3,e4,e5,e6,go_sem]
   repeat' first
    |((first|apply qc|apply qb);exact rvk;simp only [go_sem];first|exact VLe.refl _|apply qd|apply qa|apply qe|skip)
    |with_reducible first|refine And.intro ?_ ?_|intro _
   all_goals try exact clz
  |false=>
   rcases b4 with ⟨rfl,rfl⟩|⟨rfl,rfl⟩|⟨rfl,rfl⟩|⟨rfl,rfl⟩
   ·skip
    simp only [Bool.true_and,Bool.false_and,Bool.true_or,Bool.false_or]at hR
    rw [hR]
    simp (disch:=omega) only [List.replicate,strs,qv,k2,n1,n2,n3,n4,n5,n6,e1,e2,e3,e4,e5,e6,go_sem]
    repeat' first
     |((first|apply qc|apply qb);exact rvk;simp only [go_sem];first|exact VLe.refl _|apply qd|apply qa|apply qe|skip)
     |with_reducible first|refine And.intro ?_ ?_|intro _
    all_goals try exact clz
   ·skip
    cases q6 with
    |true=>
     simp only [Bool.true_and,Bool.false_and,Bool.true_or,Bool.false_or]at hR
     rw [hR]
     simp (disch:=omega) only [List.replicate,strs,qv,k2,n1,n2,n3,n4,n5,n6,e1,e2,e3,e4,e5,e6,go_sem]
     repeat' first
      |((first|apply qc|apply qb);exact rvk;simp only [go_sem];first|exact VLe.refl _|apply qd|apply qa|apply qe|skip)
      |with_reducible first|refine And.intro ?_ ?_|intro _
     all_goals try exact clz
    |false=>
     simp only [Bool.true_and,Bool.false_and,Bool.true_or,Bool.false_or]at hR
     rw [hR]
     simp (disch:=omega) only [List.replicate,strs,qv,k2,n1,n2,n3,n4,n5,n6,e1,e2,e3,e4,e5,e6,go_sem]
     repeat' first
      |((first|apply qc|apply qb);exact rvk;simp only [go_sem];first|exact VLe.refl _|apply qd|apply qa|apply qe|skip)
      |with_reducible first|refine And.intro ?_ ?_|intro _
     all_goals try exact clz
   ·skip
    cases q6 with
    |true=>
     simp only [Bool.true_and,Bool.false_and,Bool.true_or,Bool.false_or]at hR
     rw [hR]
     simp (disch:=omega) only [List.replicate,strs,qv,k2,n1,n2,n3,n4,n5,n6,e1,e2,e3,e4,e5,e6,go_sem]
     repeat' first
      |((first|apply qc|apply qb);exact rvk;simp only [go_sem];first|exact VLe.refl _|apply qd|apply qa|apply qe|skip)
      |with_reducible first|refine And.intro ?_ ?_|intro _
     all_goals try exact clz
    |false=>
     simp only [Bool.true_and,Bool.false_and,Bool.true_or,Bool.false_or]at hR
     rw [hR]
     simp (disch:=omega) only [List.replicate,strs,qv,k2,n1,n2,n3,n4,n5,n6,e1,e2,e3,e4,e5,e6,go_sem]
     repeat' first
      |((first|apply qc|apply qb);exact rvk;simp only [go_sem];first|exact VLe.refl _|apply qd|apply qa|apply qe|skip)
      |with_reducible first|refine And.intro ?_ ?_|intro _
     all_goals try exact clz
   ·skip
    cases q6 with
    |true=>
     simp only [Bool.true_and,Bool.false_and,Bool.true_or,Bool.false_or]at hR
     rw [hR]
     simp (disch:=omega) only [List.replicate,strs,qv,k2,n1,n2,n3,n4,n5,n6,e1,e2,e3,e4,e5,e6,go_sem]
     repeat' first
      |((first|apply qc|apply qb);exact rvk;simp only [go_sem];first|exact VLe.refl _|apply qd|apply qa|apply qe|skip)
      |with_reducible first|refine And.intro ?_ ?_|intro _
     all_goals try exact clz
    |false=>
     simp only [Bool.true_and,Bool.false_and,Bool.true_or,Bool.false_or]at hR
     rw [hR]
     simp (disch:=omega) only [List.replicate,strs,qv,k2,n1,n2,n3,n4,n5,n6,e1,e2,e3,e4,e5,e6,go_sem]
     repeat' first
      |((first|apply qc|apply qb);exact rvk;simp only [go_sem];first|exact VLe.refl _|apply qd|apply qa|apply qe|skip)
      |with_reducible first|refine And.intro ?_ ?_|intro _
     all_goals try exact clz
def qbj (names:List Str) (gs:List Gr) (t:List Str) (l:List En):List AV:= [strs names,qv gs,strs t,qz l]
structure CB (names:List Str) (gs:List Gr) (t:List Str) (l:List En):Prop where
 hn:names.length≤9223372036854775807
 hg:gs.length≤9223372036854775807
 ht:t.length≤9223372036854775807
 hl:l.length≤9223372036854775807
 he: ∀i,EnB (l.getD i default)
def qjU (names:List Str) (gs:List Gr) (t:List Str) (l:List En):Bool:=jp (fun i=>decide (70<(t.getD i []).length)) t.length||((qpF names gs||decide (24<t.length))||qsY l)
theorem qzP (names:List Str) (gs:List Gr) (t:List Str) (l:List En) (h:List AObj) (hb:CB names gs t l):qm Tryz.prog 41 [strs names,qv gs,strs t,qz l] h (.bool (qjU names gs t l)) h:=by
 have c72:=fun h=>qzN names gs h hb.hn hb.hg
 have c73:=fun h=>qzO l h hb.he hb.hl
 have ht:=hb.ht
 obtain ⟨R,hR⟩: ∃R,R=qjU names gs t l:=⟨_,rfl⟩
 rw [←hR]
 unfold qjU at hR
 refine acO qxs ?_
 simp (disch:=omega) only [qyD,List.replicate,go_sem]
 repeat' first
  |((first|apply qc|apply qb);exact rvk;simp only [go_sem];first|exact VLe.refl _|apply qd|apply qa|apply qe|skip)
  |with_reducible first|refine And.intro ?_ ?_|intro _
 all_goals try exact clz
 refine qo (T:=fun i:Nat=>qI 34 [(0,strs names),(1,qv gs),(2,strs t),(3,qz l),(9,.int .i64 i)]) (H:=fun _=>h) (inv:=fun i=>i≤t.length∧ ∀j,j<i→(fun i=>decide (70<(t.getD i []).length)) j=false) (m:=fun i=>t.length-i) 0 ⟨Nat.zero_le _,fun j hj=>by omega⟩ (Wk.temps ?_) ?_
 ·(simp only [List.replicate,go_sem,qj,qh,qg,qi];try (repeat' first|(with_reducible refine And.intro ?_ ?_)|(apply qd;omega)|(apply qa;rfl)|exact VLe.refl _))
 rintro i ⟨i1,i2⟩ K hK
 by_cases hi:i<t.length
 ·have k1:((i:Int)<t.length)=True:=eq_true (by omega)
  by_cases g:70<(t.getD i []).length
  ·have hV:R=true:=by rw [hR,zH.2 ⟨i,hi,decide_eq_true g⟩];rfl
   obtain ⟨s,hs⟩: ∃s,s=t.getD i []:=⟨_,rfl⟩
   have es:=hs.symm
   rw [es]at g
   have k2:((70:Int)<s.length)=True:=eq_true (by omega)
   rw [hV]
   simp (disch:=omega) only [List.replicate,strs,k1,k2,es,go_sem]
   repeat' first
    |((first|apply qc|apply qb);exact rvk;simp only [go_sem];first|exact VLe.refl _|apply qd|apply qa|apply qe|skip)
    |with_reducible first|refine And.intro ?_ ?_|intro _
   all_goals try exact clz
  ·have i3:=kz i2 (decide_eq_false g)
   obtain ⟨s,hs⟩: ∃s,s=t.getD i []:=⟨_,rfl⟩
   have es:=hs.symm
   rw [es]at g
   have k2:((70:Int)<s.length)=False:=eq_false (by omega)
   simp (disch:=omega) only [List.replicate,strs,k1,k2,es,go_sem]
   repeat' first
    |((first|apply qc|apply qb);exact rvk;simp only [go_sem];first|exact VLe.refl _|apply qd|apply qa|apply qe|skip)
    |with_reducible first|refine And.intro ?_ ?_|intro _
   all_goals try exact clz
   refine hK _ _ (i+1) ⟨hi,i3⟩ (by omega) (Wk.temps ?_)
   (simp only [strs,List.replicate,go_sem,qj,qh,qg,qi];try (repeat' first|(with_reducible refine And.intro ?_ ?_)|(apply qd;omega)|(apply qa;rfl)|exact VLe.refl _))
 have k1:((i:Int)<t.length)=False:=eq_false (by omega)
 rw [qQ.2 (fun j hj=>i2 j (by omega)),Bool.false_or]at hR
 have zl: ∀g,valL g .len [strs t]= .int .i64 t.length:=fun _=>rfl
 have zo: ∀g,okL g .len [strs t]=True:=fun _=>eq_true trivial
 cases g1:qpF names gs with
 |true=>
  rw [g1]at hR
  simp only [g1]at c72
  rw [hR]
  simp (disch:=omega) only [List.replicate,zl,zo,k1,go_sem]
  repeat' first
   |(refine qu (.bool true) ?_;simp (disch:=omega) only [zl,zo,k1,go_sem])
   |((first|refine cA (c72 _) ?_ ?_|refine cG (fun e=>c72 _) ?_ ?_|refine cU (fun _=>c72 _) ?_ ?_);(next=>exact flk);simp (disch:=omega) only [zl,zo,k1,go_sem])
   |((first|apply qc|apply qb);exact rvk;simp only [go_sem];first|exact VLe.refl _|apply qd|apply qa|apply qe|skip)
   |with_reducible first|refine And.intro ?_ ?_|intro _
  all_goals try exact clz
 |false=>
  rw [g1,Bool.false_or]at hR
  simp only [g1]at c72
  by_cases g2:24<t.length
  ·have k2:((24:Int)<t.length)=True:=eq_true (by omega)
   rw [decide_eq_true g2]at hR
   rw [hR]
   simp (disch:=omega) only [List.replicate,zl,zo,k1,go_sem]
   repeat' first
    |(refine qu (.bool true) ?_;simp (disch:=omega) only [zl,zo,k1,k2,go_sem])
    |((first|refine cA (c72 _) ?_ ?_|refine cG (fun e=>c72 _) ?_ ?_|refine cU (fun _=>c72 _) ?_ ?_);(next=>exact flk);simp (disch:=omega) only [zl,zo,k1,k2,go_sem])
    |((first|apply qc|apply qb);exact rvk;simp only [go_sem];first|exact VLe.refl _|apply qd|apply qa|apply qe|skip)
    |with_reducible first|refine And.intro ?_ ?_|intro _
   all_goals try exact clz
  ·have k2:((24:Int)<t.length)=False:=eq_false (by omega)
   rw [decide_eq_false g2,Bool.false_or]at hR
   rw [←hR]at c73
   simp (disch:=omega) only [List.replicate,zl,zo,k1,go_sem]
   repeat' first
    |((first|refine cA (c72 _) ?_ ?_|refine cG (fun e=>c72 _) ?_ ?_|refine cA (c73 _) ?_ ?_|refine cG (fun e=>c73 _) ?_ ?_|refine cU (fun _=>c72 _) ?_ ?_|refine cU (fun _=>c73 _) ?_ ?_);(next=>exact flk);simp (disch:=omega) only [zl,zo,k1,k2,go_sem])
    |((first|apply qc|apply qb);exact rvk;simp only [go_sem];first|exact VLe.refl _|apply qd|apply qa|apply qe|skip)
    |with_reducible first|refine And.intro ?_ ?_|intro _
   all_goals try exact clz
theorem qzR (names:List Str) (gs:List Gr) (t:List Str) (l:List En) (h:List AObj) (hb:CB names gs t l):qm Tryz.prog 10 [.agg (qbj names gs t l)] h (.bool (qjU names gs t l)) h:=by
 have c41:=fun h=>qzP names gs t l h hb
 refine acO qxm ?_
 simp (disch:=omega) only [qyz,List.replicate,qbj,go_sem]
 repeat' first
  |((first|refine cA (c41 _) ?_ ?_|refine cG (fun e=>c41 _) ?_ ?_|refine cU (fun _=>c41 _) ?_ ?_);(next=>exact flk);simp (disch:=omega) only [qbj,go_sem])
  |((first|apply qc|apply qb);exact rvk;simp only [go_sem];first|exact VLe.refl _|apply qd|apply qa|apply qe|skip)
  |with_reducible first|refine And.intro ?_ ?_|intro _
 all_goals try exact clz
theorem qjZ {ws:List Str} {n:Nat} (h:gwB ws n=false):ws.length≤n∧ ∀i,(ws.getD i []).length≤20:=by
 unfold gwB at h
 rw [Bool.or_eq_false_iff,decide_eq_false_iff_not,qQ]at h
 refine ⟨by omega,fun i=> ?_⟩
 by_cases hi:i<ws.length
 ·have:=of_decide_eq_false (h.1 i hi)
  omega
 ·rw [gdqA,List.getElem?_eq_none (by omega)]
  exact Nat.zero_le _
theorem qva {e:En} (h:geB e=false):e.vars.length≤6∧e.sup.length≤8∧ ∀i,((e.vars.getD i default).words.length≤8∧ ∀j,((e.vars.getD i default).words.getD j []).length≤20)∧(e.vars.getD i default).sigla.length≤8:=by
 unfold geB at h
 rw [Bool.or_eq_false_iff,Bool.or_eq_false_iff,decide_eq_false_iff_not,qQ]at h
 refine ⟨by omega,(qjZ h.1.2).1,fun i=> ?_⟩
 by_cases hi:i<e.vars.length
 ·have:=h.2 i hi
  simp only [Bool.or_eq_false_iff]at this
  exact ⟨qjZ this.1,(qjZ this.2).1⟩
 ·rw [gdqA,List.getElem?_eq_none (by omega)]
  exact ⟨⟨Nat.zero_le _,fun j=>Nat.zero_le _⟩,Nat.zero_le _⟩
theorem qrg {l:List En} (h:qsY l=false):l.length≤10∧ ∀i,geB (l.getD i default)=false:=by
 unfold qsY at h
 rw [Bool.or_eq_false_iff,decide_eq_false_iff_not,qQ]at h
 refine ⟨by omega,fun i=> ?_⟩
 by_cases hi:i<l.length
 ·exact h.2 i hi
 ·rw [gdqA,List.getElem?_eq_none (by omega)]
  rfl
theorem qrf {names:List Str} {gs:List Gr} (h:qpF names gs=false):names.length≤34∧gs.length≤18∧(∀i,(names.getD i []).length≤20)∧ ∀i,(gs.getD i default).name.length≤20∧(gs.getD i default).mem.length≤40:=by
 unfold qpF at h
 simp only [Bool.or_eq_false_iff,decide_eq_false_iff_not,qQ]at h
 obtain ⟨h1,h2,⟨⟨_,h3⟩,_⟩,h4⟩:=h
 refine ⟨by omega,by omega,fun i=> ?_,fun i=> ?_⟩
 ·by_cases hi:i<names.length
  ·have:=h1 i hi
   omega
  ·rw [gdqA,List.getElem?_eq_none (by omega)]
   exact Nat.zero_le _
 ·by_cases hi:i<gs.length
  ·have:=h2 i hi
   unfold grB at this
   simp only [Bool.or_eq_false_iff,decide_eq_false_iff_not]at this
   omega
  ·rw [gdqA,List.getElem?_eq_none (by omega)]
   exact ⟨Nat.zero_le _,Nat.zero_le _⟩
theorem qeO {names:List Str} {gs:List Gr} {t:List Str} {l:List En} (h:qjU names gs t l=false):CSz names gs t l:=by
 unfold qjU at h
 simp only [Bool.or_eq_false_iff,decide_eq_false_iff_not,qQ]at h
 obtain ⟨h1,⟨h2,h3⟩,h4⟩:=h
 obtain ⟨a1,a2,a3,a4⟩:=qrf h2
 obtain ⟨b1,b2⟩:=qrg h4
 have b3:=fun i=>qva (b2 i)
 have ht: ∀i,(t.getD i []).length≤70:=fun i=>by
  by_cases hi:i<t.length
  ·have:=h1 i hi
   omega
  ·rw [gdqA,List.getElem?_eq_none (by omega)]
   exact Nat.zero_le _
 refine ⟨⟨by omega,by omega,fun i=>by have:=a3 i;omega,fun i=>by have:=(a4 i).1;omega,fun i=>by have:=(a4 i).2;omega⟩,⟨by omega,fun j=>by have:=ht j;omega⟩,by omega,b1,by omega,fun i=>by have:=(a4 i).2;omega,fun i=>⟨by have:=(b3 i).2.1;omega,by have:=(b3 i).1;omega,fun j=>⟨by have:=((b3 i).2.2 j).1.1;omega,fun k=>by have:=((b3 i).2.2 j).1.2 k;omega⟩,fun j=>by have:=((b3 i).2.2 j).2;omega⟩,
  fun i=>by have:=(b3 i).1;omega,fun i j=>by have:=((b3 i).2.2 j).2;omega,fun i j=>by have:=((b3 i).2.2 j).1.1;omega,fun i=>by have:=(b3 i).2.1;omega⟩
end RC
end
section
open Go Go.Proofs AF
def qrp:List Nat:= [93,74,79,120,147,148,161,170,63,105,131,64,31,32,57,58,29,30]
def qyF:C:=
 ((C.ops [O1 2 (.box 0 71) 0,ON 4 (.nilo 1 1 9) []]).seq ((C.ops [O1 9 (.fldA 2) 2,LD 10 9,⟨some 11,none,.build [.nl,i6 0,.nl] [(0,1)],[.t 10]⟩,⟨some 5,none,.alloc 2 102
 [.nl,i6 0,.nl],[]⟩,ST 3 5 11]).seq ((C.wk.seq (C.ops [O1 12 (.mkfn (Fn.func 74) 1) 5,⟨some 6,none,.alloc 3 103 [.nilfn],[]⟩,ST 1 6 12])).seq (((C.ops [O1 13 (.load (some
 5)) 2,MV 14 1,O2 15 (.call 75 true) 13 14]).seq (C.block 0 (C.range (.t 15) [16,17] ((C.ops [⟨some 7,none,.alloc 4 49 [i6 0,i6 0,i6 0,.bool false,.nl,.nl],[]⟩,ST 6 7
 16]).seq (C.ops [MV 8 17])) (C.block 1 ((C.ops [LD 18 6,O1 19 (.fldA 1) 7,LD 20 19,O2 21 .callv 18 20]).seq ((C.ops [O1 22 (.fldA 2) 5,LD 23 22,MV 24 8,O2 25 (.app 5 1 9 16)
 23 24,O1 26 (.fldA 2) 5,ST 1 26 25]).seq (C.ops [O1 27 (.fldA 2) 7,LD 28 27,O1 29 (.fldA 1) 5,ST 1 29 28]))))))).seq ((C.ops [LD 30 6,O1 31 (.fldA 2) 2,LD 32 31,O1 33 .len
 32,O2 34 .callv 30 33]).seq ((C.ops [O1 35 (.fldA 2) 5,LD 36 35,MV 4 36]).seq
 C.ret))))))
theorem qxu:qM Tryz.prog 44 37 6 [RV.tmp 4] qyF:=fi Tryz.f44 [2,4,5,6,7,25] qrp [2] (by kernel_rfl) (by kernel_rfl) (by kernel_rfl) (by kernel_rfl)
end
section
open Go Go.Proofs AF HY LN
namespace AF
theorem qdE {P:Program} {f:FuncId} {first cap args:List AV} {d:Option Nat} {nx:Nx} {t:List AV} {h h':List AObj} {r:AV} (hc:qm P f (first++args++cap) h r h') (hn:nx (qH t d r) h'):qaJ P (.fn (.func f) first cap::args) d nx t h:=⟨r,h',hc,hn⟩
theorem qac {v w c n:Nat} {ty:TypeId} {cs ms:List AV} (hc:c=cs.length) (hn:n=ms.length):qdv (some (zp v ty cs)) ty w c n ms=zp (w+1) ty (cs++ms):=by
 subst hc;subst hn
 unfold zp
 by_cases h:cs= []
 ·subst h
  rw [if_pos rfl,List.nil_append]
  by_cases g:ms= []
  ·subst g;rfl
  ·rw [if_neg g]
   unfold qdv
   simp [g]
 ·rw [if_neg h,if_neg (by simp [h])]
  simp [qdv]
theorem qgX {h:List AObj} {k ko:Nat} {o o':AObj} (hk:k<h.length):qA k (qB k (qB ko h o) o')=some o':=zX (by rw [qV];exact hk)
theorem jX {v:Nat} {ty:TypeId} {cs:List AV} {n:Nat} (h: ∀c∈cs,zE n c=true):kX n (zp v ty cs):=by
 unfold zp
 split
 ·trivial
 ·exact h
theorem qkI {v w:Nat} {ty:TypeId} {cs:List AV}:qf0 (some (zp v ty cs)) w=(v==w):=by unfold zp;split<;>rfl
theorem qhg {v:Nat} {ty:TypeId} {cs:List AV}:(qeA (some (zp v ty cs)) v).getD []=cs:=by
 unfold zp
 split
 ·rename_i e;rw [e];rfl
 ·rw [qbR,if_pos rfl];rfl
end AF
namespace RC
theorem qeK (e:En) (n:Nat): ∀c∈enC e,zE n c=true:=by
 intro c hc
 simp only [enC,List.mem_cons,List.not_mem_nil,or_false]at hc
 rcases hc with rfl|rfl|rfl|rfl|rfl|rfl<;>rfl
set_option maxHeartbeats 8000000
theorem qhu (L:List Str):(strs L).solid=true:=rfl
theorem qgE (L:List Str):(strs L).cells= [strs L]:=rfl
theorem kT {k v z p n:Nat} (L:List Str):qab (.osl k v z p n) (strs L)=true:=rfl
attribute [go_sem] qhu qgE kT
theorem qdh (L:List Str) (n:Nat): ∀c∈zR L,zE n c=true:=by
 intro c hc
 unfold zR at hc
 obtain ⟨x,_,rfl⟩:=List.mem_map.1 hc
 rfl
theorem qqB {k ko vk v m:Nat} {a:Int} {h:List AObj} {ty:TypeId} {t L:List Str} (hkl:k<h.length) (hjl:ko<h.length): ∀o∈qB k (qB ko h (zp v 9 (zR L))) (.mem vk ty [strs t,.int .i64 a,.osl ko v 1 0 m]),o∈h∨kX h.length o:=by
 intro o ho
 rcases qat ho with h1|rfl
 ·rcases qat h1 with h2|rfl
  ·exact .inl h2
  ·exact .inr (jX (qdh L _))
 ·right
  intro c hc
  simp only [List.mem_cons,List.not_mem_nil,or_false]at hc
  rcases hc with rfl|rfl|rfl
  ·rfl
  ·rfl
  ·simpa [zE] using hjl
theorem qy3 (t out:List Str) (a to k ko vk vo:Nat) (ty:TypeId) (h:List AObj) (hne:ko≠k) (hk:qA k h=some (.mem vk ty [strs t,.int .i64 a,.osl ko vo 1 0 out.length])) (hj:qA ko h=some (zp vo 9 (zR out))) (h1:a≤to) (h2:to≤t.length) (hb:out.length+t.length≤1000000000000):
  qm Tryz.prog 74 [.op k vk 0,.int .i64 to] h (.tup []) (qB k (qB ko h (zp (vo+1) 9 (zR (out++j6 t a to)))) (.mem vk ty [strs t,.int .i64 to,.osl ko (vo+1) 1 0 (out++j6 t a to).length])):=by
 have hkl:=zM hk
 have hjl:=zM hj
 have hne':k≠ko:=fun e=>hne e.symm
 have q1:((a:Int)≤to)=True:=eq_true (by omega)
 have q2:((to:Int)≤t.length)=True:=eq_true (by omega)
 have q3:(0≤(a:Int))=True:=eq_true (by omega)
 have rt:((to:Int)-a).toNat=to-a:=by omega
 have eS:=fun h=>qff h h1 h2
 have eC:=zd (j6 t a to)
 have eL:=qbL h1 h2
 have eO:=zd out
 have eA:qdv (some (zp vo 9 (zR out))) 9 vo out.length (to-a) (zR (j6 t a to))=zp (vo+1) 9 (zR (out++j6 t a to)):=by
  rw [kH];exact qac eO.symm (by omega)
 have hk1: ∀l,qA k (h++l)=some (.mem vk ty [strs t,.int .i64 a,.osl ko vo 1 0 out.length]):=fun l=>by rw [jh hkl,hk]
 have hj1: ∀l,qA ko (h++l)=some (zp vo 9 (zR out)):=fun l=>by rw [jh hjl,hj]
 refine acO qxH ?_
 simp (disch:=omega) only [qyR,List.replicate,qb9,zX,qgX,eA,hk1,hj1,qeB,qdY,qbR,qg3,hk,hj,q1,q2,q3,rt,Int.toNat_natCast,strs,eS,qkI,qhg,qa7,qri,qrj,qsd,qse,go_sem]
 repeat' first
  |((first|apply qc|apply qb);exact rvk;simp only [go_sem];first|exact VLe.refl _|apply qd|apply qa|apply qe|skip)
  |with_reducible first|refine And.intro ?_ ?_|intro _
 all_goals try exact clz
 have eLn:(out++j6 t a to).length=out.length+(to-a):=by rw [List.length_append,eL]
 rw [eLn]
 exact qjR trivial (by simp only [qV]) (qqB hkl hjl) ⟨rfl,rfl⟩ (VLe.refl _)
theorem qgh {v:Nat} {L:List Str} {g:AV→AV} {n:Nat} (hg: ∀s,g (.str s)= .str s) (hn:n=L.length):VLe (qdr (some (zp v 9 (zR L))) v 1 0 n g) (strs L):=by
 subst hn
 by_cases h:L= []
 ·subst h
  show VLe (qdr (some (.emp v)) v 1 0 0 g) _
  rw [slOf_emp,if_pos rfl]
  exact zQ
 ·have e0:zp v 9 (zR L)= .mem v 9 (zR L):=jj (fun e=>h (qoK.1 e))
  rw [e0,slOf_mem,if_pos ⟨rfl,by rw [zd];omega⟩]
  simp only [Nat.zero_add,Nat.mul_one]
  exact qbK g hg rfl
theorem qzk (names:List Str) (gs:List Gr) (t:List Str) (L:List En) (src:Int) (h:List AObj) (hl:L.length≤10) (hv: ∀i,(L.getD i default).vars.length≤1000) (hw: ∀i j,((L.getD i default).vars.getD j default).words.length≤1000) (ht:t.length≤1000)
  (ok:qwz t (L.filter (qa8 names gs src))):
  qm Tryz.prog 44 [.agg (edL names gs t L),.int .i64 src] h (strs (qoW names gs t src (L.filter (qa8 names gs src)) 0)) h:=by
 have c75:=fun h=>ofP names gs t L src h
 have hle:=List.length_filter_le (qa8 names gs src) L
 have hall:=qoX names gs t src (L.filter (qa8 names gs src))
 have hat:=fun i=>qsp (names:=names) (gs:=gs) (src:=src) ok i
 have hbnd:=fun i=>qsr (names:=names) (gs:=gs) (src:=src) ok i
 have hrg:=ok.rg
 have hlen: ∀i,i≤(L.filter (qa8 names gs src)).length→(qcf names gs t src ((L.filter (qa8 names gs src)).take i)).1.length≤i*(t.length+1000):=qoY (fun i hi k=>by
  have hm:=(List.mem_filter.1 (jg hi)).1
  obtain ⟨j,hj,e⟩:=List.getElem_of_mem hm
  have:=hw j k
  rw [gdqA (l:=L),q9 hj]at this
  rw [←e]
  exact this)
 have hlen: ∀i,i≤(L.filter (qa8 names gs src)).length→(qcf names gs t src ((L.filter (qa8 names gs src)).take i)).1.length≤20000:=fun i hi=>by
  have h1:=hlen i hi
  have h2:i*(t.length+1000)≤10*2000:=Nat.mul_le_mul (by omega) (by omega)
  omega
 have hst:=fun {i} hi=>qaA (names:=names) (gs:=gs) (t:=t) (src:=src) (L:=L.filter (qa8 names gs src)) (i:=i) hi
 have hwl: ∀i,i<(L.filter (qa8 names gs src)).length→(qh0 names gs ((L.filter (qa8 names gs src)).getD i default) src).length≤1000:=fun i hi=>by
  have hm:=(List.mem_filter.1 (jg hi)).1
  obtain ⟨j,hj,e⟩:=List.getElem_of_mem hm
  have:=fun k=>hw j k
  rw [gdqA (l:=L),q9 hj]at this
  rw [←e]
  exact qmg this
 obtain ⟨F,hF⟩: ∃F,F=L.filter (qa8 names gs src):=⟨_,rfl⟩
 rw [←hF]at hall hle
 simp only [←hF]at hat hbnd hrg hlen hst hwl
 rw [←hF,←hall]
 unfold edL at c75
 refine acO qxu ?_
 simp (disch:=omega) only [qyF,List.replicate,edL,go_sem]
 repeat' first
  |((first|apply qc|apply qb);exact rvk;simp only [go_sem];first|exact VLe.refl _|apply qd|apply qa|apply qe|skip)
  |with_reducible first|refine And.intro ?_ ?_|intro _
 all_goals try exact clz
 refine ⟨_,_,Wk.ownNil (j:=h.length+2) (i:=2) (k:=h.length+5) (ve:=0) (v:=1) (ty:=102) (cs:= [strs t,.int .i64 0,.nl]) (sz:=1) (by simp only [go_sem]) rfl (by simp only [go_sem]),?_⟩
 simp (disch:=omega) only [List.set_cons_succ,List.set_cons_zero,go_sem]
 repeat' first
  |((first|refine cA (c75 _) ?_ ?_|refine cG (fun e=>c75 _) ?_ ?_|refine cU (fun _=>c75 _) ?_ ?_);(next=>exact flk);simp (disch:=omega) only [go_sem])
  |((first|apply qc|apply qb);exact rvk;simp only [go_sem];first|exact VLe.refl _|apply qd|apply qa|apply qe|skip)
  |with_reducible first|refine And.intro ?_ ?_|intro _
 all_goals try exact clz
 refine jY (xs:=xsE names gs L src) (itO names gs t L src (by omega) (fun i=>by have:=hv i;omega)) (qfD names gs L src)
  (S:=fun i hh=> ∃v O,qD [O] 0=true∧(∀n,kX n O)∧hh=h++ [.mem 1 71 (edL names gs t L),.emp 1,.mem 1 102 [strs t,.int .i64 (qcf names gs t src (F.take i)).2,.osl (h.length+5) v 1 0 (qcf names gs t src (F.take i)).1.length],.mem 1 103 [.fn (.func 74) [.op (h.length+2) 1 0] []],O,zp v 9 (zR (qcf names gs t src (F.take i)).1)]) (E:=fun _ _=>False) ?_ (fun _ _ h=>h.elim) ?_ ?_ ?_ ?_ (fun _ _ h=>h.elim)
 ·rintro i hh ⟨v,O,o1,o2,rfl⟩
  refine LowI.app rfl (fun o ho=> ?_)
  simp only [List.mem_cons,List.not_mem_nil,or_false]at ho
  rcases ho with rfl|rfl|rfl|rfl|rfl|rfl
  ·left;simp [edL]
  ·left;simp
  ·right;constructor<;>(intro c hc;simp only [List.mem_cons,List.not_mem_nil,or_false]at hc;rcases hc with rfl|rfl|rfl<;>first|rfl|(simp [zE];try omega))
  ·left;simp
  ·right;exact ⟨o2 _,o2 _⟩
  ·right;exact ⟨jX (qdh _ _),jX (qdh _ _)⟩
 ·exact ⟨0,.emp 0,rfl,fun _=>trivial,rfl⟩
 ·simp [zE,zE.lowVs,edL,qbE,qc0,qcZ,qeT]
  try omega
 ·rintro i hh tl LI TS hi ⟨v,O,o1,o2,rfl⟩ hq K K2 hK hN hR hX
  have o1': ∀m,qD (O::m) 0=true:=fun _=>o1
  rw [qfC names gs L src hi]
  rw [qa4,←hF]at hi
  rw [←hF]
  have hs:=hst hi
  have ha:=hat i hi
  have hb:=hbnd i (by omega)
  have hl1:=hlen i (by omega)
  have hl2:=hlen (i+1) (by omega)
  have hr:=hrg i hi
  have hw1:=hwl i hi
  obtain ⟨e,he⟩: ∃e,e=F.getD i default:=⟨_,rfl⟩
  rw [←he]at hs ha hr hw1 ⊢
  obtain ⟨f,hf⟩: ∃f:Nat,e.frm=(f:Int):=⟨e.frm.toNat,by omega⟩
  obtain ⟨g,hg⟩: ∃g:Nat,e.to=(g:Int):=⟨e.to.toNat,by omega⟩
  rw [hf]at ha hr
  rw [hg]at hr
  rw [hf,hg]at hs
  simp only [Int.toNat_natCast]at hs
  rw [hs]at hl2
  obtain ⟨out,hout⟩: ∃out,out=(qcf names gs t src (F.take i)).1:=⟨_,rfl⟩
  obtain ⟨a,haa⟩: ∃a,a=(qcf names gs t src (F.take i)).2:=⟨_,rfl⟩
  obtain ⟨own,hown⟩: ∃own,own=qh0 names gs e src:=⟨_,rfl⟩
  rw [←hown]at hs hl2 hw1 ⊢
  rw [←hout,←haa]at hs hl2 ⊢
  rw [←hout]at hl1
  rw [←haa]at ha hb
  simp only [qaW]
  simp (disch:=omega) only [List.append_assoc,o1',enC,hf,hg,go_sem]
  refine hK _ _ (h++ [.mem 1 71 (edL names gs t L),.emp 1,.mem 1 102 [strs t,.int .i64 a,.osl (h.length+5) v 1 0 out.length],.mem 1 103 [.fn (.func 74) [.op (h.length+2) 1 0] []],.mem (qs (some O)+1) 49 (enC e),zp v 9 (zR out)]) (by simp [enC,hf,hg]) (by simp) ?_
  obtain ⟨w,hw⟩: ∃w,w=qs (some O)+1:=⟨_,rfl⟩
  rw [←hw]
  simp only [List.length_append]at hl2
  have eN:(out++j6 t a f).length=out.length+(j6 t a f).length:=List.length_append
  have hfl:=qbL (t:=t) (f:=a) (g:=f) (by omega) (by omega)
  simp (disch:=omega) only [List.append_assoc,enC,hf,hg,go_sem]
  repeat' first
   |((first|apply qc|apply qb);exact rvk;simp only [go_sem];first|exact VLe.refl _|apply qd|apply qa|apply qe|skip)
   |with_reducible first|refine And.intro ?_ ?_|intro _
  all_goals try exact clz
  refine qdE (qy3 t out a f (h.length+2) (h.length+5) 1 v 102 _ (by omega) (by simp only [go_sem]) (by simp only [go_sem]) (by omega) (by omega) (by omega)) ?_
  have eA:=qac (v:=v+1) (w:=v+1) (ty:=9) (cs:=zR (out++j6 t a f)) (ms:=zR own) (zd _).symm (zd _).symm
  rw [←kH]at eA
  have eS:=fun h=>qaz h own
  have eC:=zd own
  have eD:=zd (out++j6 t a f)
  simp (disch:=omega) only [Nat.mul_one,eS,eA,eC,eD,go_sem]
  repeat' first
   |((first|apply qc|apply qb);exact rvk;simp only [go_sem];first|exact VLe.refl _|apply qd|apply qa|apply qe|skip)
   |with_reducible first|refine And.intro ?_ ?_|intro _
  all_goals try exact clz
  refine hN _ _ (h++ [.mem 1 71 (edL names gs t L),.emp 1,.mem 1 102 [strs t,.int .i64 g,.osl (h.length+5) (v+1+1) 1 0 ((out++j6 t a f).length+own.length)],.mem 1 103 [.fn (.func 74) [.op (h.length+2) 1 0] []],.mem w 49 (enC e),zp (v+1+1) 9 (zR (out++j6 t a f++own))]) ?_ (by simp) ⟨v+1+1,.mem w 49 (enC e),rfl,fun n=>qeK e n,?_⟩
  ·simp [enC,hf,hg]
  ·rw [hs]
   simp [Nat.add_assoc]
 ·rintro hh ⟨v,O,o1,o2,rfl⟩
  rw [qa4,←hF,List.take_length]
  have hl1:=hlen F.length (Nat.le_refl _)
  have hb:=hbnd F.length (Nat.le_refl _)
  rw [List.take_length]at hl1 hb
  obtain ⟨out,hout⟩: ∃out,out=(qcf names gs t src F).1:=⟨_,rfl⟩
  obtain ⟨a,haa⟩: ∃a,a=(qcf names gs t src F).2:=⟨_,rfl⟩
  rw [←hout]at hl1
  rw [←haa]at hb
  rw [←hout,←haa]
  have zl: ∀g,valL g .len [strs t]= .int .i64 t.length:=fun _=>rfl
  have zo: ∀g,okL g .len [strs t]=True:=fun _=>eq_true trivial
  simp (disch:=omega) only [edL,zl,zo,go_sem]
  repeat' first
   |((first|apply qc|apply qb);exact rvk;simp only [go_sem];first|exact VLe.refl _|apply qd|apply qa|apply qe|skip)
   |with_reducible first|refine And.intro ?_ ?_|intro _
  all_goals try exact clz
  refine qdE (qy3 t out a t.length (h.length+2) (h.length+5) 1 v 102 _ (by omega) (by simp only [go_sem]) (by simp only [go_sem]) (by omega) (by omega) (by omega)) ?_
  simp (disch:=omega) only [go_sem]
  repeat' first
   |((first|apply qc|apply qb);exact rvk;simp only [go_sem];first|exact VLe.refl _|apply qd|apply qa|apply qe|skip)
   |with_reducible first|refine And.intro ?_ ?_|intro _
  all_goals try exact clz
  exact qgh (fun _=>rfl) rfl
end RC
end
section
open Go Go.Proofs AF
def qrq:List Nat:= [93,74,79,120,147,148,161,170,63,105,131,64,31,32,57,58,29,30]
def qwV:C:=
 ((C.ops [⟨some 8,none,.alloc 0 71 [.nl,.nl,.nl,.nl,.nl],[]⟩,⟨some 9,none,.alloc 1 29 [i6 0],[]⟩]).seq ((C.ops [MV 24 0,MV 25 1,MV 26 2,⟨some 27,none,.build [.nl,
 .nl,.nl,.nl,.nl] [(0,1),(1,1),(2,1)],[.t 24,.t 25,.t 26]⟩,⟨some 10,none,.alloc 2 71 [.nl,.nl,.nl,.nl,.nl],[]⟩,ST 5 10 27]).seq (((C.ops [MV 28 0,MV 29 1,O2 30
 (.call 59 true) 28 29,BC 31 .neq 30 (i6 0)]).seq (C.cond (.t 31) ((C.ops [O1 32 (.load (some 5)) 10,ST 5 8 32,⟨none,none,.store 1,[.t 9,.c (i6 1)]⟩]).seq C.ret) C.skip)).seq
 (((C.ops [MV 33 3,O1 34 .len 33,BC 35 .gtr 34 (i6 4096)]).seq (C.cond (.t 35) ((C.ops [O1 36 (.load (some 5)) 10,ST 5 8 36,⟨none,none,.store 1,[.t 9,.c (i6 4)]⟩]).seq
 C.ret) C.skip)).seq (((C.ops [MV 37 3,O1 38 .len 37,MC 39 (i6 0)]).seq (C.block 0 ((C.ops [BI 40 .lss 39 38]).seq ((C.cond (.t 40) C.skip (C.exit 0)).seq ((C.block 1 ((C.ops [O2
 41 (.idxA 6) 37 39,O1 42 (.load (some 6)) 41,⟨some 12,none,.alloc 3 49 [i6 0,i6 0,i6 0,.bool false,.nl,.nl],[]⟩,ST 6 12 42]).seq ((C.ops [MV 43 0,MV 44 1,MV 45 2,O1
 46 (.load (some 6)) 12,ON 47 (.call 78 true) [.t 43,.t 44,.t 45,.t 46],MV 13 47]).seq ((C.ops [MV 48 13,BC 49 .neq 48 (i6 0)]).seq (C.cond (.t 49) ((C.ops [O1 50 (.load (some
 5)) 10,MV 51 13,ST 5 8 50,ST 1 9 51]).seq C.ret) C.skip))))).seq (C.ops [BC 52 .add 39 (i6 1),MV 39 52])))).loop)).seq ((C.ops [MV 53 3,O1 54 (.call 31 false) 53,O1 55 (.fldA
 3) 10,ST 1 55 54]).seq ((C.ops [O1 56 (.fldA 3) 10,LD 57 56,OC 58 (.call 79 false) 57 (.fn (Fn.func 80) [] [])]).seq (((C.wk.seq (C.ops [O1 59 (.fldA 3) 10,LD 60 59,O1 61 .len
 60,MC 62 (i6 0)])).seq (C.block 2 ((C.ops [BI 63 .lss 62 61]).seq ((C.cond (.t 63) C.skip (C.exit 2)).seq ((C.block 3 ((C.ops [O2 64 (.idxA 6) 60 62,O1 65 (.load (some 6)) 64,
 ⟨some 15,none,.alloc 4 49 [i6 0,i6 0,i6 0,.bool false,.nl,.nl],[]⟩,ST 6 15 65]).seq ((C.ops [ON 16 (.nilo 5 1 37) []]).seq (((C.ops [O1 66 (.fldA 5) 15,LD 67 66,O1 68
 .len 67,MC 69 (i6 0)]).seq (C.block 4 ((C.ops [BI 70 .lss 69 68]).seq ((C.cond (.t 70) C.skip (C.exit 4)).seq ((C.block 5 ((C.ops [O2 71 (.idxA 2) 67 69,O1 72 (.load (some 2))
 71,⟨some 18,none,.alloc 6 51 [.nl,.nl],[]⟩,ST 2 18 72]).seq ((C.ops [MV 74 0,MV 75 1,O1 76 (.fldA 1) 18,LD 77 76,ON 78 (.call 62 true) [.t 74,.t 75,.t 77],MV 73 78,O1
 79 (.ext 0) 73,O1 80 (.ext 1) 73,MV 19 79,MV 20 80]).seq (((C.ops [MV 81 20,BC 82 .neq 81 (i6 0)]).seq (C.cond (.t 82) ((C.ops [O1 83 (.load (some 5)) 10,MV 84 20,ST 5 8 83,
 ST 1 9 84]).seq C.ret) C.skip)).seq (C.ops [MV 85 16,MV 86 19,⟨some 87,none,.bslc 7 1 1 37 [.nl] [(0,1)],[.t 86]⟩,O2 88 (.app 8 1 37 24) 85 87,MV 16 88]))))).seq (C.ops [BC
 89 .add 69 (i6 1),MV 69 89])))).loop)).seq (C.ops [O1 90 (.fldA 4) 10,LD 91 90,MV 92 16,⟨some 93,none,.bslc 9 1 1 91 [.nl] [(0,1)],[.t 92]⟩,O2 94 (.app 10 1 91 24) 91 93,
 O1 95 (.fldA 4) 10,ST 1 95 94]))))).seq (C.ops [BC 96 .add 62 (i6 1),MV 62 96])))).loop)).seq (((C.wk.seq (C.ops [MV 97 0,O1 98 .len 97,MC 99 (i6 0)])).seq (C.block 6 ((C.ops
 [BI 100 .lss 99 98]).seq ((C.cond (.t 100) C.skip (C.exit 6)).seq ((C.block 7 ((C.ops [MV 101 99,MV 21 101]).seq ((C.ops [⟨some 102,none,.build [i6 0,i6 0,i6 0,.bool false,
 .nl,.nl] [(1,1),(2,1)],[.c (i6 (-1)),.c (i6 (-1))]⟩,⟨some 22,none,.alloc 11 49 [i6 0,i6 0,i6 0,.bool false,.nl,.nl],[]⟩,ST 6 22 102]).seq ((C.ops [O1 103 (.load
 (some 5)) 10,MV 104 21,O2 105 (.call 75 true) 103 104]).seq (C.block 8 (C.range (.t 105) [106,107] (C.ops [⟨some 23,none,.alloc 12 49 [i6 0,i6 0,i6 0,.bool false,.nl,
 .nl],[]⟩,ST 6 23 106]) (C.block 9 (((C.ops [O1 108 (.fldA 1) 23,LD 109 108,O1 110 (.fldA 2) 22,LD 111 110,BI 112 .lss 109 111,MV 113 112,P1 114 113 false (.fldA 1) 23,P1
 115 113 false (.load none) 114,P1 116 113 false (.fldA 1) 22,P1 117 113 false (.load none) 116,P2 118 113 false (.bin .eql) 115 117,MG 119 113 false 118,P1 120 119 true (.fldA
 2) 23,P1 121 119 true (.load none) 120,P1 122 119 true (.fldA 2) 22,P1 123 119 true (.load none) 122,P2 124 119 true (.bin .eql) 121 123,QF 125 113 false 119 124,PT 126 113
 125]).seq (C.cond (.t 126) ((C.ops [O1 127 (.load (some 5)) 10,ST 5 8 127,⟨none,none,.store 1,[.t 9,.c (i6 17)]⟩]).seq C.ret) C.skip)).seq (C.ops [O1 128 (.load (some 6)) 23,
 ST 6 22 128]))))))))).seq (C.ops [BC 129 .add 99 (i6 1),MV 99 129])))).loop)).seq ((C.ops [O1 130 (.load (some 5)) 10,ST 5 8 130,⟨none,none,.store 1,[.t 9,.c (i6 0)]⟩]).seq
 C.ret))))))))))
theorem quW:qM Tryz.prog 48 131 13 [RV.cell 8 (some 5),RV.cell 9 none] qwV:=fi Tryz.f48 [8,9,10,12,15,16,18,87,88,93,94,22,23] qrq [15,29] (by kernel_rfl) (by kernel_rfl) (by kernel_rfl) (by kernel_rfl)
end
