import Derived.Test.YtgoandblgcjleaaGreatDoorK10
import Derived.Test.YtgoandblgcjleaaGreatDoorK3
import Derived.Test.YtgoandblgcjleaaGreatDoorK5
import Derived.Test.YtgoandblgcjleaaGreatDoorK8
import Derived.Test.YtgoandblgcjleaaGreatDoorProg
set_option linter.all false
set_option linter.unusedSimpArgs false
set_option linter.unusedVariables false
set_option linter.unusedSectionVars false
set_option maxHeartbeats 64000000
set_option maxRecDepth 100000
section
open Go Go.Proofs AF HY LN
namespace RC
def qkB (a b:Int):Int:=if a<b then-1 else if b<a then 1 else 0
theorem qCe (a:Int) (h:List AObj):ACalls Tryz.prog 195 [.int .i64 a] h (.bool false) h:=by
 have k:(a=a)=True:=eq_true rfl
 refine acO qxE ?_
 simp (disch:=omega) only [qv3,k,go_sem]
 repeat' first
  |((first|apply qd|apply qb);exact rvk;simp only [go_sem];first|exact ql|apply qe|apply qa|apply qf|skip)
  |with_reducible first|intro _|apply aiA
 all_goals try exact clz
theorem qCK (a b:Int) (h:List AObj):ACalls Tryz.prog 141 [.int .i64 a,.int .i64 b] h (.int .i64 (qkB a b)) h:=by
 have c1:=fun h=>qCe a h
 have c2:=fun h=>qCe b h
 unfold qkB
 by_cases g1:a<b
 ·have k1:(a<b)=True:=eq_true g1
  rw [if_pos g1]
  refine acO qk8 ?_
  simp (disch:=omega) only [qnZ,k1,go_sem]
  repeat' first
   |((first|refine cA (c1 _) ?_ ?_|refine cG (fun e=>c1 _) ?_ ?_|refine cA (c2 _) ?_ ?_|refine cG (fun e=>c2 _) ?_ ?_|refine cU (fun _=>c1 _) ?_ ?_|refine cU (fun _=>c2 _) ?_ ?_);exact flk;simp (disch:=omega) only [k1,go_sem])
   |((first|apply qd|apply qb);exact rvk;simp only [go_sem];first|exact ql|apply qe|apply qa|apply qf|skip)
   |with_reducible first|intro _|apply aiA
  all_goals try exact clz
 have k1:(a<b)=False:=eq_false g1
 rw [if_neg g1]
 by_cases g2:b<a
 ·have k2:(b<a)=True:=eq_true g2
  rw [if_pos g2]
  refine acO qk8 ?_
  simp (disch:=omega) only [qnZ,k1,k2,go_sem]
  repeat' first
   |((first|refine cA (c1 _) ?_ ?_|refine cG (fun e=>c1 _) ?_ ?_|refine cA (c2 _) ?_ ?_|refine cG (fun e=>c2 _) ?_ ?_|refine cU (fun _=>c1 _) ?_ ?_|refine cU (fun _=>c2 _) ?_ ?_);exact flk;simp (disch:=omega) only [k1,k2,go_sem])
   |((first|apply qd|apply qb);exact rvk;simp only [go_sem];first|exact ql|apply qe|apply qa|apply qf|skip)
   |with_reducible first|intro _|apply aiA
  all_goals try exact clz
 ·have k2:(b<a)=False:=eq_false g2
  rw [if_neg g2]
  refine acO qk8 ?_
  simp (disch:=omega) only [qnZ,k1,k2,go_sem]
  repeat' first
   |((first|refine cA (c1 _) ?_ ?_|refine cG (fun e=>c1 _) ?_ ?_|refine cA (c2 _) ?_ ?_|refine cG (fun e=>c2 _) ?_ ?_|refine cU (fun _=>c1 _) ?_ ?_|refine cU (fun _=>c2 _) ?_ ?_);exact flk;simp (disch:=omega) only [k1,k2,go_sem])
   |((first|apply qd|apply qb);exact rvk;simp only [go_sem];first|exact ql|apply qe|apply qa|apply qf|skip)
   |with_reducible first|intro _|apply aiA
  all_goals try exact clz
end RC
end
section
namespace RC
variable {α : Type}
def qcZ (lt:α→α→Bool) (x:α):List α→List α
 | []=> [x]
 |y::r=>if lt x y=true then y::qcZ lt x r else x::y::r
def qe9 (lt:α→α→Bool):List α→List α→List α
 |acc,[]=>acc
 |acc,x::r=>qe9 lt (qcZ lt x acc) r
def qvy (lt:α→α→Bool):Prop:= ∀a b c,lt a b=false→lt b c=false→lt a c=false
def Asy (lt:α→α→Bool):Prop:= ∀a b,lt a b=true→lt b a=false
def qvl (lt:α→α→Bool) (l:List α):Prop:=l.Pairwise fun a b=>lt a b=false
theorem qoZ {lt:α→α→Bool} {x:α}: ∀ {l:List α} {z:α},z∈qcZ lt x l↔z=x∨z∈l:=by
 intro l
 induction l with
 |nil=>intro z;simp [qcZ]
 |cons y r ih=>
  intro z
  unfold qcZ
  split
  ·simp only [List.mem_cons,ih]
   constructor
   ·rintro (h|h|h)
    ·exact .inr (.inl h)
    ·exact .inl h
    ·exact .inr (.inr h)
   ·rintro (h|h|h)
    ·exact .inr (.inl h)
    ·exact .inl h
    ·exact .inr (.inr h)
  ·simp
theorem qcG {lt:α→α→Bool} (hn:qvy lt) (ha:Asy lt) {x:α}: ∀ {l:List α},qvl lt l→qvl lt (qcZ lt x l):=by
 intro l
 induction l with
 |nil=>intro _;exact List.pairwise_singleton _ _
 |cons y r ih=>
  intro h
  obtain ⟨h1,h2⟩:=List.pairwise_cons.1 h
  unfold qcZ
  by_cases g:lt x y=true
  ·rw [if_pos g]
   refine List.pairwise_cons.2 ⟨fun z hz=> ?_,ih h2⟩
   rcases qoZ.1 hz with rfl|hz
   ·exact ha _ _ g
   ·exact h1 z hz
  ·rw [if_neg g]
   have g:lt x y=false:=by simpa using g
   refine List.pairwise_cons.2 ⟨fun z hz=> ?_,h⟩
   rcases List.mem_cons.1 hz with rfl|hz
   ·exact g
   ·exact hn _ _ _ g (h1 z hz)
theorem qlq {lt:α→α→Bool} {x:α} {l:List α} (h: ∀z∈l,lt x z=false):qcZ lt x l=x::l:=by
 cases l with
 |nil=>rfl
 |cons y r=>
  unfold qcZ
  rw [if_neg (by rw [h y (by simp)];simp)]
theorem qfO {lt:α→α→Bool} (hn:qvy lt) (p:α→Bool) (x:α): ∀ {l:List α},qvl lt l→(qcZ lt x l).filter p=if p x=true then qcZ lt x (l.filter p) else l.filter p:=by
 intro l
 induction l with
 |nil=>intro _;unfold qcZ;by_cases h:p x=true<;>simp [h,qcZ]
 |cons y r ih=>
  intro h
  obtain ⟨h1,h2⟩:=List.pairwise_cons.1 h
  by_cases g:lt x y=true
  ·have e:qcZ lt x (y::r)=y::qcZ lt x r:=by rw [qcZ,if_pos g]
   rw [e,List.filter_cons,List.filter_cons,ih h2]
   by_cases hy:p y=true
   ·rw [if_pos hy,if_pos hy]
    by_cases hx:p x=true
    ·rw [if_pos hx,if_pos hx,qcZ,if_pos g]
    ·rw [if_neg hx,if_neg hx]
   ·rw [if_neg hy,if_neg hy]
  ·have e:qcZ lt x (y::r)=x::y::r:=by rw [qcZ,if_neg g]
   have g:lt x y=false:=by simpa using g
   rw [e]
   by_cases hx:p x=true
   ·rw [if_pos hx,List.filter_cons,if_pos hx,qlq]
    intro z hz
    rcases List.mem_cons.1 (List.mem_filter.1 hz).1 with rfl|hz
    ·exact g
    ·exact hn _ _ _ g (h1 z hz)
   ·rw [if_neg hx,List.filter_cons,if_neg hx]
theorem qey {lt:α→α→Bool} (hn:qvy lt) (ha:Asy lt) (p:α→Bool): ∀(l acc:List α),qvl lt acc→(qe9 lt acc l).filter p=qe9 lt (acc.filter p) (l.filter p):=by
 intro l
 induction l with
 |nil=>intro acc _;rfl
 |cons x r ih=>
  intro acc h
  rw [qe9,ih _ (qcG hn ha h),qfO hn p x h,List.filter_cons]
  by_cases hx:p x=true
  ·rw [if_pos hx,if_pos hx,qe9]
  ·rw [if_neg hx,if_neg hx]
theorem qfa {lt:α→α→Bool} (hn:qvy lt) (ha:Asy lt): ∀(l acc:List α),qvl lt acc→qvl lt (qe9 lt acc l):=by
 intro l
 induction l with
 |nil=>intro acc h;exact h
 |cons x r ih=>intro acc h;exact ih _ (qcG hn ha h)
end RC
end
section
namespace RC
variable {α : Type}
end RC
end
section
open Go Go.Proofs AF HY LN
namespace RC
theorem qaZ {a b:En}:qgy a b=true↔a.frm<b.frm∨a.frm=b.frm∧a.to<b.to:=by
 unfold qgy
 simp [Bool.or_eq_true,Bool.and_eq_true]
theorem qbs {a b:En}:qgy a b=false↔b.frm<a.frm∨a.frm=b.frm∧b.to≤a.to:=by
 have:= @qaZ a b
 cases h:qgy a b with
 |true=>rw [h]at this;simp only [true_iff]at this;simp only [Bool.true_eq_false,false_iff];omega
 |false=>rw [h]at this;simp only [Bool.false_eq_true,false_iff]at this;simp only [true_iff];omega
theorem qgA:qvy qgy:=by
 intro a b c h1 h2
 rw [qbs]at*
 omega
theorem qgz:Asy qgy:=by
 intro a b h
 rw [qaZ]at h
 rw [qbs]
 omega
def qvw (l:List En):List En:=(qe9 qgy [] l).reverse
def qCZ (names:List Str) (gs:List Gr) (src:Int) (e:En):Bool:=decide (0≤vIx names gs e src)
def ofE (names:List Str) (gs:List Gr) (l:List En) (src:Int):List En:=(qvw l).filter (qCZ names gs src)
theorem qlr {α:Type} {lt:α→α→Bool} {x:α}: ∀l:List α,(qcZ lt x l).Perm (x::l):=by
 intro l
 induction l with
 |nil=>exact List.Perm.refl _
 |cons y r ih=>
  unfold qcZ
  split
  ·exact (List.Perm.cons y ih).trans (List.Perm.swap x y r)
  ·exact List.Perm.refl _
theorem qix {α:Type} {lt:α→α→Bool}: ∀l acc:List α,(qe9 lt acc l).Perm (acc++l):=by
 intro l
 induction l with
 |nil=>intro acc;rw [List.append_nil];exact List.Perm.refl _
 |cons x r ih=>
  intro acc
  refine (ih _).trans ((List.Perm.append_right r (qlr acc)).trans ?_)
  exact (List.perm_middle (a:=x) (l₁:=acc) (l₂:=r)).symm
theorem qfd (l:List En):(qvw l).Perm l:=(List.reverse_perm _).trans (by simpa using qix (lt:=qgy) l [])
theorem qgb (l:List En):(qvw l).Pairwise fun a b=>qgy b a=false:=by
 unfold qvw
 rw [List.pairwise_reverse]
 exact qfa qgA qgz l [] List.Pairwise.nil
def qcy (a b:En):Bool:=decide (b.frm<a.to)||decide (a.frm=b.frm)&&decide (a.to=b.to)
def qak:List En→Bool
 |a::b::r=>qcy a b||qak (b::r)
 |_=>false
theorem qkw (L:List En):qak L=true↔ ∃i,i+1<L.length∧qcy (L.getD i default) (L.getD (i+1) default)=true:=by
 induction L with
 |nil=>simp [qak]
 |cons a L ih=>
  cases L with
  |nil=>simp [qak]
  |cons b r=>
   rw [qak,Bool.or_eq_true,ih]
   constructor
   ·rintro (h|⟨i,h1,h2⟩)
    ·exact ⟨0,by simp,h⟩
    ·exact ⟨i+1,by simpa using h1,h2⟩
   ·rintro ⟨i,h1,h2⟩
    cases i with
    |zero=>exact .inl h2
    |succ i=>exact .inr ⟨i,by simpa using h1,h2⟩
def qgw (names:List Str) (gs:List Gr) (l:List En):Bool:=zd (fun s=>qak (ofE names gs l (s:Int))) names.length
def qbo (L:List En):List AV:=L.flatMap enC
theorem qfJ (e:En):(enC e).length=6:=rfl
theorem qgG (L:List En):(qbo L).length=L.length*6:=by
 unfold qbo
 induction L with
 |nil=>rfl
 |cons a L ih=>rw [List.flatMap_cons,List.length_append,ih,List.length_cons,qfJ];omega
theorem qou (A B:List En):qbo (A++B)=qbo A++qbo B:=by simp [qbo]
theorem qow (a:En):qbo [a]=enC a:=by simp [qbo]
theorem qkQ (L:List En): ∀i,(qbo L).drop (i*6)=qbo (L.drop i):=by
 induction L with
 |nil=>intro i;simp [qbo]
 |cons a L ih=>
  intro i
  cases i with
  |zero=>simp
  |succ i=>
   have e:qbo (a::L)=enC a++qbo L:=rfl
   rw [List.drop_succ_cons,e,List.drop_append,qfJ,show (i+1)*6-6=i*6 by omega,ih]
   rw [List.drop_eq_nil_of_le (by rw [qfJ];omega)]
   rfl
theorem qov {L:List En} {i:Nat} (hi:i<L.length):((qbo L).drop (i*6)).take 6=enC (L.getD i default):=by
 rw [qkQ,List.drop_eq_getElem_cons hi,gdqA,zf hi]
 rfl
theorem qdd {a:En} {r:List En} (h:qak (a::r)=false):qak r=false:=by
 cases r with
 |nil=>rfl
 |cons b r=>rw [qak,Bool.or_eq_false_iff]at h;exact h.2
theorem qmT {L:List En} (hs:L.Pairwise fun a b=>qgy b a=false) (hc:qak L=false):L.Pairwise fun a b=>qgy a b=true:=by
 induction L with
 |nil=>exact List.Pairwise.nil
 |cons a r ih=>
  obtain ⟨h1,h2⟩:=List.pairwise_cons.1 hs
  have h3:=ih h2 (qdd hc)
  refine List.pairwise_cons.2 ⟨?_,h3⟩
  cases r with
  |nil=>intro z hz;cases hz
  |cons b r=>
   have hab:qgy a b=true:=by
    rw [qak,Bool.or_eq_false_iff]at hc
    have h5:=hc.1
    unfold qcy at h5
    rw [Bool.or_eq_false_iff,Bool.and_eq_false_imp,decide_eq_false_iff_not,decide_eq_true_iff,decide_eq_false_iff_not]at h5
    have h4:=h1 b (by simp)
    rw [qbs]at h4
    rw [qaZ]
    obtain ⟨h5,h6⟩:=h5
    by_cases e:a.frm=b.frm
    ·have:=h6 e;omega
    ·omega
   intro z hz
   rcases List.mem_cons.1 hz with rfl|hz
   ·exact hab
   ·have h6:=(List.pairwise_cons.1 h3).1 z hz
    rw [qaZ]at*
    omega
theorem qod {L:List En} (hc:qak L=false) {i:Nat} (hi:i+1<L.length):(L.getD i default).to≤(L.getD (i+1) default).frm:=by
 cases h:qcy (L.getD i default) (L.getD (i+1) default)with
 |true=>rw [(qkw L).2 ⟨i,hi,h⟩]at hc;cases hc
 |false=>
  unfold qcy at h
  rw [Bool.or_eq_false_iff,decide_eq_false_iff_not]at h
  omega
theorem qia (names:List Str) (gs:List Gr) (l:List En) (src:Int):(ofE names gs l src).Pairwise fun a b=>qgy b a=false:=List.Pairwise.filter _ (qgb l)
theorem qaG {names:List Str} {gs:List Gr} {l:List En} (h:qgw names gs l=false) {s:Nat} (hs:s<names.length):qak (ofE names gs l (s:Int))=false:=
 qo.1 h s hs
structure qvj (names:List Str) (gs:List Gr) (t:List Str) (l:List En):Prop where
 sg:sgE names gs=0
 n:l.length≤4096
 ck: ∀e∈l,qqI names gs t e=0
 cl:qgw names gs l=false
structure qAc (names:List Str) (gs:List Gr) (t:List Str) (e:En):Prop where
 sg:sgE names gs=0
 tn:t.length≤4096
 tw:jg t=0
 lay:0≤e.layer∧e.layer<16
 rng:0≤e.frm∧e.frm≤e.to∧e.to≤t.length
 sp:0<e.sup.length→e.pos=true
 ne:e.vars.length≠0
 va: ∀i,i<e.vars.length→qfj t e i=0
 es:qaY names gs e.sup=0
 ev: ∀i,i<e.vars.length→qaY names gs (e.vars.getD i default).sigla=0
 tc:(qcV names gs e e.vars.length).2=false
theorem qfE {names:List Str} {gs:List Gr} {t:List Str} {e:En}:qqI names gs t e=0↔qAc names gs t e:=by
 unfold qqI
 constructor
 ·intro h
  split at h
  ·cases h
  rename_i h1
  split at h
  ·cases h
  rename_i h2
  split at h
  ·cases h
  rename_i h3
  split at h
  ·cases h
  rename_i h4
  split at h
  ·cases h
  rename_i h5
  split at h
  ·cases h
  rename_i h6
  split at h
  ·rename_i h7;exact absurd h h7
  rename_i h7
  split at h
  ·rename_i h8;exact absurd h h8
  rename_i h8
  split at h
  ·rename_i h9;exact absurd h h9
  rename_i h9
  split at h
  ·cases h
  rename_i h10
  unfold qpQ at h4
  refine ⟨Classical.not_not.1 h1,by omega,Classical.not_not.1 h3,by omega,by omega,fun h=> ?_,h6,jk.1 (Classical.not_not.1 h7),Classical.not_not.1 h8,jk.1 (Classical.not_not.1 h9),?_⟩
  ·cases hp:e.pos with
   |true=>rfl
   |false=>exact absurd ⟨h,hp⟩ h5
  ·rw [qeh]at h10
   simpa using h10
 ·rintro ⟨h1,h2,h3,h4,h5,h6,h7,h8,h9,h10,h11⟩
  have hr: ¬qpQ t e:=by unfold qpQ;omega
  rw [if_neg (fun hc=>hc h1),if_neg (by omega),if_neg (fun hc=>hc h3),if_neg hr,if_neg (by rintro ⟨a,b⟩;rw [h6 a]at b;cases b),if_neg h7,if_neg (fun hc=>hc (qW (f:=qfj t e) h8)),if_neg (fun hc=>hc h9),
   if_neg (fun hc=>hc (qW (f:=fun i=>qaY names gs (e.vars.getD i default).sigla) h10)),if_neg (by rw [qeh,h11];simp)]
theorem qrH (names:List Str) (gs:List Gr) (e:En): ∀i,(qcV names gs e i).2=false→ ∀x:Int,(x∈(qcV names gs e i).1↔x∈ju names gs e.sup∨ ∃j,j<i∧x∈ju names gs (e.vars.getD j default).sigla):=by
 intro i
 induction i with
 |zero=>intro _ x;simp [qcV]
 |succ i ih=>
  intro h x
  rw [qcd]at h ⊢
  simp only [Bool.or_eq_false_iff]at h
  have hi:=ih h.1 x
  have hb1:x∈(qcV names gs e i).1→0≤x∧x<64:=fun hx=>jK (qas (qrI names gs e i).1).1 x hx
  have hb2:x∈ju names gs (e.vars.getD i default).sigla→0≤x∧x<64:=fun hx=>jK (qas (qgJ names gs _).1).1 x hx
  have hm:x∈jh (fun k=>decide ((k:Int)∈(qcV names gs e i).1)||decide ((k:Int)∈ju names gs (e.vars.getD i default).sigla)) 64↔x∈(qcV names gs e i).1∨x∈ju names gs (e.vars.getD i default).sigla:=by
   unfold jh
   rw [List.mem_map]
   constructor
   ·rintro ⟨k,hk,rfl⟩
    have:=(List.mem_filter.1 hk).2
    simpa [Bool.or_eq_true] using this
   ·intro hx
    have hb:0≤x∧x<64:=hx.elim hb1 hb2
    refine ⟨x.toNat,List.mem_filter.2 ⟨List.mem_range.2 (by omega),?_⟩,by simp;omega⟩
    rw [show ((x.toNat:Nat):Int)=x by omega]
    simpa [Bool.or_eq_true] using hx
  simp only [hm,hi]
  constructor
  ·rintro ((h|⟨j,hj,hx⟩)|hx)
   ·exact .inl h
   ·exact .inr ⟨j,by omega,hx⟩
   ·exact .inr ⟨i,by omega,hx⟩
  ·rintro (h|⟨j,hj,hx⟩)
   ·exact .inl (.inl h)
   ·by_cases e':j=i
    ·subst e';exact .inr hx
    ·exact .inl (.inr ⟨j,by omega,hx⟩)
section
variable {k v w : Nat} {h : List AObj} {o o' : AObj} {ty : TypeId} {cs : List AV}
end
end RC
end
section
open Go Go.Proofs AF HY LN
namespace AF
theorem Wk.cells {t:List AV} {h:List AObj} {j v:Nat} {ty:TypeId} {cs cs':List AV} (hj:getO j h=some (.mem v ty cs)) (hc:qbq cs cs'):Wk t h t (setO j h (.mem v ty cs')):=by
 intro N w σ a H
 have hjl:j<σ.length:=by rw [H.hr.len];exact kk hj
 have ho:=zf hjl
 obtain ⟨m1,m2,b,arr,m3,m4,m5,m6,m7,m8⟩:=H.hr.obj j _ _ hj ho
 have q:=H.hr.recell (cs':=cs') hj ho m3 m4 m5 (by rw [hc.length];exact m6) (fun i x hi hx=>m7 i x (by rw [←hc.length];exact hi) hx) (fun i c x hi hx=>by
  obtain ⟨c0,h1,h2⟩:=hc.get i c hi
  exact h2 _ _ _ (m8 i c0 x h1 hx))
 exact ⟨σ,⟨q,H.sz,H.tm,H.df⟩,Ext.refl _ _⟩
end AF
namespace RC
end RC
end
section
open Go Go.Proofs AF HY LN
namespace RC
def stV (names:List Str) (gs:List Gr) (e:En):AV:= .sl e.vars.length fun j=> [qq (ju names gs (e.vars.getD j default).sigla)]
def msV (names:List Str) (gs:List Gr) (L:List En):AV:= .sl L.length fun i=> [stV names gs (L.getD i default)]
theorem qoH (names:List Str) (gs:List Gr) (e:En):(stV names gs e).flag=true:=rfl
theorem qmZ (names:List Str) (gs:List Gr) (e:En):(stV names gs e).strip=stV names gs e:=rfl
theorem qoF (names:List Str) (gs:List Gr) (L:List En):(msV names gs L).flag=true:=rfl
theorem qmX (names:List Str) (gs:List Gr) (L:List En):(msV names gs L).strip=msV names gs L:=rfl
theorem qte {fz:Nat→Bool} {h:List AObj} {n:Nat} (names:List Str) (gs:List Gr) (e:En):frz fz h (n+1) (stV names gs e)=stV names gs e:=rfl
theorem qt5 {fz:Nat→Bool} {h:List AObj} {n:Nat} (names:List Str) (gs:List Gr) (e:En):rei fz h (n+1) (stV names gs e)=stV names gs e:=rfl
theorem qtd {fz:Nat→Bool} {h:List AObj} {n:Nat} (names:List Str) (gs:List Gr) (L:List En):frz fz h (n+1) (msV names gs L)=msV names gs L:=rfl
theorem qt4 {fz:Nat→Bool} {h:List AObj} {n:Nat} (names:List Str) (gs:List Gr) (L:List En):rei fz h (n+1) (msV names gs L)=msV names gs L:=rfl
attribute [go_sem] qoH qmZ qoF qmX qte qt5 qtd qt4
end RC
end
section
open Go Go.Proofs AF HY LN
namespace AF
theorem qaP {P:Program} {f:FuncId} {cap:List AV} {xs:List (List AV)} (hf:qvi P f cap xs) {ps:List Nat} {b:Nat} {x y:C} {Q:Ex→Nx} {ts:List AV} {h:List AObj} (hps: ∀a∈xs,a.length=ps.length)
  (S:Nat→List AObj→Prop) (E:Ex→List AObj→Prop) (hS: ∀i hh,S i hh→LowI h hh) (hE: ∀s hh,E s hh→LowI h hh)
  (start:S 0 h) (hts: ∀c∈ts,jd (h.length+1) c=true)
  (body: ∀i hh tl L TS,(hi:i<xs.length)→S i hh→hh.length=h.length→ ∀(K:Nx) (K2:Ex→Nx),
   (∀t2 X hm,X=hm++ .lp .ready TS L::tl→hm.length=h.length→zc P b y K2 t2 (hm++ .lp .busy TS L::tl)→K t2 X)→
   (∀t3 X hh',X=hh'++ .lp .busy TS L::tl→hh'.length=h.length→S (i+1) hh'→K2 .normal t3 X)→
   (∀t3 X hh',X=hh'++ .lp .busy TS L::tl→hh'.length=h.length→E .ret hh'→K2 .ret t3 X)→
   (∀id t3 X hh',X=hh'++ .lp .busy TS L::tl→hh'.length=h.length→E (.exit id) hh'→K2 (.exit id) t3 X)→
   zc P b x (Ex.andThen K (fun _ _ _=>False)) (qcb ts ps (xs[i])) (hh++ .lp .ready TS L::tl))
  (done: ∀hh,S xs.length hh→Q .normal ts hh) (doneE: ∀e hh,E e hh→match e with
   | .normal=>False
   |e=>Q e ts hh):
  qe0 P (.fn (.func f) [] cap) ps (zc P b x) (zc P b y) Q ts h:=by
 intro L hy
 show jP _ _ _ _ _
 have key:=hf h ts L S (fun s hh=>match s with
  | .ret=>E .ret hh
  | .exit id=>E (.exit id) hh
  |_=>False) hS
  (by
   intro s hh hs
   cases s with
   |ret=>exact hE _ _ hs
   |exit id=>exact hE _ _ hs
   |ready=>exact hs.elim
   |busy=>exact hs.elim)
  (by
   intro i hh tl hi i4
   have hlen:=(hS _ _ i4).1
   refine hy h.length ts _ _ _ (kq hlen) (hps _ (List.getElem_mem hi)) ?_
   refine qau (Q:=Ex.andThen (fun t2 h2=> ∃hm,hm.length=h.length∧h2=hm++ .lp .ready ts L::tl∧
    zc P b y (fun e t3 h3=> ∃hh',h3=hh'++ .lp .busy ts L::tl∧hh'.length=h.length∧match e with
     | .normal=>S (i+1) hh'
     | .ret=>E .ret hh'
     | .exit id=>E (.exit id) hh') t2 (hm++ .lp .busy ts L::tl)) (fun _ _ _=>False)) ?_
    (body i hh tl L ts hi i4 hlen _ _ (fun t2 X hm e1 e2 e3=>⟨hm,e2,e1,e3⟩) (fun t3 X hh' e1 e2 e3=>⟨hh',e1,e2,e3⟩) (fun t3 X hh' e1 e2 e3=>⟨hh',e1,e2,e3⟩) (fun id t3 X hh' e1 e2 e3=>⟨hh',e1,e2,e3⟩))
   intro e t2 h2 hq
   cases e with
   |ret=>exact hq.elim
   |exit id=>exact hq.elim
   |normal=>
    obtain ⟨hm,hml,rfl,h3⟩:=hq
    refine ⟨rfl,⟨ts,kq hml⟩,fun ts' hts'=> ?_⟩
    rw [kq hml]at hts'
    cases hts'
    rw [qb2 hml]
    refine qau ?_ h3
    rintro e t3 h3' ⟨hh',rfl,g1,g2⟩
    refine ⟨ts,kq g1,?_⟩
    cases e with
    |normal=>exact ⟨hh',.inl ⟨rfl,g2,qb2 g1⟩⟩
    |ret=>exact ⟨hh',.inr ⟨.ret,rfl,g2,qb2 g1⟩⟩
    |exit id=>exact ⟨hh',.inr ⟨.exit id,rfl,g2,qb2 g1⟩⟩)
  start hts
 refine key.le (qbq.refl _) ?_
 rintro v h' ⟨hh,⟨g1,rfl⟩|⟨s,g1,rfl⟩⟩
 ·have hl:=hS _ _ g1
  exact ⟨v,ql,hh,.ready,ts,L,rfl,hl.1,fun o ho=>(hl.2 o ho).imp (fun h=>h) And.left,done hh g1⟩
 ·cases s with
  |ready=>exact g1.elim
  |busy=>exact g1.elim
  |ret=>
   have hl:=hE _ _ g1
   exact ⟨v,ql,hh,.ret,ts,L,rfl,hl.1,fun o ho=>(hl.2 o ho).imp (fun h=>h) And.left,doneE _ _ g1⟩
  |exit id=>
   have hl:=hE _ _ g1
   exact ⟨v,ql,hh,.exit id,ts,L,rfl,hl.1,fun o ho=>(hl.2 o ho).imp (fun h=>h) And.left,doneE _ _ g1⟩
end AF
namespace RC
theorem qdO (n:Nat) (L:List Str):jd n (strs L)=true:=rfl
end RC
end
section
open Go Go.Proofs AF HY LN
namespace AF
theorem Wk.ownNil {t:List AV} {h:List AObj} {j v i k ve sz:Nat} {ty:TypeId} {cs:List AV} (hj:getO j h=some (.mem v ty cs)) (hi:cs[i]? =some .nl) (hk:getO k h=some (.emp ve)):
  Wk t h t (setO j h (.mem v ty (cs.set i (.osl k ve sz 0 0)))):=by
 intro N w σ a H
 have hjl:j<σ.length:=by rw [H.hr.len];exact kk hj
 have hkl:k<σ.length:=by rw [H.hr.len];exact kk hk
 have ho:=zf hjl
 have hok:=zf hkl
 obtain ⟨e1,e2⟩:=H.hr.obj k _ _ hk hok
 obtain ⟨m1,m2,b,arr,m3,m4,m5,m6,m7,m8⟩:=H.hr.obj j _ _ hj ho
 have q:=H.hr.recell (cs':=cs.set i (.osl k ve sz 0 0)) hj ho m3 m4 m5 (by simpa using m6) (fun n x hn hx=>m7 n x (by simpa using hn) hx) (fun n c x hn hx=>by
  rw [List.getElem?_set]at hn
  split at hn
  ·rename_i e
   subst e
   split at hn
   ·cases hn
    have hv:=m8 i _ x hi hx
    cases hv with
    |imm hv=>
     cases hv
     exact .osl _ hok ⟨none,0,0,rfl⟩ (Nat.le_of_eq e1.symm) (fun _=> .inl ⟨e2,rfl,rfl,rfl⟩)
   ·cases hn
  ·exact m8 n c x hn hx)
 exact ⟨σ,⟨q,H.sz,H.tm,H.df⟩,Ext.refl _ _⟩
end AF
namespace RC
structure qCr (t:List Str) (L:List En):Prop where
 rg: ∀i,i<L.length→0≤(L.getD i default).frm∧(L.getD i default).frm≤(L.getD i default).to∧(L.getD i default).to≤t.length
 nx: ∀i,i+1<L.length→(L.getD i default).to≤(L.getD (i+1) default).frm
theorem qtC {names:List Str} {gs:List Gr} {l:List En} {src:Int} {e:En} (h:e∈ofE names gs l src):e∈l:=(qfd l).subset (List.mem_filter.1 h).1
theorem qa6 {L:List En} {i:Nat} (hi:i<L.length):L.getD i default∈L:=by
 rw [gdqA,zf hi]
 exact List.getElem_mem hi
theorem qvj.tx {names:List Str} {gs:List Gr} {t:List Str} {l:List En} (h:qvj names gs t l) {s:Nat} (hs:s<names.length):qCr t (ofE names gs l (s:Int)):=
 ⟨fun i hi=>(qfE.1 (h.ck _ (qtC (qa6 hi)))).rng,fun i hi=>qod (qaG h.cl hs) hi⟩
end RC
end
section
open Go Go.Proofs AF HY LN
namespace RC
def quq (L:List (List Str)):AV:= .sl L.length fun i=> [strs (L.getD i [])]
theorem qhX (L:List (List Str)):(quq L).flag=true:=rfl
theorem qgh (L:List (List Str)):(quq L).strip=quq L:=rfl
attribute [go_sem] qhX qgh
theorem jL (L:List Str):(jj L).length=L.length:=by simp [jj]
theorem qco (L M:List Str):jj (L++M)=jj L++jj M:=by simp [jj]
theorem qqb {L:List Str}:jj L= []↔L= []:=by simp [jj]
theorem qqd {L:List Str} {n:Nat} (g:AV→AV) (hg: ∀s,g (.str s)= .str s) (hn:n=L.length):VLe (.sl n fun i=>(((jj L).drop i).take 1).map g) (strs L):=by
 subst hn
 refine VLe.sl_eq rfl (fun i hi=> ?_)
 unfold jj
 rw [←List.map_drop,List.drop_eq_getElem_cons hi,List.map_cons,List.take_succ_cons,List.take_zero,List.map_cons,List.map_nil,hg,gdqA,zf hi]
 rfl
theorem qoM {α β:Type} (f:α→β) (L:List α):L.flatMap (fun i=> [f i])=L.map f:=by
 induction L with
 |nil=>rfl
 |cons a L ih=>rw [List.flatMap_cons,ih];rfl
theorem qmO (h:List AObj) {t:List Str} {a b:Nat} (h1:a≤b) (h2:b≤t.length):qw h (.sl (b-a) fun i=> [.str (t.getD (a+i) [])])=some (b-a,jj (qaW t a b)):=by
 show some (b-a,(List.range (b-a)).flatMap fun i=> [AV.str (t.getD (a+i) [])])=_
 rw [qoM (fun i=>AV.str (t.getD (a+i) []))]
 congr 2
 unfold jj qaW
 apply List.ext_getElem
 ·simp;omega
 ·intro i g1 g2
  have hi:i<b-a:=by simpa using g1
  have hl:a+i<t.length:=by omega
  simp [gdqA,hl]
theorem qqa (h:List AObj) (t:List Str):qw h (strs t)=some (t.length,jj t):=by
 have:=qmO h (t:=t) (a:=0) (b:=t.length) (Nat.zero_le _) (Nat.le_refl _)
 simp only [Nat.sub_zero,Nat.zero_add]at this
 have e:qaW t 0 t.length=t:=by simp [qaW]
 rw [e]at this
 exact this
def gwB (ws:List Str) (n:Nat):Bool:=zd (fun i=>decide (20<(ws.getD i []).length)) ws.length||decide (n<ws.length)
theorem jp {p:Nat→Bool} {i:Nat} (h: ∀j,j<i→p j=false) (hp:p i=false): ∀j,j<i+1→p j=false:=by
 intro j hj
 by_cases e:j=i
 ·subst e;exact hp
 ·exact h j (by omega)
theorem gwP (ws:List Str) (n:Nat) (h:List AObj) (hn:ws.length≤9223372036854775807):ACalls Tryz.prog 70 [strs ws,.int .i64 n] h (.bool (gwB ws n)) h:=by
 obtain ⟨R,hR⟩: ∃R,R=gwB ws n:=⟨_,rfl⟩
 rw [←hR]
 unfold gwB at hR
 refine acO qAR ?_
 simp (disch:=omega) only [qBX,strs,go_sem]
 repeat' first
  |((first|apply qd|apply qb);exact rvk;simp only [go_sem];first|exact ql|apply qe|apply qa|apply qf|skip)
  |with_reducible first|intro _|apply aiA
 all_goals try exact clz
 refine qu (T:=fun i:Nat=>qT 22 [(0,strs ws),(1,.int .i64 n),(5,.int .i64 i)]) (H:=fun _=>h) (inv:=fun i=>i≤ws.length∧ ∀j,j<i→(fun i=>decide (20<(ws.getD i []).length)) j=false) (m:=fun i=>ws.length-i) 0 ⟨Nat.zero_le _,fun j hj=>by omega⟩ (Wk.temps ?_) ?_
 ·(simp only [strs,go_sem,qk,qh,qg,qj];try (repeat' first|(with_reducible apply aiA)|(apply qe;omega)|(apply qa;rfl)|exact ql))
 rintro i ⟨i1,i2⟩ K hK
 by_cases hi:i<ws.length
 ·have k1:((i:Int)<ws.length)=True:=eq_true (by omega)
  by_cases g:20<(ws.getD i []).length
  ·have hV:R=true:=by rw [hR,qG.2 ⟨i,hi,decide_eq_true g⟩];rfl
   obtain ⟨s,hs⟩: ∃s,s=ws.getD i []:=⟨_,rfl⟩
   have es:=hs.symm
   rw [es]at g
   have k2:((20:Int)<s.length)=True:=eq_true (by omega)
   rw [hV]
   simp (disch:=omega) only [strs,k1,k2,es,go_sem]
   repeat' first
    |((first|apply qd|apply qb);exact rvk;simp only [go_sem];first|exact ql|apply qe|apply qa|apply qf|skip)
    |with_reducible first|intro _|apply aiA
   all_goals try exact clz
  ·have i3:=jp i2 (decide_eq_false g)
   obtain ⟨s,hs⟩: ∃s,s=ws.getD i []:=⟨_,rfl⟩
   have es:=hs.symm
   rw [es]at g
   have k2:((20:Int)<s.length)=False:=eq_false (by omega)
   simp (disch:=omega) only [strs,k1,k2,es,go_sem]
   repeat' first
    |((first|apply qd|apply qb);exact rvk;simp only [go_sem];first|exact ql|apply qe|apply qa|apply qf|skip)
    |with_reducible first|intro _|apply aiA
   all_goals try exact clz
   refine hK _ _ (i+1) ⟨hi,i3⟩ (by omega) (Wk.temps ?_)
   (simp only [strs,go_sem,qk,qh,qg,qj];try (repeat' first|(with_reducible apply aiA)|(apply qe;omega)|(apply qa;rfl)|exact ql))
 ·have k1:((i:Int)<ws.length)=False:=eq_false (by omega)
  rw [qo.2 (fun j hj=>i2 j (by omega)),Bool.false_or]at hR
  have e:decide ((n:Int)<ws.length)=R:=by rw [hR];exact decide_eq_decide.2 (by omega)
  simp (disch:=omega) only [strs,k1,go_sem]
  repeat' first
   |((first|apply qd|apply qb);exact rvk;simp only [go_sem];first|exact ql|apply qe|apply qa|apply qf|skip)
   |with_reducible first|intro _|apply aiA
  all_goals try exact clz
def grB (g:Gr):Bool:=decide (20<g.name.length)||decide (40<g.mem.length)
def qle (names:List Str) (gs:List Gr):Bool:=
 zd (fun i=>decide (20<(names.getD i []).length)) names.length||(zd (fun i=>grB (gs.getD i default)) gs.length||
  (((decide (8<names.length)&&decide (names.length≤32))||decide (34<names.length))||(decide (5<gs.length)&&decide (gs.length≤16))||decide (18<gs.length)))
theorem qCV (names:List Str) (gs:List Gr) (h:List AObj) (hn:names.length≤9223372036854775807) (hg:gs.length≤9223372036854775807):ACalls Tryz.prog 69 [strs names,qF gs] h (.bool (qle names gs)) h:=by
 obtain ⟨R,hR⟩: ∃R,R=qle names gs:=⟨_,rfl⟩
 rw [←hR]
 unfold qle at hR
 refine acO qAQ ?_
 simp (disch:=omega) only [qBW,strs,qF,go_sem]
 repeat' first
  |((first|apply qd|apply qb);exact rvk;simp only [go_sem];first|exact ql|apply qe|apply qa|apply qf|skip)
  |with_reducible first|intro _|apply aiA
 all_goals try exact clz
 refine qu (T:=fun i:Nat=>qT 69 [(0,strs names),(1,qF gs),(5,.int .i64 i)]) (H:=fun _=>h) (inv:=fun i=>i≤names.length∧ ∀j,j<i→(fun i=>decide (20<(names.getD i []).length)) j=false) (m:=fun i=>names.length-i) 0 ⟨Nat.zero_le _,fun j hj=>by omega⟩ (Wk.temps ?_) ?_
 ·(simp only [strs,qF,go_sem,qk,qh,qg,qj];try (repeat' first|(with_reducible apply aiA)|(apply qe;omega)|(apply qa;rfl)|exact ql))
 rintro i ⟨i1,i2⟩ K hK
 by_cases hi:i<names.length
 ·have k1:((i:Int)<names.length)=True:=eq_true (by omega)
  by_cases g:20<(names.getD i []).length
  ·have hV:R=true:=by rw [hR,qG.2 ⟨i,hi,decide_eq_true g⟩];rfl
   obtain ⟨s,hs⟩: ∃s,s=names.getD i []:=⟨_,rfl⟩
   have es:=hs.symm
   rw [es]at g
   have k2:((20:Int)<s.length)=True:=eq_true (by omega)
   rw [hV]
   simp (disch:=omega) only [strs,qF,k1,k2,es,go_sem]
   repeat' first
    |((first|apply qd|apply qb);exact rvk;simp only [go_sem];first|exact ql|apply qe|apply qa|apply qf|skip)
    |with_reducible first|intro _|apply aiA
   all_goals try exact clz
  ·have i3:=jp i2 (decide_eq_false g)
   obtain ⟨s,hs⟩: ∃s,s=names.getD i []:=⟨_,rfl⟩
   have es:=hs.symm
   rw [es]at g
   have k2:((20:Int)<s.length)=False:=eq_false (by omega)
   simp (disch:=omega) only [strs,qF,k1,k2,es,go_sem]
   repeat' first
    |((first|apply qd|apply qb);exact rvk;simp only [go_sem];first|exact ql|apply qe|apply qa|apply qf|skip)
    |with_reducible first|intro _|apply aiA
   all_goals try exact clz
   refine hK _ _ (i+1) ⟨hi,i3⟩ (by omega) (Wk.temps ?_)
   (simp only [strs,qF,go_sem,qk,qh,qg,qj];try (repeat' first|(with_reducible apply aiA)|(apply qe;omega)|(apply qa;rfl)|exact ql))
 have k1:((i:Int)<names.length)=False:=eq_false (by omega)
 rw [qo.2 (fun j hj=>i2 j (by omega)),Bool.false_or]at hR
 simp (disch:=omega) only [strs,qF,k1,go_sem]
 repeat' first
  |((first|apply qd|apply qb);exact rvk;simp only [go_sem];first|exact ql|apply qe|apply qa|apply qf|skip)
  |with_reducible first|intro _|apply aiA
 all_goals try exact clz
 refine qu (T:=fun i:Nat=>qT 69 [(0,strs names),(1,qF gs),(6,.int .i64 i)]) (H:=fun _=>h) (inv:=fun i=>i≤gs.length∧ ∀j,j<i→(fun i=>grB (gs.getD i default)) j=false) (m:=fun i=>gs.length-i) 0 ⟨Nat.zero_le _,fun j hj=>by omega⟩ (Wk.temps ?_) ?_
 ·(simp only [strs,qF,go_sem,qk,qh,qg,qj];try (repeat' first|(with_reducible apply aiA)|(apply qe;omega)|(apply qa;rfl)|exact ql))
 clear hK K
 rintro i ⟨i1,i2⟩ K hK
 by_cases hi:i<gs.length
 ·have k1:((i:Int)<gs.length)=True:=eq_true (by omega)
  have hit:grB (gs.getD i default)=true→R=true:=fun hc=>by rw [hR,qG.2 ⟨i,hi,hc⟩];rfl
  have i3:=fun hc=>jp (p:=fun i=>grB (gs.getD i default)) i2 hc
  obtain ⟨g,hg⟩: ∃g,g=gs.getD i default:=⟨_,rfl⟩
  have eg:=hg.symm
  simp only [eg]at hit i3
  have hB:grB g=(decide (20<g.name.length)||decide (40<g.mem.length)):=rfl
  by_cases g1:20<g.name.length
  ·have k2:((20:Int)<g.name.length)=True:=eq_true (by omega)
   rw [hit (by rw [hB,decide_eq_true g1];rfl)]
   simp (disch:=omega) only [strs,qF,grC,k1,k2,eg,go_sem]
   repeat' first
    |((first|apply qd|apply qb);exact rvk;simp only [go_sem];first|exact ql|apply qe|apply qa|apply qf|skip)
    |with_reducible first|intro _|apply aiA
   all_goals try exact clz
  ·have k2:((20:Int)<g.name.length)=False:=eq_false (by omega)
   by_cases g2:40<g.mem.length
   ·have k3:((40:Int)<g.mem.length)=True:=eq_true (by omega)
    rw [hit (by rw [hB,decide_eq_true g2,Bool.or_true])]
    simp (disch:=omega) only [strs,qF,grC,qq,k1,k2,k3,eg,go_sem]
    repeat' first
     |((first|apply qd|apply qb);exact rvk;simp only [go_sem];first|exact ql|apply qe|apply qa|apply qf|skip)
     |with_reducible first|intro _|apply aiA
    all_goals try exact clz
   ·have k3:((40:Int)<g.mem.length)=False:=eq_false (by omega)
    simp (disch:=omega) only [strs,qF,grC,qq,k1,k2,k3,eg,go_sem]
    repeat' first
     |((first|apply qd|apply qb);exact rvk;simp only [go_sem];first|exact ql|apply qe|apply qa|apply qf|skip)
     |with_reducible first|intro _|apply aiA
    all_goals try exact clz
    refine hK _ _ (i+1) ⟨hi,i3 (by rw [hB,decide_eq_false g1,decide_eq_false g2];rfl)⟩ (by omega) (Wk.temps ?_)
    (simp only [strs,qF,go_sem,qk,qh,qg,qj];try (repeat' first|(with_reducible apply aiA)|(apply qe;omega)|(apply qa;rfl)|exact ql))
 have k2:((i:Int)<gs.length)=False:=eq_false (by omega)
 rw [qo.2 (fun j hj=>i2 j (by omega)),Bool.false_or]at hR
 have n1:((8:Int)<names.length)=(8<names.length):=propext (by omega)
 have n2:((names.length:Int)≤32)=(names.length≤32):=propext (by omega)
 have n3:((34:Int)<names.length)=(34<names.length):=propext (by omega)
 have n4:((5:Int)<gs.length)=(5<gs.length):=propext (by omega)
 have n5:((gs.length:Int)≤16)=(gs.length≤16):=propext (by omega)
 have n6:((18:Int)<gs.length)=(18<gs.length):=propext (by omega)
 obtain ⟨q1,h1⟩: ∃q,q=decide (8<names.length):=⟨_,rfl⟩
 obtain ⟨q2,h2⟩: ∃q,q=decide (names.length≤32):=⟨_,rfl⟩
 obtain ⟨q3,h3⟩: ∃q,q=decide (34<names.length):=⟨_,rfl⟩
 obtain ⟨q4,h4⟩: ∃q,q=decide (5<gs.length):=⟨_,rfl⟩
 obtain ⟨q5,h5⟩: ∃q,q=decide (gs.length≤16):=⟨_,rfl⟩
 obtain ⟨q6,h6⟩: ∃q,q=decide (18<gs.length):=⟨_,rfl⟩
 have e1:=h1.symm
 have e2:=h2.symm
 have e3:=h3.symm
 have e4:=h4.symm
 have e5:=h5.symm
 have e6:=h6.symm
 rw [e1,e2,e3,e4,e5,e6]at hR
 have b1:(q1=true∧q2=true)∨(q1=false∧q2=true)∨(q1=true∧q2=false)∨(q1=false∧q2=false):=by cases q1<;>cases q2<;>simp
 have b4:(q4=true∧q5=true)∨(q4=false∧q5=true)∨(q4=true∧q5=false)∨(q4=false∧q5=false):=by cases q4<;>cases q5<;>simp
 clear h1 h2 h3 h4 h5 h6
 rcases b1 with ⟨rfl,rfl⟩|⟨rfl,rfl⟩|⟨rfl,rfl⟩|⟨rfl,rfl⟩
 ·skip
  simp only [Bool.true_and,Bool.false_and,Bool.true_or,Bool.false_or]at hR
  rw [hR]
  simp (disch:=omega) only [strs,qF,k2,n1,n2,n3,n4,n5,n6,e1,e2,e3,e4,e5,e6,go_sem]
  repeat' first
   |((first|apply qd|apply qb);exact rvk;simp only [go_sem];first|exact ql|apply qe|apply qa|apply qf|skip)
   |with_reducible first|intro _|apply aiA
  all_goals try exact clz
 ·skip
  cases q3 with
  |true=>
   simp only [Bool.true_and,Bool.false_and,Bool.true_or,Bool.false_or]at hR
   rw [hR]
   simp (disch:=omega) only [strs,qF,k2,n1,n2,n3,n4,n5,n6,e1,e2,e3,e4,e5,e6,go_sem]
   repeat' first
    |((first|apply qd|apply qb);exact rvk;simp only [go_sem];first|exact ql|apply qe|apply qa|apply qf|skip)
    |with_reducible first|intro _|apply aiA
   all_goals try exact clz
  |false=>
   rcases b4 with ⟨rfl,rfl⟩|⟨rfl,rfl⟩|⟨rfl,rfl⟩|⟨rfl,rfl⟩
   ·skip
    simp only [Bool.true_and,Bool.false_and,Bool.true_or,Bool.false_or]at hR
    rw [hR]
    simp (disch:=omega) only [strs,qF,k2,n1,n2,n3,n4,n5,n6,e1,e2,e3,e4,e5,e6,go_sem]
    repeat' first
     |((first|apply qd|apply qb);exact rvk;simp only [go_sem];first|exact ql|apply qe|apply qa|apply qf|skip)
     |with_reducible first|intro _|apply aiA
    all_goals try exact clz
   ·skip
    cases q6 with
    |true=>
     simp only [Bool.true_and,Bool.false_and,Bool.true_or,Bool.false_or]at hR
     rw [hR]
     simp (disch:=omega) only [strs,qF,k2,n1,n2,n3,n4,n5,n6,e1,e2,e3,e4,e5,e6,go_sem]
     repeat' first
      |((first|apply qd|apply qb);exact rvk;simp only [go_sem];first|exact ql|apply qe|apply qa|apply qf|skip)
      |with_reducible first|intro _|apply aiA
     all_goals try exact clz
    |false=>
     simp only [Bool.true_and,Bool.false_and,Bool.true_or,Bool.false_or]at hR
     rw [hR]
     simp (disch:=omega) only [strs,qF,k2,n1,n2,n3,n4,n5,n6,e1,e2,e3,e4,e5,e6,go_sem]
     repeat' first
      |((first|apply qd|apply qb);exact rvk;simp only [go_sem];first|exact ql|apply qe|apply qa|apply qf|skip)
      |with_reducible first|intro _|apply aiA
     all_goals try exact clz
   ·skip
    cases q6 with
    |true=>
     simp only [Bool.true_and,Bool.false_and,Bool.true_or,Bool.false_or]at hR
     rw [hR]
     simp (disch:=omega) only [strs,qF,k2,n1,n2,n3,n4,n5,n6,e1,e2,e3,e4,e5,e6,go_sem]
     repeat' first
      |((first|apply qd|apply qb);exact rvk;simp only [go_sem];first|exact ql|apply qe|apply qa|apply qf|skip)
      |with_reducible first|intro _|apply aiA
     all_goals try exact clz
    |false=>
     simp only [Bool.true_and,Bool.false_and,Bool.true_or,Bool.false_or]at hR
     rw [hR]
     simp (disch:=omega) only [strs,qF,k2,n1,n2,n3,n4,n5,n6,e1,e2,e3,e4,e5,e6,go_sem]
     repeat' first
      |((first|apply qd|apply qb);exact rvk;simp only [go_sem];first|exact ql|apply qe|apply qa|apply qf|skip)
      |with_reducible first|intro _|apply aiA
     all_goals try exact clz
   ·skip
    cases q6 with
    |true=>
     simp only [Bool.true_and,Bool.false_and,Bool.true_or,Bool.false_or]at hR
     rw [hR]
     simp (disch:=omega) only [strs,qF,k2,n1,n2,n3,n4,n5,n6,e1,e2,e3,e4,e5,e6,go_sem]
     repeat' first
      |((first|apply qd|apply qb);exact rvk;simp only [go_sem];first|exact ql|apply qe|apply qa|apply qf|skip)
      |with_reducible first|intro _|apply aiA
     all_goals try exact clz
    |false=>
     simp only [Bool.true_and,Bool.false_and,Bool.true_or,Bool.false_or]at hR
     rw [hR]
     simp (disch:=omega) only [strs,qF,k2,n1,n2,n3,n4,n5,n6,e1,e2,e3,e4,e5,e6,go_sem]
     repeat' first
      |((first|apply qd|apply qb);exact rvk;simp only [go_sem];first|exact ql|apply qe|apply qa|apply qf|skip)
      |with_reducible first|intro _|apply aiA
     all_goals try exact clz
 ·skip
  cases q3 with
  |true=>
   simp only [Bool.true_and,Bool.false_and,Bool.true_or,Bool.false_or]at hR
   rw [hR]
   simp (disch:=omega) only [strs,qF,k2,n1,n2,n3,n4,n5,n6,e1,e2,e3,e4,e5,e6,go_sem]
   repeat' first
    |((first|apply qd|apply qb);exact rvk;simp only [go_sem];first|exact ql|apply qe|apply qa|apply qf|skip)
    |with_reducible first|intro _|apply aiA
   all_goals try exact clz
  |false=>
   rcases b4 with ⟨rfl,rfl⟩|⟨rfl,rfl⟩|⟨rfl,rfl⟩|⟨rfl,rfl⟩
   ·skip
    simp only [Bool.true_and,Bool.false_and,Bool.true_or,Bool.false_or]at hR
    rw [hR]
    simp (disch:=omega) only [strs,qF,k2,n1,n2,n3,n4,n5,n6,e1,e2,e3,e4,e5,e6,go_sem]
    repeat' first
     |((first|apply qd|apply qb);exact rvk;simp only [go_sem];first|exact ql|apply qe|apply qa|apply qf|skip)
     |with_reducible first|intro _|apply aiA
    all_goals try exact clz
   ·skip
    cases q6 with
    |true=>
     simp only [Bool.true_and,Bool.false_and,Bool.true_or,Bool.false_or]at hR
     rw [hR]
     simp (disch:=omega) only [strs,qF,k2,n1,n2,n3,n4,n5,n6,e1,e2,e3,e4,e5,e6,go_sem]
     repeat' first
      |((first|apply qd|apply qb);exact rvk;simp only [go_sem];first|exact ql|apply qe|apply qa|apply qf|skip)
      |with_reducible first|intro _|apply aiA
     all_goals try exact clz
    |false=>
     simp only [Bool.true_and,Bool.false_and,Bool.true_or,Bool.false_or]at hR
     rw [hR]
     simp (disch:=omega) only [strs,qF,k2,n1,n2,n3,n4,n5,n6,e1,e2,e3,e4,e5,e6,go_sem]
     repeat' first
      |((first|apply qd|apply qb);exact rvk;simp only [go_sem];first|exact ql|apply qe|apply qa|apply qf|skip)
      |with_reducible first|intro _|apply aiA
     all_goals try exact clz
   ·skip
    cases q6 with
    |true=>
     simp only [Bool.true_and,Bool.false_and,Bool.true_or,Bool.false_or]at hR
     rw [hR]
     simp (disch:=omega) only [strs,qF,k2,n1,n2,n3,n4,n5,n6,e1,e2,e3,e4,e5,e6,go_sem]
     repeat' first
      |((first|apply qd|apply qb);exact rvk;simp only [go_sem];first|exact ql|apply qe|apply qa|apply qf|skip)
      |with_reducible first|intro _|apply aiA
     all_goals try exact clz
    |false=>
     simp only [Bool.true_and,Bool.false_and,Bool.true_or,Bool.false_or]at hR
     rw [hR]
     simp (disch:=omega) only [strs,qF,k2,n1,n2,n3,n4,n5,n6,e1,e2,e3,e4,e5,e6,go_sem]
     repeat' first
      |((first|apply qd|apply qb);exact rvk;simp only [go_sem];first|exact ql|apply qe|apply qa|apply qf|skip)
      |with_reducible first|intro _|apply aiA
     all_goals try exact clz
   ·skip
    cases q6 with
    |true=>
     simp only [Bool.true_and,Bool.false_and,Bool.true_or,Bool.false_or]at hR
     rw [hR]
     simp (disch:=omega) only [strs,qF,k2,n1,n2,n3,n4,n5,n6,e1,e2,e3,e4,e5,e6,go_sem]
     repeat' first
      |((first|apply qd|apply qb);exact rvk;simp only [go_sem];first|exact ql|apply qe|apply qa|apply qf|skip)
      |with_reducible first|intro _|apply aiA
     all_goals try exact clz
    |false=>
     simp only [Bool.true_and,Bool.false_and,Bool.true_or,Bool.false_or]at hR
     rw [hR]
     simp (disch:=omega) only [strs,qF,k2,n1,n2,n3,n4,n5,n6,e1,e2,e3,e4,e5,e6,go_sem]
     repeat' first
      |((first|apply qd|apply qb);exact rvk;simp only [go_sem];first|exact ql|apply qe|apply qa|apply qf|skip)
      |with_reducible first|intro _|apply aiA
     all_goals try exact clz
 ·skip
  cases q3 with
  |true=>
   simp only [Bool.true_and,Bool.false_and,Bool.true_or,Bool.false_or]at hR
   rw [hR]
   simp (disch:=omega) only [strs,qF,k2,n1,n2,n3,n4,n5,n6,e1,e2,e3,e4,e5,e6,go_sem]
   repeat' first
    |((first|apply qd|apply qb);exact rvk;simp only [go_sem];first|exact ql|apply qe|apply qa|apply qf|skip)
    |with_reducible first|intro _|apply aiA
   all_goals try exact clz
  |false=>
   rcases b4 with ⟨rfl,rfl⟩|⟨rfl,rfl⟩|⟨rfl,rfl⟩|⟨rfl,rfl⟩
   ·skip
    simp only [Bool.true_and,Bool.false_and,Bool.true_or,Bool.false_or]at hR
    rw [hR]
    simp (disch:=omega) only [strs,qF,k2,n1,n2,n3,n4,n5,n6,e1,e2,e3,e4,e5,e6,go_sem]
    repeat' first
     |((first|apply qd|apply qb);exact rvk;simp only [go_sem];first|exact ql|apply qe|apply qa|apply qf|skip)
     |with_reducible first|intro _|apply aiA
    all_goals try exact clz
   ·skip
    cases q6 with
    |true=>
     simp only [Bool.true_and,Bool.false_and,Bool.true_or,Bool.false_or]at hR
     rw [hR]
     simp (disch:=omega) only [strs,qF,k2,n1,n2,n3,n4,n5,n6,e1,e2,e3,e4,e5,e6,go_sem]
     repeat' first
      |((first|apply qd|apply qb);exact rvk;simp only [go_sem];first|exact ql|apply qe|apply qa|apply qf|skip)
      |with_reducible first|intro _|apply aiA
     all_goals try exact clz
    |false=>
     simp only [Bool.true_and,Bool.false_and,Bool.true_or,Bool.false_or]at hR
     rw [hR]
     simp (disch:=omega) only [strs,qF,k2,n1,n2,n3,n4,n5,n6,e1,e2,e3,e4,e5,e6,go_sem]
     repeat' first
      |((first|apply qd|apply qb);exact rvk;simp only [go_sem];first|exact ql|apply qe|apply qa|apply qf|skip)
      |with_reducible first|intro _|apply aiA
     all_goals try exact clz
   ·skip
    cases q6 with
    |true=>
     simp only [Bool.true_and,Bool.false_and,Bool.true_or,Bool.false_or]at hR
     rw [hR]
     simp (disch:=omega) only [strs,qF,k2,n1,n2,n3,n4,n5,n6,e1,e2,e3,e4,e5,e6,go_sem]
     repeat' first
      |((first|apply qd|apply qb);exact rvk;simp only [go_sem];first|exact ql|apply qe|apply qa|apply qf|skip)
      |with_reducible first|intro _|apply aiA
     all_goals try exact clz
    |false=>
     simp only [Bool.true_and,Bool.false_and,Bool.true_or,Bool.false_or]at hR
     rw [hR]
     simp (disch:=omega) only [strs,qF,k2,n1,n2,n3,n4,n5,n6,e1,e2,e3,e4,e5,e6,go_sem]
     repeat' first
      |((first|apply qd|apply qb);exact rvk;simp only [go_sem];first|exact ql|apply qe|apply qa|apply qf|skip)
      |with_reducible first|intro _|apply aiA
     all_goals try exact clz
   ·skip
    cases q6 with
    |true=>
     simp only [Bool.true_and,Bool.false_and,Bool.true_or,Bool.false_or]at hR
     rw [hR]
     simp (disch:=omega) only [strs,qF,k2,n1,n2,n3,n4,n5,n6,e1,e2,e3,e4,e5,e6,go_sem]
     repeat' first
      |((first|apply qd|apply qb);exact rvk;simp only [go_sem];first|exact ql|apply qe|apply qa|apply qf|skip)
      |with_reducible first|intro _|apply aiA
     all_goals try exact clz
    |false=>
     simp only [Bool.true_and,Bool.false_and,Bool.true_or,Bool.false_or]at hR
     rw [hR]
     simp (disch:=omega) only [strs,qF,k2,n1,n2,n3,n4,n5,n6,e1,e2,e3,e4,e5,e6,go_sem]
     repeat' first
      |((first|apply qd|apply qb);exact rvk;simp only [go_sem];first|exact ql|apply qe|apply qa|apply qf|skip)
      |with_reducible first|intro _|apply aiA
     all_goals try exact clz
theorem qlm {ws:List Str} {n:Nat} (h:gwB ws n=false):ws.length≤n∧ ∀i,(ws.getD i []).length≤20:=by
 unfold gwB at h
 rw [Bool.or_eq_false_iff,decide_eq_false_iff_not,qo]at h
 refine ⟨by omega,fun i=> ?_⟩
 by_cases hi:i<ws.length
 ·have:=of_decide_eq_false (h.1 i hi)
  omega
 ·rw [gdqA,List.getElem?_eq_none (by omega)]
  exact Nat.zero_le _
theorem qtg {names:List Str} {gs:List Gr} (h:qle names gs=false):names.length≤34∧gs.length≤18∧(∀i,(names.getD i []).length≤20)∧ ∀i,(gs.getD i default).name.length≤20∧(gs.getD i default).mem.length≤40:=by
 unfold qle at h
 simp only [Bool.or_eq_false_iff,decide_eq_false_iff_not,qo]at h
 obtain ⟨h1,h2,⟨⟨_,h3⟩,_⟩,h4⟩:=h
 refine ⟨by omega,by omega,fun i=> ?_,fun i=> ?_⟩
 ·by_cases hi:i<names.length
  ·have:=h1 i hi
   omega
  ·rw [gdqA,List.getElem?_eq_none (by omega)]
   exact Nat.zero_le _
 ·by_cases hi:i<gs.length
  ·have:=h2 i hi
   unfold grB at this
   simp only [Bool.or_eq_false_iff,decide_eq_false_iff_not]at this
   omega
  ·rw [gdqA,List.getElem?_eq_none (by omega)]
   exact ⟨Nat.zero_le _,Nat.zero_le _⟩
end RC
end
section
open Go Go.Proofs AF HY LN
namespace AF
theorem qay {v:Nat} {ty:TypeId} {cs:List AV} {n:Nat} (h: ∀c∈cs,jd n c=true):qae n (zM v ty cs):=by
 unfold zM
 split
 ·trivial
 ·exact h
end AF
namespace RC
theorem qiw (L:List Str):(strs L).solid=true:=rfl
theorem qhG (L:List Str):(strs L).cells= [strs L]:=rfl
theorem qft {k v z p n:Nat} (L:List Str):qcp (.osl k v z p n) (strs L)=true:=rfl
attribute [go_sem] qiw qhG qft
theorem qcn {v:Nat} {L:List Str} {g:AV→AV} {n:Nat} (hg: ∀s,g (.str s)= .str s) (hn:n=L.length):VLe (qef (some (zM v 9 (jj L))) v 1 0 n g) (strs L):=by
 subst hn
 by_cases h:L= []
 ·subst h
  show VLe (qef (some (.emp v)) v 1 0 0 g) _
  rw [slOf_emp,if_pos rfl]
  exact kZ
 ·have e0:zM v 9 (jj L)= .mem v 9 (jj L):=jB (fun e=>h (qqb.1 e))
  rw [e0,slOf_mem,if_pos ⟨rfl,by rw [jL];omega⟩]
  simp only [Nat.zero_add,Nat.mul_one]
  exact qqd g hg rfl
end RC
end
section
open Go Go.Proofs AF HY LN
namespace AF
theorem Wk.fzCell {t:List AV} {h:List AObj} {j k i v:Nat} {ty:TypeId} {cs:List AV} {c c':AV} (hj:getO j h=some (.mem v ty cs)) (hi:cs[i]? =some c) (hs:qP h k=true) (hne:j≠k) (hc:VLe (frz (fun b=> [k].contains b) h 8 c) c'):
  Wk t h t (setO j (setO k h (.emp (qx (getO k h)+1))) (.mem v ty (cs.set i c'))):=by
 intro N w σ a H
 have hs':kl [k] h=true:=by simp [kl,hs]
 obtain ⟨σ',g1,g2,g3,g4⟩:=qcJ [k] H.hr hs'
 have hn:j∉ [k]:=by simp [hne]
 have frzv: ∀c x,VR w σ c x→VR w σ' (frz (fun b=> [k].contains b) h 8 c) x:=fun c x hx=>
  qgU H.hr (fun b hb=>(g4 b hb).elim fun j ⟨o,h1,h2,h3⟩=>⟨j,o,by simpa using h1,h2,h3⟩) (fun j o hj ho=>g3 j o (by simpa using hj) ho) 8 hx
 have hjl:j<σ.length:=by rw [H.hr.len];exact kk hj
 have ho:=zf hjl
 obtain ⟨m1,m2,b,arr,m3,m4,m5,m6,m7,m8⟩:=H.hr.obj j _ _ hj ho
 have q:=g1.recell (cs':=cs.set i c') ((qo3 hn).trans hj) (g3 j _ hn ho) m3 m4 m5 (by simpa using m6) (fun n x hn hx=>m7 n x (by simpa using hn) hx) (fun n d x hd hx=>by
  rw [List.getElem?_set]at hd
  split at hd
  ·rename_i e
   subst e
   split at hd
   ·cases hd;exact hc _ _ _ (frzv _ x (m8 i _ x hi hx))
   ·cases hd
  ·exact (m8 n d x hd hx).ext g2)
 exact ⟨σ',⟨q,H.sz,fun n d x hd hx=>(H.tm n d x hd hx).ext g2,qaK g2 H.df⟩,g2⟩
theorem qcg {h:List AObj} {k ve sz off n:Nat}:frz (fun b=> [k].contains b) h 8 (.osl k ve sz off n)=qef (getO k h) ve sz off n (rei (fun b=> [k].contains b) h 7):=by
 rw [frz_osl,if_pos (by simp),rei_osl,if_pos (by simp)]
end AF
namespace RC
theorem qiu (L:List Gr):(qF L).solid=true:=rfl
theorem qhE (L:List Gr):(qF L).cells= [qF L]:=rfl
theorem qit (L:List En):(qaC L).solid=true:=rfl
theorem qhD (L:List En):(qaC L).cells= [qaC L]:=rfl
theorem qmH (names:List Str) (gs:List Gr) (e:En):(stV names gs e).solid=true:=rfl
theorem qks (names:List Str) (gs:List Gr) (e:En):(stV names gs e).cells= [stV names gs e]:=rfl
theorem qmF (names:List Str) (gs:List Gr) (L:List En):(msV names gs L).solid=true:=rfl
theorem qkq (names:List Str) (gs:List Gr) (L:List En):(msV names gs L).cells= [msV names gs L]:=rfl
theorem qf3 (L:List Int):(qq L).solid=true:=rfl
theorem qfA (L:List Int):(qq L).cells= [qq L]:=rfl
attribute [go_sem] qiu qhE qit qhD qmH qks qmF qkq qf3 qfA
theorem qpZ {v n:Nat} {ty:TypeId} {L:List En} {fz:Nat→Bool} {h:List AObj} {d:Nat} (hn:n=L.length):VLe (qef (some (.mem v ty (qbo L))) v 6 0 n (rei fz h (d+1))) (qaC L):=by
 subst hn
 rw [slOf_mem,if_pos ⟨rfl,by rw [qgG];omega⟩]
 refine VLe.sl_eq rfl (fun i hi=> ?_)
 simp only [Nat.zero_add]
 rw [qov hi]
 rfl
end RC
end
section
open Go Go.Proofs AF HY LN
namespace RC
section
variable (names : List Str) (gs : List Gr) (t : List Str) (l : List En) (src : Int) (h : List AObj)
theorem qaz {v n:Nat} {L:List Int} {g:AV→AV} (hg: ∀s,g (.int .i64 s)= .int .i64 s) (hn:n=L.length):VLe (qef (some (zM v 3 (qH L))) v 1 0 n g) (qq L):=by
 subst hn
 by_cases h:L= []
 ·subst h
  show VLe (qef (some (.emp v)) v 1 0 0 g) _
  rw [slOf_emp,if_pos rfl]
  exact kZ
 ·have e0:zM v 3 (qH L)= .mem v 3 (qH L):=jB (fun e=>h (qeL.1 e))
  rw [e0,slOf_mem,if_pos ⟨rfl,by rw [zq];omega⟩]
  simp only [Nat.zero_add,Nat.mul_one]
  exact qeM g hg rfl
end
section
variable (names : List Str) (gs : List Gr) (t : List Str) (l : List En) (src : Int) (h : List AObj)
end
end RC
end
section
open Go Go.Proofs AF HY LN
namespace RC
end RC
namespace RC
end RC
end
section
open Go Go.Proofs AF HY LN
namespace AF
structure qvk (E:AV) (n:Nat) (cs:List AV):Prop where
 fl:E.flag=true
 st:E.strip=E
 vl: ∀g,valL g .len [E]= .int .i64 n
 ok: ∀g,okL g .len [E]=True
 sc: ∀g,qw g E=some (n,cs)
 ap: ∀k v z p m,qcp (.osl k v z p m) E=true
theorem qvk.sl (n:Nat) (f:Nat→List AV):qvk (.sl n f) n ((List.range n).flatMap f):=⟨rfl,rfl,fun _=>rfl,fun _=>eq_true trivial,fun _=>rfl,fun _ _ _ _ _=>rfl⟩
theorem qCY {P:Program} {f:FuncId} {args:List AV} {h h':List AObj} {r:AV} (ks:List Nat) (hs:kl ks h=true) (hc:ACalls P f (args.map (frz (fun k=>ks.contains k) h 8)) (qc0 ks h) r h'):ACalls P f args h r h':=by
 refine ⟨hc.1,fun w σ xs H hv=> ?_⟩
 obtain ⟨σ',g1,g2,g3,g4⟩:=qcJ ks H hs
 refine (hc.2 w σ' xs g1 ⟨by rw [hv.1];simp,fun i c x hcc hx=> ?_⟩).mono ?_
 ·rw [List.getElem?_map,Option.map_eq_some_iff]at hcc
  obtain ⟨c0,hcc,rfl⟩:=hcc
  exact qgU H (fun b hb=>(g4 b hb).elim fun j ⟨o,h1,h2,h3⟩=>⟨j,o,by simpa using h1,h2,h3⟩) (fun j o hj ho=>g3 j o (by simpa using hj) ho) 8 (hv.2 i c0 x hcc hx)
 ·rintro e w' ⟨v,σ2,rfl,k1,k2,k3⟩
  exact ⟨v,σ2,rfl,k1,k2,g2.trans k3⟩
end AF
namespace RC
theorem qvk.strs (L:List Str):qvk (strs L) L.length (jj L):=⟨rfl,rfl,fun _=>rfl,fun _=>eq_true trivial,fun g=>qqa g L,fun _ _ _ _ _=>rfl⟩
theorem qvk.sub {t:List Str} {a b:Nat} (h1:a≤b) (h2:b≤t.length):qvk (.sl (b-a) fun i=> [.str (t.getD (a+i) [])]) (qaW t a b).length (jj (qaW t a b)):=by
 rw [qd6 h1 h2]
 exact ⟨rfl,rfl,fun _=>rfl,fun _=>eq_true trivial,fun g=>qmO g h1 h2,fun _ _ _ _ _=>rfl⟩
end RC
end
section
open Go Go.Proofs AF HY LN
namespace RC
def anN (a b:Nat):Nat:=a&&&(2^64-1-b)
theorem qqE (a b:Nat):anN a b≤a:=Nat.and_le_left
theorem qgv {a b:Nat} (ha:a<2^64) (hb:b<2^64):qfs .u64 (a:Int) (b:Int)=((anN a b:Nat):Int):=by
 have hab:=qqE a b
 unfold qfs
 rw [show IntKind.bits IntKind.u64=64 from rfl,ku,ku,BitVec.toNat_and,BitVec.toNat_not,BitVec.toNat_ofNat,BitVec.toNat_ofNat,Nat.mod_eq_of_lt ha,Nat.mod_eq_of_lt hb]
 exact qbm (Int.natCast_nonneg _) (by unfold anN at hab;omega)
theorem qdy {a b:Nat} (ha:a<2^64) (hb:b<2^64) (i:Nat):(anN a b).testBit i=(a.testBit i&& !b.testBit i):=by
 unfold anN
 rw [Nat.testBit_and,show 2^64-1-b=2^64-(b+1) by omega,Nat.testBit_two_pow_sub_succ hb]
 by_cases hi:i<64
 ·simp [hi]
 ·rw [Nat.testBit_lt_two_pow (Nat.lt_of_lt_of_le ha (Nat.pow_le_pow_right (by omega) (by omega)))]
  rfl
def qnD (n:Nat):Nat:=(jh n.testBit 64).length
theorem qCf (n:Nat) (h:List AObj) (hn:n<256):ACalls Tryz.prog 199 [.int .u64 (n:Int)] h (.int .i64 (qnD n)) h:=by
 refine acO qxH ?_
 simp (disch:=omega) only [qv6,go_sem]
 repeat' first
  |((first|apply qd|apply qb);exact rvk;simp only [go_sem];first|exact ql|apply qe|apply qa|apply qf|skip)
  |with_reducible first|intro _|apply aiA
 all_goals try exact clz
 clear h
 revert n
 decide+kernel
def qgc (names:List Str) (gs:List Gr) (set:List Int):Int:=if sgE names gs=0 then qd1 names.length set else 1
theorem qDp (names:List Str) (gs:List Gr) (set:List Int) (h:List AObj) (hz:Szs names gs) (hs:set.length≤1000000000):ACalls Tryz.prog 196 [strs names,qF gs,qq set] h (.int .i64 (qgc names gs set)) h:=by
 have c59:=fun h=>sgP names gs h hz
 have c92:=fun h=>qCh set names.length h hs
 have zl: ∀g,valL g .len [strs names]= .int .i64 names.length:=fun _=>rfl
 have zo: ∀g,okL g .len [strs names]=True:=fun _=>eq_true trivial
 unfold qgc
 by_cases g:sgE names gs=0
 ·rw [if_pos g]
  simp only [g]at c59
  refine acO qqZ ?_
  simp (disch:=omega) only [qr5,zl,zo,go_sem]
  repeat' first
   |((first|refine cA (c59 _) ?_ ?_|refine cG (fun e=>c59 _) ?_ ?_|refine cA (c92 _) ?_ ?_|refine cG (fun e=>c92 _) ?_ ?_|refine cU (fun _=>c59 _) ?_ ?_|refine cU (fun _=>c92 _) ?_ ?_);exact flk;simp (disch:=omega) only [zl,zo,go_sem])
   |((first|apply qd|apply qb);exact rvk;simp only [go_sem];first|exact ql|apply qe|apply qa|apply qf|skip)
   |with_reducible first|intro _|apply aiA
  all_goals try exact clz
 ·rw [if_neg g]
  have k:(sgE names gs=0)=False:=eq_false g
  refine acO qqZ ?_
  simp (disch:=omega) only [qr5,zl,zo,k,go_sem]
  repeat' first
   |((first|refine cA (c59 _) ?_ ?_|refine cG (fun e=>c59 _) ?_ ?_|refine cA (c92 _) ?_ ?_|refine cG (fun e=>c92 _) ?_ ?_|refine cU (fun _=>c59 _) ?_ ?_|refine cU (fun _=>c92 _) ?_ ?_);exact flk;simp (disch:=omega) only [zl,zo,k,go_sem])
   |((first|apply qd|apply qb);exact rvk;simp only [go_sem];first|exact ql|apply qe|apply qa|apply qf|skip)
   |with_reducible first|intro _|apply aiA
  all_goals try exact clz
theorem qlj {names:List Str} {gs:List Gr} (h:sgE names gs=0) (i:Nat):inB 64 (gs.getD i default).mem:=by
 have h:=qcQ h
 by_cases hi:i<gs.length
 ·intro j hj
  have:=(qas (qfP h hi)).1 j hj
  have:=h.n32
  omega
 ·rw [gdqA,List.getElem?_eq_none (by omega)]
  intro j hj
  exact absurd hj (by simp [show (default:Gr).mem= []from rfl])
def qi5 (gs:List Gr) (all:Nat) (i:Nat):Bool:=decide (anN (jv (gs.getD i default).mem) all=0)
def kW (gs:List Gr) (all:Nat):List Int:=jh (qi5 gs all) gs.length
theorem qDC (gs:List Gr) (all:Nat) (h:List AObj) (hg:gs.length≤1000000) (hm: ∀i,inB 64 (gs.getD i default).mem) (hl: ∀i,(gs.getD i default).mem.length≤1000000000) (ha:all<2^64):ACalls Tryz.prog 197 [qF gs,.int .u64 (all:Int)] h (qq (kW gs all)) h:=by
 unfold kW
 have zl: ∀g,valL g .len [qF gs]= .int .i64 gs.length:=fun _=>rfl
 have zo: ∀g,okL g .len [qF gs]=True:=fun _=>eq_true trivial
 refine acO qxF ?_
 simp (disch:=omega) only [qv4,zl,zo,go_sem]
 repeat' first
  |((first|apply qd|apply qb);exact rvk;simp only [go_sem];first|exact ql|apply qe|apply qa|apply qf|skip)
  |with_reducible first|intro _|apply aiA
 all_goals try exact clz
 refine qu (T:=fun i:Nat×Nat×AObj×AObj=>qT 27 [(1,.int .u64 (all:Int)),(5,.osl (h.length+1) i.2.1 1 0 (jh (qi5 gs all) i.1).length),(8,qF gs),(9,.int .i64 gs.length),(10,.int .i64 i.1)])
  (H:=fun i=>h++ [.emp 1,zM i.2.1 3 (qH (jh (qi5 gs all) i.1)),i.2.2.1,i.2.2.2,.emp 0])
  (inv:=fun i=>i.1≤gs.length∧qP [i.2.2.1] 0=true∧qP [i.2.2.2] 0=true) (m:=fun i=>gs.length-i.1) (0,1,.emp 0,.emp 0) ⟨Nat.zero_le _,rfl,rfl⟩ (Wk.temps ?_) ?_
 ·(simp only [jh,List.range_zero,List.filter_nil,List.length_nil,go_sem,qk,qh,qg,qj];try (repeat' first|(with_reducible apply aiA)|(apply qe;omega)|(apply qa;rfl)|exact ql))
 rintro ⟨i,v,O2,O3⟩ ⟨i1,i2,i3⟩ K hK
 simp only at i1 i2 i3 hK
 have i2': ∀m,qP (O2::m) 0=true:=fun _=>i2
 have i3': ∀m,qP (O3::m) 0=true:=fun _=>i3
 have hst:=qeS (qi5 gs all) i
 have hln:=zS (qi5 gs all) i
 obtain ⟨L,hL⟩: ∃L,L=jh (qi5 gs all) i:=⟨_,rfl⟩
 rw [←hL]at hst hln
 have eL:=hL.symm
 have eC:=zq L
 by_cases hi:i<gs.length
 ·have k1:((i:Int)<gs.length)=True:=eq_true (by omega)
  have c96:=fun h=>qz7 (gs.getD i default).mem h (hl i) (hm i)
  have hlt:=qbW (hm i)
  have hB:qi5 gs all i=decide (anN (jv (gs.getD i default).mem) all=0):=rfl
  obtain ⟨gr,hgr⟩: ∃gr,gr=gs.getD i default:=⟨_,rfl⟩
  have egr:=hgr.symm
  simp only [egr]at c96 hB
  rw [egr]at hlt
  have hd:=qgv hlt ha
  obtain ⟨q,hq⟩: ∃q,q=anN (jv gr.mem) all:=⟨_,rfl⟩
  rw [←hq]at hd hB
  have eTk:List.take L.length (qH L)=qH L:=List.take_of_length_le (by omega)
  by_cases g0:q=0
  ·have k2:((q:Int)=0)=True:=eq_true (by omega)
   rw [if_pos (by rw [hB];exact decide_eq_true g0)]at hst
   simp (disch:=omega) only [qF,grC,k1,i2',i3',eL,egr,Nat.mul_one,go_sem]
   repeat' first
    |((first|refine cA (c96 _) ?_ ?_|refine cG (fun e=>c96 _) ?_ ?_|refine cU (fun _=>c96 _) ?_ ?_);exact flk;simp (disch:=omega) only [qF,grC,k1,k2,i2',i3',eL,egr,hd,eC,eTk,Nat.mul_one,go_sem])
    |((first|apply qd|apply qb);exact rvk;simp only [go_sem];first|exact ql|apply qe|apply qa|apply qf|skip)
    |with_reducible first|intro _|apply aiA
   all_goals try exact clz
   have eA:qH L++ [AV.int .i64 (i:Int)]=qH (jh (qi5 gs all) (i+1)):=by rw [hst,jT];rfl
   rw [eA]
   refine hK _ _ (i+1,v+1,.mem (qx (some O2)+1) 167 (grC gr),.mem (qx (some O3)+1) 3 [.int .i64 (i:Int)]) ⟨hi,rfl,rfl⟩ (by simp only;omega) ?_
   simp only [hst,List.length_append,List.length_cons,List.length_nil]
   refine Wk.temps ?_
   (simp only [go_sem,qk,qh,qg,qj];try (repeat' first|(with_reducible apply aiA)|(apply qe;omega)|(apply qa;rfl)|exact ql))
  ·have k2:((q:Int)=0)=False:=eq_false (by omega)
   rw [if_neg (by rw [hB];simpa using g0),List.append_nil]at hst
   simp (disch:=omega) only [qF,grC,k1,i2',eL,egr,go_sem]
   repeat' first
    |((first|refine cA (c96 _) ?_ ?_|refine cG (fun e=>c96 _) ?_ ?_|refine cU (fun _=>c96 _) ?_ ?_);exact flk;simp (disch:=omega) only [qF,grC,k1,k2,i2',eL,egr,hd,go_sem])
    |((first|apply qd|apply qb);exact rvk;simp only [go_sem];first|exact ql|apply qe|apply qa|apply qf|skip)
    |with_reducible first|intro _|apply aiA
   all_goals try exact clz
   refine hK _ _ (i+1,v,.mem (qx (some O2)+1) 167 (grC gr),O3) ⟨hi,rfl,i3⟩ (by simp only;omega) ?_
   simp only [hst]
   refine Wk.temps ?_
   (simp only [go_sem,qk,qh,qg,qj];try (repeat' first|(with_reducible apply aiA)|(apply qe;omega)|(apply qa;rfl)|exact ql))
 ·obtain rfl:i=gs.length:=by omega
  have k1:((gs.length:Int)<gs.length)=False:=eq_false (by omega)
  rw [eL]
  simp (disch:=omega) only [k1,eL,go_sem]
  repeat' first
   |((first|apply qd|apply qb);exact rvk;simp only [go_sem];first|exact ql|apply qe|apply qa|apply qf|skip)
   |with_reducible first|intro _|apply aiA
  all_goals try exact clz
  exact qaz (fun _=>rfl) rfl
def qkC (a b:List Int):Int:=qbp (fun i=>qkB (a.getD i 0) (b.getD i 0)) 0 a.length
theorem qB4 (a b:List Int) (h:List AObj) (hl:a.length=b.length) (ha:a.length≤1000000000):ACalls Tryz.prog 66 [qq a,qq b] h (.int .i64 (qkC a b)) h:=by
 obtain ⟨R,hR⟩: ∃R,R=qkC a b:=⟨_,rfl⟩
 rw [←hR]
 unfold qkC at hR
 have z1: ∀g,valL g .len [qq a]= .int .i64 a.length:=fun _=>rfl
 have z2: ∀g,okL g .len [qq a]=True:=fun _=>eq_true trivial
 have z3: ∀g,valL g .len [qq b]= .int .i64 a.length:=fun _=>by rw [hl];rfl
 have z4: ∀g,okL g .len [qq b]=True:=fun _=>eq_true trivial
 refine acO qAP ?_
 simp (disch:=omega) only [qBV,z1,z2,go_sem]
 repeat' first
  |((first|apply qd|apply qb);exact rvk;simp only [go_sem];first|exact ql|apply qe|apply qa|apply qf|skip)
  |with_reducible first|intro _|apply aiA
 all_goals try exact clz
 refine qu (T:=fun i:Nat=>qT 36 [(0,qq a),(1,qq b),(9,qq a),(10,.int .i64 a.length),(11,.int .i64 i)]) (H:=fun _=>h) (inv:=fun i=>i≤a.length∧ ∀j,j<i→(fun i=>qkB (a.getD i 0) (b.getD i 0)) j=0) (m:=fun i=>a.length-i) 0 ⟨Nat.zero_le _,fun j hj=>by omega⟩ (Wk.temps ?_) ?_
 ·(simp only [go_sem,qk,qh,qg,qj];try (repeat' first|(with_reducible apply aiA)|(apply qe;omega)|(apply qa;rfl)|exact ql))
 rintro i ⟨i1,i2⟩ K hK
 by_cases hi:i<a.length
 ·have k1:((i:Int)<a.length)=True:=eq_true (by omega)
  have k2:((a.length:Int)≤i)=False:=eq_false (by omega)
  have k3:((i:Int)<b.length)=True:=eq_true (by omega)
  have hE:=zQ (f:=fun i=>qkB (a.getD i 0) (b.getD i 0)) hi i2
  have c122:=fun h=>qCK (a.getD i 0) (b.getD i 0) h
  have k4:((b.length:Int)≤i)=False:=eq_false (by omega)
  by_cases g:qkB (a.getD i 0) (b.getD i 0)=0
  ·simp only [g]at c122
   simp (disch:=omega) only [qq,k1,k2,k3,k4,go_sem]
   repeat' first
    |((first|refine cA (c122 _) ?_ ?_|refine cG (fun e=>c122 _) ?_ ?_|refine cU (fun _=>c122 _) ?_ ?_);exact flk;simp (disch:=omega) only [qq,k1,k2,k3,k4,go_sem])
    |((first|apply qd|apply qb);exact rvk;simp only [go_sem];first|exact ql|apply qe|apply qa|apply qf|skip)
    |with_reducible first|intro _|apply aiA
   all_goals try exact clz
   refine hK _ _ (i+1) ⟨hi,fun j hj=> ?_⟩ (by omega) (Wk.temps ?_)
   ·by_cases e:j=i
    ·subst e;exact g
    ·exact i2 j (by omega)
   ·(simp only [qq,go_sem,qk,qh,qg,qj];try (repeat' first|(with_reducible apply aiA)|(apply qe;omega)|(apply qa;rfl)|exact ql))
  ·have k5:(qkB (a.getD i 0) (b.getD i 0)=0)=False:=eq_false g
   rw [hR,hE g]
   simp (disch:=omega) only [qq,k1,k2,k3,k4,go_sem]
   repeat' first
    |((first|refine cA (c122 _) ?_ ?_|refine cG (fun e=>c122 _) ?_ ?_|refine cU (fun _=>c122 _) ?_ ?_);exact flk;simp (disch:=omega) only [qq,k1,k2,k3,k4,k5,go_sem])
    |((first|apply qd|apply qb);exact rvk;simp only [go_sem];first|exact ql|apply qe|apply qa|apply qf|skip)
    |with_reducible first|intro _|apply aiA
   all_goals try exact clz
 ·have k1:((i:Int)<a.length)=False:=eq_false (by omega)
  have hz:=qW (f:=fun i=>qkB (a.getD i 0) (b.getD i 0)) (n:=a.length) (fun j hj=>i2 j (by omega))
  rw [hR,hz]
  have k2:((a.length:Int)<a.length)=False:=eq_false (by omega)
  simp (disch:=omega) only [z1,z2,z3,z4,k1,go_sem]
  repeat' first
   |((first|apply qd|apply qb);exact rvk;simp only [go_sem];first|exact ql|apply qe|apply qa|apply qf|skip)
   |with_reducible first|intro _|apply aiA
  all_goals try exact clz
def jZ (ms:List Nat):AV:= .sl ms.length fun i=> [.int .u64 ((ms.getD i 0:Nat):Int)]
theorem qhY (L:List Nat):(jZ L).flag=true:=rfl
theorem qgi (L:List Nat):(jZ L).strip=jZ L:=rfl
theorem qf6 (L:List Nat):(jZ L).solid=true:=rfl
theorem qfD (L:List Nat):(jZ L).cells= [jZ L]:=rfl
attribute [go_sem] qhY qgi qf6 qfD
def qi9 (ms:List Nat) (c:Nat):Nat→Nat
 |0=>0
 |i+1=>if c.testBit i=true then qi9 ms c i|||ms.getD i 0 else qi9 ms c i
theorem qeV (ms:List Nat) (c i:Nat):qi9 ms c (i+1)=if c.testBit i=true then qi9 ms c i|||ms.getD i 0 else qi9 ms c i:=rfl
def chN (ms:List Nat) (c:Nat):Nat:=qi9 ms c ms.length
theorem qly {ms:List Nat} (hm: ∀i,ms.getD i 0<2^64) (c:Nat): ∀i,qi9 ms c i<2^64:=by
 intro i
 induction i with
 |zero=>show (0:Nat)<2^64;decide
 |succ i ih=>
  unfold qi9
  split
  ·exact Nat.or_lt_two_pow ih (hm i)
  ·exact ih
theorem qo8 (ms:List Nat) (c j:Nat): ∀i,(qi9 ms c i).testBit j=zd (fun k=>c.testBit k&&(ms.getD k 0).testBit j) i:=by
 intro i
 induction i with
 |zero=>show (0:Nat).testBit j=_;rw [Nat.zero_testBit];rfl
 |succ i ih=>
  have e:zd (fun k=>c.testBit k&&(ms.getD k 0).testBit j) (i+1)=(zd (fun k=>c.testBit k&&(ms.getD k 0).testBit j) i||(c.testBit i&&(ms.getD i 0).testBit j)):=by
   rw [Bool.eq_iff_iff,Bool.or_eq_true,qG,qG]
   constructor
   ·rintro ⟨k,h1,h2⟩
    by_cases e:k=i
    ·subst e;exact .inr h2
    ·exact .inl ⟨k,by omega,h2⟩
   ·rintro (⟨k,h1,h2⟩|h)
    ·exact ⟨k,by omega,h2⟩
    ·exact ⟨i,by omega,h⟩
  rw [e,←ih,qeV]
  split
  ·rename_i h
   rw [Nat.testBit_or,h,Bool.true_and]
  ·rename_i h
   rw [Bool.not_eq_true]at h
   rw [h,Bool.false_and,Bool.or_false]
theorem qqH {ms:List Nat} (hm: ∀i,ms.getD i 0<2^64) (c:Nat):chN ms c<2^64:=qly hm c _
def qnz (ms:List Nat):List (List AV):=(List.range (2^ms.length)).map fun c=> [.int .u64 ((c:Nat):Int),.int .u64 ((chN ms c:Nat):Int)]
theorem qdD (ms:List Nat):(qnz ms).length=2^ms.length:=by simp [qnz]
theorem qgC {ms:List Nat} {i:Nat} (hi:i<(qnz ms).length):(qnz ms)[i]= [.int .u64 ((i:Nat):Int),.int .u64 ((chN ms i:Nat):Int)]:=by
 simp [qnz]
theorem qoe (ms:List Nat): ∀a∈qnz ms,a.length=2:=by
 intro a ha
 unfold qnz at ha
 obtain ⟨_,_,rfl⟩:=List.mem_map.1 ha
 rfl
theorem qCI (ms:List Nat) (h:List AObj):ACalls Tryz.prog 198 [jZ ms] h (.fn (.func 245) [] [.ip [jZ ms]]) h:=by
 refine acO qxG ?_
 simp (disch:=omega) only [qv5,go_sem]
 repeat' first
  |((first|apply qd|apply qb);exact rvk;simp only [go_sem];first|exact ql|apply qe|apply qa|apply qf|skip)
  |with_reducible first|intro _|apply aiA
 all_goals try exact clz
set_option maxHeartbeats 16000000 in
theorem itC (ms:List Nat) (hl:ms.length≤16) (hm: ∀i,ms.getD i 0<2^64):qvi Tryz.prog 245 [.ip [jZ ms]] (qnz ms):=by
 intro h ts LI S E hS hE body start hts
 have zl: ∀g,valL g .len [jZ ms]= .int .i64 ms.length:=fun _=>rfl
 have zo: ∀g,okL g .len [jZ ms]=True:=fun _=>eq_true trivial
 have hsh:=qf2 (n:=ms.length) (by omega)
 have hp:2^ms.length≤2^16:=Nat.pow_le_pow_right (by omega) hl
 have hxl:=qdD ms
 obtain ⟨N,hN⟩: ∃N,N=2^ms.length:=⟨_,rfl⟩
 rw [←hN]at hsh hp hxl
 refine acQ qxT ?_
 simp (disch:=omega) only [qwg,zl,zo,hsh,go_sem]
 repeat' first
  |((first|apply qd|apply qb);exact rvk;simp only [go_sem];first|exact ql|apply qe|apply qa|apply qf|skip)
  |with_reducible first|intro _|apply aiA
 all_goals try exact clz
 refine qu (T:=fun i:Nat×List AObj=>qT 35 [(0,.yld h.length),(1,.ip [jZ ms]),(9,.int .u64 ((N:Nat):Int)),(10,.int .u64 ((i.1:Nat):Int))])
  (H:=fun i=>i.2++ [.lp .ready ts LI])
  (inv:=fun i=>i.1≤N∧S i.1 i.2) (m:=fun i=>N-i.1) (0,h) ⟨Nat.zero_le _,start⟩ (Wk.temps ?_) ?_
 ·(simp only [go_sem,qk,qh,qg,qj];try (repeat' first|(with_reducible apply aiA)|(apply qe;omega)|(apply qa;rfl)|exact ql))
 rintro ⟨i,hh⟩ ⟨i1,i2⟩ K hK
 simp only at i1 i2 hK
 obtain ⟨hlen,hlow⟩:=hS _ _ i2
 have hb:(h++ [AObj.lp LS.ready ts LI]).length=(hh++ [AObj.lp LS.ready ts LI]).length:=by simp [hlen]
 rw [hb]
 by_cases hi:i<N
 ·have q0:((i:Int)<N)=True:=eq_true (by omega)
  have hix:i<(qnz ms).length:=by omega
  have hb':=body i hh [] hix i2
  rw [qgC hix]at hb'
  simp (disch:=omega) only [q0,zl,zo,go_sem]
  repeat' first
   |((first|apply qd|apply qb);exact rvk;simp only [go_sem];first|exact ql|apply qe|apply qa|apply qf|skip)
   |with_reducible first|intro _|apply aiA
  all_goals try exact clz
  have hclt:i<2^64:=by omega
  have hml:=qly hm i
  refine qu (T:=fun j:Nat=>qT 35 [(0,.yld (hh++ [AObj.lp LS.ready ts LI]).length.pred),(1,.ip [jZ ms]),(3,.int .u64 ((i:Nat):Int)),(4,.int .u64 ((qi9 ms i j:Nat):Int)),(9,.int .u64 ((N:Nat):Int)),(10,.int .u64 ((i:Nat):Int)),(13,jZ ms),(14,.int .i64 ms.length),(15,.int .i64 j)])
   (H:=fun _=>hh++ [.lp .ready ts LI]) (inv:=fun j=>j≤ms.length) (m:=fun j=>ms.length-j) 0 (Nat.zero_le _) (Wk.temps ?_) ?_
  ·have e2:(hh++ [AObj.lp LS.ready ts LI]).length.pred=h.length:=by simp [hlen]
   rw [e2]
   (simp only [qi9,go_sem,qk,qh,qg,qj];try (repeat' first|(with_reducible apply aiA)|(apply qe;omega)|(apply qa;rfl)|exact ql))
  have e2:(hh++ [AObj.lp LS.ready ts LI]).length.pred=h.length:=by simp [hlen]
  rw [e2]
  rintro j j1 K2 hK2
  by_cases hj:j<ms.length
  ·have q1:((j:Int)<ms.length)=True:=eq_true (by omega)
   have e1:=qj0 (a:=i) (n:=j) hclt (by omega)
   have eo:=qg2 (hml j) (hm j)
   have hs:=qeV ms i j
   have q2:(0≤(j:Int))=True:=eq_true (by omega)
   cases g:i.testBit j with
   |true=>
    rw [g,if_pos rfl]at e1
    rw [g,if_pos rfl]at hs
    simp (disch:=omega) only [jZ,q1,q2,e1,go_sem]
    repeat' first
     |((first|apply qd|apply qb);exact rvk;simp only [go_sem];first|exact ql|apply qe|apply qa|apply qf|skip)
     |with_reducible first|intro _|apply aiA
    all_goals try exact clz
    refine hK2 _ _ (j+1) hj (by omega) ?_
    simp only [hs]
    refine Wk.temps ?_
    (simp only [jZ,go_sem,qk,qh,qg,qj];try (repeat' first|(with_reducible apply aiA)|(apply qe;omega)|(apply qa;rfl)|exact ql))
   |false=>
    rw [g,if_neg (by simp)]at e1
    rw [g,if_neg (by simp)]at hs
    simp (disch:=omega) only [jZ,q1,q2,e1,go_sem]
    repeat' first
     |((first|apply qd|apply qb);exact rvk;simp only [go_sem];first|exact ql|apply qe|apply qa|apply qf|skip)
     |with_reducible first|intro _|apply aiA
    all_goals try exact clz
    refine hK2 _ _ (j+1) hj (by omega) ?_
    simp only [hs]
    refine Wk.temps ?_
    (simp only [jZ,go_sem,qk,qh,qg,qj];try (repeat' first|(with_reducible apply aiA)|(apply qe;omega)|(apply qa;rfl)|exact ql))
  ·obtain rfl:j=ms.length:=by omega
   have q1:((ms.length:Int)<ms.length)=False:=eq_false (by omega)
   have hch:qi9 ms i ms.length=chN ms i:=rfl
   rw [hch]
   simp (disch:=omega) only [q1,go_sem]
   repeat' first
    |((first|apply qd|apply qb);exact rvk;simp only [go_sem];first|exact ql|apply qe|apply qa|apply qf|skip)
    |with_reducible first|intro _|apply aiA
   all_goals try exact clz
   ·exact ⟨.ready,ts,LI,kq hlen⟩
   ·refine km.mono ?_ hb'
    rintro v h' ⟨hh',⟨rfl,hn,rfl⟩|⟨st,rfl,hs',rfl⟩⟩
    ·simp (disch:=omega) only [go_sem]
     repeat' first
      |((first|apply qd|apply qb);exact rvk;simp only [go_sem];first|exact ql|apply qe|apply qa|apply qf|skip)
      |with_reducible first|intro _|apply aiA
     all_goals try exact clz
     refine hK _ _ (i+1,hh') ⟨hi,hn⟩ (by simp only;omega) (Wk.temps ?_)
     (simp only [go_sem,qk,qh,qg,qj];try (repeat' first|(with_reducible apply aiA)|(apply qe;omega)|(apply qa;rfl)|exact ql))
     rw [qbm (by omega) (by omega)]
     exact qe (by omega)
    ·simp (disch:=omega) only [go_sem]
     obtain ⟨r1,r2⟩:=(hE _ _ hs').ret (L:=LI) st hts
     exact kp trivial r1 r2 ⟨_,.inr ⟨st,hs',rfl⟩⟩ (ql)
 ·have e:i=N:=by omega
  subst e
  have q0:((i:Int)<i)=False:=eq_false (by omega)
  simp (disch:=omega) only [q0,go_sem]
  repeat' first
   |((first|apply qd|apply qb);exact rvk;simp only [go_sem];first|exact ql|apply qe|apply qa|apply qf|skip)
   |with_reducible first|intro _|apply aiA
  all_goals try exact clz
  obtain ⟨r1,r2⟩:=(hS _ _ i2).ret (L:=LI) .ready hts
  exact kp trivial r1 r2 ⟨hh,.inl ⟨by rw [hxl];exact i2,rfl⟩⟩ (ql)
def usM (gs:List Gr) (L:List Int):List Nat:=L.map fun i=>jv (gs.getD i.toNat default).mem
theorem qgm (gs:List Gr) (L:List Int):(usM gs L).length=L.length:=by simp [usM]
theorem qgl {gs:List Gr} {L:List Int} {i:Nat} (hi:i<L.length):(usM gs L).getD i 0=jv (gs.getD (L.getD i 0).toNat default).mem:=by
 unfold usM
 rw [gdqA,List.getElem?_map,zf hi,gdqA (l:=L),zf hi]
 rfl
theorem qry {gs:List Gr} (hm: ∀i,inB 64 (gs.getD i default).mem) (L:List Int) (i:Nat):(usM gs L).getD i 0<2^64:=by
 by_cases hi:i<L.length
 ·rw [qgl hi];exact qbW (hm _)
 ·rw [gdqA,List.getElem?_eq_none (by rw [qgm];omega)]
  show (0:Nat)<2^64
  decide
def kM (gs:List Gr) (all:Nat) (L:List Int) (c:Nat):List Int:=
 (jh c.testBit 64).map (fun k=>L.getD k.toNat 0)++(jh (anN all (chN (usM gs L) c)).testBit 64).map (fun s=>(gs.length:Int)+s)
theorem qdU (gs:List Gr) (all:Nat) (L:List Int) (c:Nat):(kM gs all L c).length=qnD c+qnD (anN all (chN (usM gs L) c)):=by
 unfold kM qnD
 rw [List.length_append,List.length_map,List.length_map]
def qvn (a b:List Int):Bool:=decide (a.length<b.length)||decide (a.length=b.length)&&decide (qkC a b<0)
def bst (gs:List Gr) (all:Nat) (L:List Int):Nat→List Int
 |0=>kM gs all L 0
 |c+1=>if qvn (kM gs all L (c+1)) (bst gs all L c)=true then kM gs all L (c+1) else bst gs all L c
theorem qj4 (gs:List Gr) (all:Nat) (L:List Int): ∀c,∃k,k≤c∧bst gs all L c=kM gs all L k:=by
 intro c
 induction c with
 |zero=>exact ⟨0,Nat.le_refl _,rfl⟩
 |succ c ih=>
  obtain ⟨k,h1,h2⟩:=ih
  unfold bst
  split
  ·exact ⟨c+1,Nat.le_refl _,rfl⟩
  ·exact ⟨k,by omega,h2⟩
def qz4 (gs:List Gr) (all:Nat):List Int:=bst gs all (kW gs all) (2^(kW gs all).length-1)
def qaE (names:List Str) (gs:List Gr) (p:Int):Str:=if p<gs.length then (gs.getD p.toNat default).name else names.getD (p-gs.length).toNat []
def shR (names:List Str) (gs:List Gr) (set:List Int):List Str:=if qgc names gs set=0 then (qz4 gs (jv set)).map (qaE names gs) else []
theorem qaO {c n k:Nat} (hc:c<2^n) (hk:c.testBit k=true):k<n:=by
 by_cases h:k<n
 ·exact h
 ·rw [Nat.testBit_lt_two_pow (Nat.lt_of_lt_of_le hc (Nat.pow_le_pow_right (by omega) (by omega)))]at hk
  cases hk
theorem zR {p:Nat→Bool} {n:Nat} {x:Int} (h:x∈jh p n): ∃k:Nat,x=(k:Int)∧k<n∧p k=true:=by
 unfold jh at h
 obtain ⟨k,h1,rfl⟩:=List.mem_map.1 h
 obtain ⟨h2,h3⟩:=List.mem_filter.1 h1
 exact ⟨k,rfl,List.mem_range.1 h2,h3⟩
theorem qlB {set:List Int} {n:Nat} (hn:n≤64) (h:inB n set):jv set<2^n:=by
 have h64:inB 64 set:=fun i hi=>by have:=h i hi;omega
 refine Nat.lt_pow_two_of_testBit _ fun i hi=> ?_
 rw [jA h64]
 refine decide_eq_false fun hm=> ?_
 have:=jK h _ hm
 omega
theorem qqF {a b n:Nat} (h:a<2^n):anN a b<2^n:=Nat.lt_of_le_of_lt (qqE a b) h
theorem qgt {gs:List Gr} {all:Nat} {x:Int} (h:x∈kW gs all): ∃k:Nat,x=(k:Int)∧k<gs.length:=by
 obtain ⟨k,h1,h2,_⟩:=zR h
 exact ⟨k,h1,h2⟩
theorem qrs {names:List Str} {gs:List Gr} {set:List Int} {all:Nat} (hs:inB names.length set) (hn:names.length≤64) (ha:all=jv set) {c:Nat} (hc:c<2^(kW gs all).length) {p:Int} (hp:p∈kM gs all (kW gs all) c):0≤p∧p<gs.length+names.length:=by
 unfold kM at hp
 rcases List.mem_append.1 hp with hp|hp
 ·obtain ⟨k,h1,rfl⟩:=List.mem_map.1 hp
  obtain ⟨k',rfl,h2,h3⟩:=zR h1
  have hk:=qaO hc h3
  have hm:(kW gs all).getD k' 0∈kW gs all:=by
   rw [gdqA,zf hk];exact List.getElem_mem hk
  obtain ⟨g,e,hg⟩:=qgt hm
  rw [Int.toNat_natCast,e]
  omega
 ·obtain ⟨k,h1,rfl⟩:=List.mem_map.1 hp
  obtain ⟨k',rfl,h2,h3⟩:=zR h1
  have:=qaO (qqF (b:=chN (usM gs (kW gs all)) c) (by rw [ha];exact qlB hn hs)) h3
  omega
end RC
end
section
open Go Go.Proofs AF
def qyM:List Nat:= [132,109,174,220,68]
def qr1:C:=
 ((C.ops [O1 4 (.box 0 44) 1,ON 6 (.nilo 1 1 9) [],MC 7 (i6 0)]).seq (((C.ops [MV 27 0,LD 28 4,MV 29 2,ON 30 (.call 196 true) [.t 27,.t 28,.t 29],MV 8 30]).seq ((C.ops [MV
 31 8,BC 32 .neq 31 (i6 0)]).seq (C.cond (.t 32) ((C.ops [MV 33 8,ON 6 (.nilo 1 1 9) [],MV 7 33]).seq C.ret) C.skip))).seq ((C.ops [MV 34 2,O1 35 (.call 125 true) 34,⟨some 9,
 none,.alloc 2 164 [.int .u64 0],[]⟩,ST 1 9 35]).seq ((C.ops [LD 36 4,LD 37 9,O2 38 (.call 197 true) 36 37,⟨some 10,none,.alloc 3 62 [.nl],[]⟩,ST 1 10 38]).seq ((C.ops [ON
 11 (.nilo 4 1 164) []]).seq (((C.ops [LD 39 10,O1 40 .len 39,MC 41 (i6 0)]).seq (C.block 0 ((C.ops [BI 42 .lss 41 40]).seq ((C.cond (.t 42) C.skip (C.exit 0)).seq ((C.block 1
 ((C.ops [O2 43 (.idxA 1) 39 41,LD 44 43,MV 13 44]).seq (C.ops [MV 45 11,LD 46 4,MV 47 13,O2 48 (.idxA 2) 46 47,O1 49 (.fldA 1) 48,LD 50 49,O1 51 (.call 125 true) 50,⟨some
 52,none,.bslc 5 1 1 164 [.int .u64 0] [(0,1)],[.t 51]⟩,O2 53 (.app 6 1 164 8) 45 52,MV 11 53]))).seq (C.ops [BC 54 .add 41 (i6 1),MV 41 54])))).loop)).seq ((C.ops [⟨some 14,
 none,.alloc 7 62 [.nl],[]⟩]).seq ((C.ops [⟨some 15,none,.alloc 8 4 [.bool false],[]⟩,⟨none,none,.store 1,[.t 15,.c (.bool false)]⟩]).seq (((C.wk.seq (C.ops [MV 55 11,O1
 56 (.call 198 true) 55])).seq (C.block 2 (C.range (.t 56) [57,58] ((C.ops [MV 16 57]).seq (C.ops [MV 17 58])) (C.block 3 ((C.wk.seq (C.ops [MV 59 16,O1 60 (.call 199 true) 59,LD
 61 9,MV 62 17,BI 63 .andNot 61 62,O1 64 (.call 199 true) 63,BI 65 .add 60 64,MV 18 65])).seq (((C.ops [LD 66 15,MV 67 66,MG 68 67 true 18,P1 69 67 true (.load none) 14,P1
 70 67 true .len 69,P2 71 67 true (.bin .gtr) 68 70,PF 72 67 71]).seq (C.cond (.t 72) (C.exit 3) C.skip)).seq ((C.ops [ON 19 (.nilo 9 1 3) []]).seq (((C.ops [MV 73 16,O1 74
 (.call 126 true) 73,O1 75 .len 74,MC 76 (i6 0)]).seq (C.block 4 ((C.ops [BI 77 .lss 76 75]).seq ((C.cond (.t 77) C.skip (C.exit 4)).seq ((C.block 5 ((C.ops [O2 78 (.idxA 1) 74
 76,LD 79 78,MV 21 79]).seq (C.ops [MV 80 19,LD 81 10,MV 82 21,O2 83 (.idxA 1) 81 82,LD 84 83,⟨some 85,none,.bslc 10 1 1 3 [i6 0] [(0,1)],[.t 84]⟩,O2 86 (.app 11 1 3 8)
 80 85,MV 19 86]))).seq (C.ops [BC 87 .add 76 (i6 1),MV 76 87])))).loop)).seq (((C.ops [LD 88 9,MV 89 17,BI 90 .andNot 88 89,O1 91 (.call 126 true) 90,O1 92 .len 91,MC 93 (i6
 0)]).seq (C.block 6 ((C.ops [BI 94 .lss 93 92]).seq ((C.cond (.t 94) C.skip (C.exit 6)).seq ((C.block 7 ((C.ops [O2 95 (.idxA 1) 91 93,LD 96 95,MV 23 96]).seq (C.ops [MV 97 19,
 LD 98 4,O1 99 .len 98,MV 100 23,BI 101 .add 99 100,⟨some 102,none,.bslc 12 1 1 3 [i6 0] [(0,1)],[.t 101]⟩,O2 103 (.app 13 1 3 8) 97 102,MV 19 103]))).seq (C.ops [BC 104
 .add 93 (i6 1),MV 93 104])))).loop)).seq ((C.ops [LD 105 15,O1 106 (.un UnOp.not) 105,MV 107 106,MG 108 107 false 19,P1 109 107 false .len 108,P1 110 107 false (.load none)
 14,P1 111 107 false .len 110,P2 112 107 false (.bin .lss) 109 111,PT 113 107 112,MV 114 113,MG 115 114 false 19,P1 116 114 false (.load none) 14,P2 117 114 false (.call 66
 true) 115 116,PC 118 114 false (.bin .lss) 117 (i6 0),PT 119 114 118]).seq (C.cond (.t 119) (C.ops [MV 120 19,ST 1 14 120,⟨none,none,.store 1,[.t 15,.c (.bool true)]⟩])
 C.skip))))))))))).seq ((C.ops [ON 24 (.nilo 14 1 9) []]).seq (((C.wk.seq (C.ops [LD 121 14,O1 122 .len 121,MC 123 (i6 0)])).seq (C.block 8 ((C.ops [BI 124 .lss 123 122]).seq
 ((C.cond (.t 124) C.skip (C.exit 8)).seq ((C.block 9 ((C.ops [O2 125 (.idxA 1) 121 123,LD 126 125,MV 26 126]).seq ((C.ops [MV 127 26,LD 128 4,O1 129 .len 128,BI 130 .lss 127
 129]).seq (C.cond (.t 130) (C.ops [MV 131 24,LD 132 4,MV 133 26,O2 134 (.idxA 2) 132 133,O1 135 (.fldA 0) 134,LD 136 135,⟨some 137,none,.bslc 15 1 1 9 [.str []] [(0,1)],
 [.t 136]⟩,O2 138 (.app 16 1 9 16) 131 137,MV 24 138]) (C.ops [MV 139 24,MV 140 0,MV 141 26,LD 142 4,O1 143 .len 142,BI 144 .sub 141 143,O2 145 (.idxA 1) 140 144,LD 146
 145,⟨some 147,none,.bslc 17 1 1 9 [.str []] [(0,1)],[.t 146]⟩,O2 148 (.app 18 1 9 16) 139 147,MV 24 148]))))).seq (C.ops [BC 149 .add 123 (i6 1),MV 123 149])))).loop)).seq
 ((C.ops [MV 150 24,MV 6 150,MC 7 (i6 0)]).seq
 C.ret))))))))))))
theorem qqV:qK Tryz.prog 142 151 19 [RV.tmp 6,RV.tmp 7] qr1:=fi Tryz.f142 [4,6,9,10,11,52,53,14,15,19,85,86,102,103,24,137,138,147,148] qyM [14,17,33]
end
section
open Go Go.Proofs AF HY LN
namespace RC
def qeg (ms:List Nat):List AV:=ms.map fun m=> .int .u64 ((m:Nat):Int)
theorem qhj (ms:List Nat):(qeg ms).length=ms.length:=by simp [qeg]
theorem qqp (a b:List Nat):qeg (a++b)=qeg a++qeg b:=by simp [qeg]
theorem qiP {L:List Nat} {i:Nat} (hi:i<L.length):L.take (i+1)=L.take i++ [L.getD i 0]:=by
 rw [List.take_succ_eq_append_getElem hi,gdqA,zf hi];rfl
theorem kA {L:List Int} {i:Nat} (hi:i<L.length):L.take (i+1)=L.take i++ [L.getD i 0]:=by
 rw [List.take_succ_eq_append_getElem hi,gdqA,zf hi];rfl
theorem qqq {L:List Nat} {n:Nat} (g:AV→AV) (hg: ∀n,g (.int .u64 n)= .int .u64 n) (hn:n=L.length):VLe (.sl n fun i=>(((qeg L).drop i).take 1).map g) (jZ L):=by
 subst hn
 refine VLe.sl_eq rfl (fun i hi=> ?_)
 unfold qeg
 rw [←List.map_drop,List.drop_eq_getElem_cons hi,List.map_cons,List.take_succ_cons,List.take_zero,List.map_cons,List.map_nil,hg,gdqA,zf hi]
 rfl
theorem qp0 {v n:Nat} {L:List Nat} {g:AV→AV} (hg: ∀s,g (.int .u64 s)= .int .u64 s) (hn:n=L.length):VLe (qef (some (zM v 164 (qeg L))) v 1 0 n g) (jZ L):=by
 subst hn
 by_cases h:L= []
 ·subst h
  show VLe (qef (some (.emp v)) v 1 0 0 g) _
  rw [slOf_emp,if_pos rfl]
  exact kZ
 ·have e0:zM v 164 (qeg L)= .mem v 164 (qeg L):=jB (by simpa [qeg] using h)
  rw [e0,slOf_mem,if_pos ⟨rfl,by rw [qhj];omega⟩]
  simp only [Nat.zero_add,Nat.mul_one]
  exact qqq g hg rfl
def shH (h:List AObj) (gs:List Gr) (all:Nat) (L:List Int) (v4:Nat) (O5:AObj) (bc:AV) (fd:Bool) (O9 O10 O12:AObj) (tl:List AObj):List AObj:=
 h++(.mem 1 44 [qF gs]:: .emp 1:: .mem 1 164 [.int .u64 ((all:Nat):Int)]:: .mem 1 62 [qq L]:: .emp v4::O5:: .emp 0:: .mem 1 62 [bc]:: .mem 1 4 [.bool fd]::O9::O10:: .emp 0::O12:: .emp 0:: .emp 0:: .emp 0:: .emp 0:: .emp 0:: .emp 0::tl)
theorem qbH (h:List AObj) (gs:List Gr) (all:Nat) (L:List Int) (v4:Nat) (O5:AObj) (bc:AV) (fd:Bool) (O9 O10 O12:AObj) (tl:List AObj):shH h gs all L v4 O5 bc fd O9 O10 O12 []++tl=shH h gs all L v4 O5 bc fd O9 O10 O12 tl:=by simp [shH]
theorem jm (h:List AObj) (gs:List Gr) (all:Nat) (L:List Int) (v4:Nat) (O5:AObj) (bc:AV) (fd:Bool) (O9 O10 O12:AObj):(shH h gs all L v4 O5 bc fd O9 O10 O12 []).length=h.length+19:=by simp [shH]
def bsC (gs:List Gr) (all:Nat) (L:List Int):Nat→AV
 |0=> .nl
 |i+1=>qq (bst gs all L i)
def bsO (h:List AObj) (gs:List Gr) (all:Nat) (L:List Int) (i:Nat) (bc:AV) (O9:AObj):Prop:=
 (bc=bsC gs all L i∧qP [O9] 0=true)∨ ∃j v,i=j+1∧bc= .osl (h.length+9) v 1 0 (bst gs all L j).length∧O9=zM v 3 (qH (bst gs all L j))
theorem shW {h:List AObj} {gs:List Gr} {all:Nat} {L:List Int} {v4 i:Nat} {O5:AObj} {bc:AV} {fd:Bool} {O9 O10 O12:AObj} {tl:List AObj} (hb:bsO h gs all L i bc O9) (hl: ∀n,qae n O9):
  ∃O9',qP [O9'] 0=true∧(∀n,qae n O9')∧ ∀TT,Wk TT (shH h gs all L v4 O5 bc fd O9 O10 O12 tl) TT (shH h gs all L v4 O5 (bsC gs all L i) fd O9' O10 O12 tl):=by
 rcases hb with ⟨rfl,h2⟩|⟨j,v,rfl,rfl,rfl⟩
 ·exact ⟨O9,h2,hl,fun TT=>Wk.refl _ _⟩
 ·refine ⟨.emp (v+1),rfl,fun _=>trivial,fun TT=> ?_⟩
  have w:=Wk.fzCell (t:=TT) (h:=shH h gs all L v4 O5 (.osl (h.length+9) v 1 0 (bst gs all L j).length) fd (zM v 3 (qH (bst gs all L j))) O10 O12 tl) (j:=h.length+7) (k:=h.length+9) (i:=0) (v:=1) (ty:=62) (cs:= [.osl (h.length+9) v 1 0 (bst gs all L j).length]) (c:= .osl (h.length+9) v 1 0 (bst gs all L j).length) (c':=qq (bst gs all L j))
   (by unfold shH;simp only [go_sem]) rfl (by unfold shH;simp only [go_sem]) (by omega) (by
    rw [qcg]
    unfold shH
    rw [getO_app]
    exact qaz (fun _=>rfl) rfl)
  unfold shH at w ⊢
  simp only [go_sem,List.set_cons_zero]at w
  exact w
theorem qlw (n:Nat) (L:List Nat):jd n (jZ L)=true:=rfl
theorem qa9 (L:List Int) (n:Nat): ∀c∈qH L,jd n c=true:=by
 intro c hc
 unfold qH at hc
 obtain ⟨x,_,rfl⟩:=List.mem_map.1 hc
 rfl
theorem qCJ (a b:List Int) (k v:Nat) (h:List AObj) (n:Nat) (hn:n=a.length) (hk:getO k h=some (zM v 3 (qH a))) (hl:a.length=b.length) (ha:a.length≤1000000000):ACalls Tryz.prog 66 [.osl k v 1 0 n,qq b] h (.int .i64 (qkC a b)) h:=by
 subst hn
 refine ACalls.borrow ((qB4 a b [] hl ha).le ?_ (ql)) rfl
 simp only [List.map_cons,List.map_nil,rei_osl,if_true,hk]
 exact ⟨qaz (fun _=>rfl) rfl,ql,trivial⟩
end RC
end
