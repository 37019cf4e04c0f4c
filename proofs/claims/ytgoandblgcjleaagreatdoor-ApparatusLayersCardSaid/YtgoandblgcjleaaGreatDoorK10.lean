import Derived.Test.YtgoandblgcjleaaGreatDoorK9
import Derived.Test.YtgoandblgcjleaaGreatDoorK3
import Derived.Test.YtgoandblgcjleaaGreatDoorK5
import Derived.Test.YtgoandblgcjleaaGreatDoorK8
import Derived.Test.YtgoandblgcjleaaGreatDoorProg
set_option linter.all false
set_option linter.unusedSimpArgs false
set_option linter.unusedVariables false
set_option linter.unusedSectionVars false
set_option maxRecDepth 100000
section
open Go Go.Proofs AF HY LN
namespace RC
set_option maxHeartbeats 4000000
structure Va where
 words:List Str
 sigla:List Str
 deriving Inhabited
structure En where
 layer:Int
 frm:Int
 to:Int
 pos:Bool
 sup:List Str
 vars:List Va
 deriving Inhabited
def vaC (v:Va):List AV:= [strs v.words,strs v.sigla]
def qbl (vs:List Va):AV:= .sl vs.length fun i=>vaC (vs.getD i default)
def enC (e:En):List AV:= [.int .i64 e.layer,.int .i64 e.frm,.int .i64 e.to,.bool e.pos,strs e.sup,qbl e.vars]
def jm (l:List En):AV:= .sl l.length fun i=>enC (l.getD i default)
theorem qk0 (L:List Va):(qbl L).flag=true:=rfl
theorem qiI (L:List Va):(qbl L).strip=qbl L:=rfl
theorem qpf {fz:Nat→Bool} {h:List AObj} {n:Nat} (L:List Va):frz fz h (n+1) (qbl L)=qbl L:=rfl
theorem qp9 {fz:Nat→Bool} {h:List AObj} {n:Nat} (L:List Va):rei fz h (n+1) (qbl L)=qbl L:=rfl
theorem qkW (L:List En):(jm L).flag=true:=rfl
theorem qiE (L:List En):(jm L).strip=jm L:=rfl
theorem qpc {fz:Nat→Bool} {h:List AObj} {n:Nat} (L:List En):frz fz h (n+1) (jm L)=jm L:=rfl
theorem qp6 {fz:Nat→Bool} {h:List AObj} {n:Nat} (L:List En):rei fz h (n+1) (jm L)=jm L:=rfl
attribute [go_sem] qk0 qiI qpf qp9 qkW qiE qpc qp6
theorem qwD (ws:List Str) (m:Nat) (k:Nat→Str) (h:List AObj) (h1:ws.length≤1000000000) (h2:m≤1000000000):
  ACalls Tryz.prog 53 [strs ws,.sl m (fun j=> [.str (k j)])] h (.bool (decide (ws.length=m∧ ∀i,i<ws.length→ws.getD i []=k i))) h:=by
 unfold strs
 have:=qB8 qAE ws.length m (fun j=> .s (ws.getD j [])) (fun j=> .s (k j)) h (fun _ _ _=>rfl) (by omega) (by omega)
 simpa only [At.v,At.s.injEq] using this
theorem qBc (ws:List Str) (m:Nat) (k:Nat→Str) (h:List AObj) (h1:ws.length≤1000000000) (h2:m≤1000000000):
  ACalls Tryz.prog 139 [strs ws,.sl m (fun j=> [.str (k j)])] h (.bool (decide (ws.length=m∧ ∀i,i<ws.length→ws.getD i []=k i))) h:=by
 have c22:=fun h=>qwD ws m k h h1 h2
 refine acO qwO ?_
 simp (disch:=omega) only [qvx,List.replicate,go_sem]
 repeat' first
  |((first|refine cA (c22 _) ?_ ?_|refine cG (fun e=>c22 _) ?_ ?_|refine cU (fun _=>c22 _) ?_ ?_);(next=>exact flk);simp (disch:=omega) only [go_sem])
  |((first|apply qd|apply qb);exact rvk;simp only [go_sem];first|exact VLe.refl _|apply qe|apply qa|apply qf|skip)
  |with_reducible first|apply And.intro|intro _
 all_goals try exact clz
theorem jT {α:Type} [Inhabited α] {a b:List α} (d:α):a=b↔a.length=b.length∧ ∀i,i<a.length→a.getD i d=b.getD i d:=by
 constructor
 ·rintro rfl;exact ⟨rfl,fun _ _=>rfl⟩
 ·rintro ⟨h1,h2⟩
  apply List.ext_getElem h1
  intro i h3 h4
  have:=h2 i h3
  rw [gdqA,gdqA,zU h3,zU h4]at this
  exact this
def qch (t:List Str) (f g:Nat):List Str:=(t.drop f).take (g-f)
theorem qhd {t:List Str} {f g:Nat} (h1:f≤g) (h2:g≤t.length):(qch t f g).length=g-f:=by unfold qch;simp;omega
def qqV (t:List Str) (e:En) (i:Nat):Int:=
 if qnV (e.vars.getD i default).words≠0 then 11 else if (e.vars.getD i default).words=qch t e.frm.toNat e.to.toNat then 9 else
  if zH (fun j=>decide ((e.vars.getD i default).words=(e.vars.getD j default).words)) i=true then 7 else if (e.vars.getD i default).sigla.length=0 then 5 else 0
def cnt (names:List Str) (gs:List Gr) (e:En):Nat→List Int
 |0=>qq8 (List.replicate 32 0) (qc9 names gs e.sup)
 |i+1=>qq8 (cnt names gs e i) (qc9 names gs (e.vars.getD i default).sigla)
def quw (C:List Int):Bool:=zH (fun i=>decide (1<C.getD i 0)) C.length
def qvc (t:List Str) (e:En):Prop:=e.layer<0∨16≤e.layer∨e.frm<0∨e.to<e.frm∨(t.length:Int)<e.to
instance (t:List Str) (e:En):Decidable (qvc t e):=by unfold qvc;infer_instance
def qAq (names:List Str) (gs:List Gr) (t:List Str) (e:En):Int:=
 if sgE names gs≠0 then 1 else if 4096<t.length then 4 else if qnV t≠0 then 11 else if qvc t e then 2 else
  if 0<e.sup.length∧e.pos=false then 1 else if e.vars.length=0 then 5 else
   if qbq (qqV t e) 0 e.vars.length≠0 then qbq (qqV t e) 0 e.vars.length else
    if qkO names gs e.sup≠0 then qkO names gs e.sup else
     if qbq (fun i=>qkO names gs (e.vars.getD i default).sigla) 0 e.vars.length≠0 then qbq (fun i=>qkO names gs (e.vars.getD i default).sigla) 0 e.vars.length else
      if quw (cnt names gs e e.vars.length)=true then 17 else 0
structure TSz (t:List Str):Prop where
 n:t.length≤1000000000
 s: ∀j,(t.getD j []).length≤1000000000
structure ESz (e:En):Prop where
 sup:e.sup.length≤1000000000
 vs:e.vars.length≤1000000000
 w: ∀i,TSz (e.vars.getD i default).words
 sg: ∀i,(e.vars.getD i default).sigla.length≤1000000000
end RC
end
section
open Go Go.Proofs AF HY LN
namespace RC
set_option maxHeartbeats 8000000
end RC
end
section
open Go Go.Proofs AF HY LN
namespace RC
end RC
end
section
open Go Go.Proofs AF HY LN
namespace RC
end RC
end
section
open Go Go.Proofs AF HY LN
namespace RC
set_option maxHeartbeats 8000000
end RC
end
section
open Go Go.Proofs AF HY LN
namespace RC
set_option maxHeartbeats 4000000
end RC
end
section
open Go Go.Proofs AF HY LN
namespace RC
set_option maxHeartbeats 4000000
theorem qpv {p:Nat→Bool} {n:Nat} {x:Int}:x∈kR p n↔ ∃k:Nat,k<n∧p k=true∧x=k:=by
 unfold kR
 constructor
 ·intro h
  obtain ⟨k,hk,rfl⟩:=List.mem_map.1 h
  obtain ⟨h1,h2⟩:=List.mem_filter.1 hk
  exact ⟨k,List.mem_range.1 h1,h2,rfl⟩
 ·rintro ⟨k,h1,h2,rfl⟩
  exact List.mem_map.2 ⟨k,List.mem_filter.2 ⟨List.mem_range.2 h1,h2⟩,rfl⟩
end RC
end
section
open Go Go.Proofs AF HY LN
namespace RC
set_option maxHeartbeats 4000000
theorem smw (ws:List Str) (m:Nat) (k:Nat→Str) (h:List AObj) (h1:ws.length≤1000000000) (h2:m≤1000000000):
  ACalls Tryz.prog 103 [strs ws,.sl m (fun j=> [.str (k j)])] h (.bool (decide (ws.length=m∧ ∀i,i<ws.length→ws.getD i []=k i))) h:=by
 obtain ⟨R,hR⟩: ∃R,R=decide (ws.length=m∧ ∀i,i<ws.length→ws.getD i []=k i):=⟨_,rfl⟩
 rw [←hR]
 by_cases g:ws.length=m
 ·have k0:((ws.length:Int)=m)=True:=eq_true (by omega)
  refine acO qrf ?_
  simp (disch:=omega) only [qsk,List.replicate,strs,k0,go_sem]
  repeat' first
   |((first|apply qd|apply qb);exact rvk;simp only [go_sem];first|exact VLe.refl _|apply qe|apply qa|apply qf|skip)
   |with_reducible first|apply And.intro|intro _
  all_goals try exact clz
  refine qt (T:=fun i:Nat=>qY 26 [(0,strs ws),(1,.sl m (fun j=> [.str (k j)])),(5,.int .i64 i)]) (H:=fun _=>h) (inv:=fun i=>i≤ws.length∧ ∀j,j<i→ws.getD j []=k j) (m:=fun i=>ws.length-i) 0 ⟨Nat.zero_le _,fun j hj=>by omega⟩ (Wk.temps ?_) ?_
  ·(simp only [strs,List.replicate,go_sem,qk,qi,qg,qj];try (repeat' first|(with_reducible apply And.intro)|(apply qe;omega)|(apply qa;rfl)|exact VLe.refl _))
  rintro i ⟨i1,i2⟩ K hK
  by_cases hi:i<ws.length
  ·have k1:((i:Int)<ws.length)=True:=eq_true (by omega)
   have k3:((i:Int)<m)=True:=eq_true (by omega)
   obtain ⟨x,hx⟩: ∃x,x=ws.getD i []:=⟨_,rfl⟩
   have ex:=hx.symm
   by_cases e:x=k i
   ·have k2:(x=k i)=True:=eq_true e
    simp (disch:=omega) only [List.replicate,strs,k1,k2,k3,ex,go_sem]
    repeat' first
     |((first|apply qd|apply qb);exact rvk;simp only [go_sem];first|exact VLe.refl _|apply qe|apply qa|apply qf|skip)
     |with_reducible first|apply And.intro|intro _
    all_goals try exact clz
    refine hK _ _ (i+1) ⟨hi,fun j hj=> ?_⟩ (by omega) (Wk.temps ?_)
    ·by_cases e':j=i
     ·subst e';rw [ex];exact e
     ·exact i2 j (by omega)
    ·(simp only [strs,List.replicate,go_sem,qk,qi,qg,qj];try (repeat' first|(with_reducible apply And.intro)|(apply qe;omega)|(apply qa;rfl)|exact VLe.refl _))
   ·have k2:(x=k i)=False:=eq_false e
    have hV:R=false:=by rw [hR];exact decide_eq_false fun hc=>e (by rw [←ex];exact hc.2 i hi)
    rw [hV]
    simp (disch:=omega) only [List.replicate,strs,k1,k2,k3,ex,go_sem]
    repeat' first
     |((first|apply qd|apply qb);exact rvk;simp only [go_sem];first|exact VLe.refl _|apply qe|apply qa|apply qf|skip)
     |with_reducible first|apply And.intro|intro _
    all_goals try exact clz
  ·have k1:((i:Int)<ws.length)=False:=eq_false (by omega)
   have hV:R=true:=by rw [hR];exact decide_eq_true ⟨g,fun j hj=>i2 j (by omega)⟩
   rw [hV]
   simp (disch:=omega) only [List.replicate,strs,k1,go_sem]
   repeat' first
    |((first|apply qd|apply qb);exact rvk;simp only [go_sem];first|exact VLe.refl _|apply qe|apply qa|apply qf|skip)
    |with_reducible first|apply And.intro|intro _
   all_goals try exact clz
 ·have k0:((ws.length:Int)=m)=False:=eq_false (by omega)
  have hV:R=false:=by rw [hR];exact decide_eq_false fun hc=>g hc.1
  rw [hV]
  refine acO qrf ?_
  simp (disch:=omega) only [qsk,List.replicate,strs,k0,go_sem]
  repeat' first
   |((first|apply qd|apply qb);exact rvk;simp only [go_sem];first|exact VLe.refl _|apply qe|apply qa|apply qf|skip)
   |with_reducible first|apply And.intro|intro _
  all_goals try exact clz
theorem qBh (a b:List Str) (h:List AObj) (h1:a.length≤1000000000) (h2:b.length≤1000000000):
  ACalls Tryz.prog 103 [strs a,strs b] h (.bool (decide (a=b))) h:=by
 have c:=smw a b.length (fun j=>b.getD j []) h h1 h2
 have e:decide (a.length=b.length∧ ∀i,i<a.length→a.getD i []=b.getD i [])=decide (a=b):=decide_eq_decide.2 (jT ([]:Str)).symm
 rw [e]at c
 exact c
end RC
end
section
open Go Go.Proofs AF HY LN
namespace RC
def qi4 (names:List Str) (gs:List Gr) (e:En):Nat→List Int×Bool
 |0=>(qc9 names gs e.sup,false)
 |i+1=>(kR (fun k=>decide ((k:Int)∈(qi4 names gs e i).1)||decide ((k:Int)∈qc9 names gs (e.vars.getD i default).sigla)) 64,(qi4 names gs e i).2||(qi4 names gs e i).1.any fun x=>decide (x∈qc9 names gs (e.vars.getD i default).sigla))
theorem qn7 (names:List Str) (gs:List Gr) (e:En) (i:Nat):qi4 names gs e (i+1)=(kR (fun k=>decide ((k:Int)∈(qi4 names gs e i).1)||decide ((k:Int)∈qc9 names gs (e.vars.getD i default).sigla)) 64,(qi4 names gs e i).2||(qi4 names gs e i).1.any fun x=>decide (x∈qc9 names gs (e.vars.getD i default).sigla)):=rfl
theorem qoo (L:List Int): ∀(C:List Int) (j:Nat),L.Nodup→(∀x∈L,0≤x∧x<C.length)→j<C.length→(qq8 C L).getD j 0=C.getD j 0+if (j:Int)∈L then 1 else 0:=by
 induction L with
 |nil=>intro C j _ _ _;simp [qq8]
 |cons n L ih=>
  intro C j hn hL hj
  obtain ⟨h1,h2⟩:=List.nodup_cons.1 hn
  have hb:=hL n (by simp)
  show (qq8 (C.set n.toNat (C.getD n.toNat 0+1)) L).getD j 0=_
  rw [ih _ j h2 (fun x hx=>by rw [List.length_set];exact hL x (by simp [hx])) (by rw [List.length_set];exact hj)]
  by_cases e:(j:Int)=n
  ·have e2:n.toNat=j:=by omega
   have e3: ¬(j:Int)∈L:=by rw [e];exact h1
   rw [if_neg e3,if_pos (by rw [e];simp),e2]
   have:(C.set j (C.getD j 0+1)).getD j 0=C.getD j 0+1:=by
    rw [gdqA,List.getElem?_set_self hj];rfl
   rw [this]
   omega
  ·have e2: ¬n.toNat=j:=by omega
   have:(C.set n.toNat (C.getD n.toNat 0+1)).getD j 0=C.getD j 0:=by
    rw [gdqA,List.getElem?_set_ne e2,←gdqA]
   rw [this]
   congr 1
   simp [e]
theorem qh1 (p:Nat→Bool) (n:Nat):(kR p n).Nodup:=by
 unfold kR
 rw [List.Nodup,List.pairwise_map]
 refine List.Pairwise.imp ?_ (List.Pairwise.filter _ List.nodup_range)
 intro a b hab hc
 exact hab (by have hx:(a:Int)=(b:Int):=hc;omega)
theorem qda (names:List Str) (gs:List Gr) (sg:List Str):(qc9 names gs sg).Nodup:=by
 unfold qc9
 split
 ·exact qh1 _ _
 ·exact List.nodup_nil
structure qzY (A:List Int) (B:Bool) (C:List Int):Prop where
 len:C.length=32
 rng: ∀x∈A,0≤x∧x<32
 mem: ∀k:Nat,k<32→((k:Int)∈A↔1≤C.getD k 0)
 nn: ∀k:Nat,k<32→0≤C.getD k 0
 tw:B=true↔ ∃k:Nat,k<32∧1<C.getD k 0
theorem qgO {A O A' C:List Int} {B:Bool} (h:qzY A B C) (ho:O.Nodup) (hr: ∀x∈O,0≤x∧x<32) (hA: ∀x,x∈A'↔x∈A∨x∈O):qzY A' (B||A.any fun x=>decide (x∈O)) (qq8 C O):=by
 have hl:=h.len
 have hg:=fun (k:Nat) (hk:k<32)=>qoo O C k ho (fun x hx=>by have:=hr x hx;omega) (by omega)
 refine ⟨by rw [qop,hl],fun x hx=> ?_,fun k hk=> ?_,fun k hk=> ?_,?_⟩
 ·rcases (hA x).1 hx with hx|hx
  ·exact h.rng x hx
  ·exact hr x hx
 ·rw [hA,h.mem k hk,hg k hk]
  have:=h.nn k hk
  by_cases e:(k:Int)∈O
  ·rw [if_pos e]
   exact ⟨fun _=>by omega,fun _=> .inr e⟩
  ·rw [if_neg e]
   constructor
   ·rintro (h1|h1)
    ·omega
    ·exact absurd h1 e
   ·intro h1;exact .inl (by omega)
 ·rw [hg k hk]
  have:=h.nn k hk
  split<;>omega
 ·rw [Bool.or_eq_true,h.tw,List.any_eq_true]
  constructor
  ·rintro (⟨k,hk,h1⟩|⟨x,hx,h1⟩)
   ·refine ⟨k,hk,?_⟩
    rw [hg k hk]
    split<;>omega
   ·have h1:=of_decide_eq_true h1
    have hx2:=h.rng x hx
    have e:((x.toNat:Nat):Int)=x:=by omega
    refine ⟨x.toNat,by omega,?_⟩
    rw [hg _ (by omega),e,if_pos h1]
    have:=(h.mem x.toNat (by omega)).1 (by rw [e];exact hx)
    omega
  ·rintro ⟨k,hk,h1⟩
   rw [hg k hk]at h1
   by_cases e:(k:Int)∈O
   ·rw [if_pos e]at h1
    exact .inr ⟨(k:Int),(h.mem k hk).2 (by omega),decide_eq_true e⟩
   ·rw [if_neg e]at h1
    exact .inl ⟨k,hk,by omega⟩
theorem qtD:qzY [] false (List.replicate 32 0):=by
 have g: ∀k:Nat,k<32→(List.replicate 32 (0:Int)).getD k 0=0:=fun k hk=>by
  rw [gdqA,List.getElem?_replicate,if_pos hk];rfl
 refine ⟨by simp,fun x hx=>by simp at hx,fun k hk=> ?_,fun k hk=> ?_,?_⟩
 ·rw [g k hk];simp
 ·rw [g k hk];omega
 ·constructor
  ·intro h;cases h
  ·rintro ⟨k,hk,h1⟩;rw [g k hk]at h1;omega
theorem qr2 (names:List Str) (gs:List Gr) (e:En): ∀i,qzY (qi4 names gs e i).1 (qi4 names gs e i).2 (cnt names gs e i):=by
 have hO:=fun sg=>qa9 (@qoW names gs sg)
 intro i
 induction i with
 |zero=>
  have:=qgO (A':=qc9 names gs e.sup) qtD (qda names gs e.sup) (hO e.sup) (fun x=>by simp)
  exact this
 |succ i ih=>
  rw [qn7]
  unfold cnt
  refine qgO ih (qda _ _ _) (hO _) (fun x=> ?_)
  rw [qpv]
  constructor
  ·rintro ⟨k,hk,h1,rfl⟩
   simpa using h1
  ·intro hx
   have hb:0≤x∧x<32:=by
    rcases hx with hx|hx
    ·exact ih.rng x hx
    ·exact hO _ x hx
   have e:((x.toNat:Nat):Int)=x:=by omega
   refine ⟨x.toNat,by omega,?_,e.symm⟩
   simp only [e]
   simpa using hx
theorem qd9 (names:List Str) (gs:List Gr) (e:En) (i:Nat):quw (cnt names gs e i)=(qi4 names gs e i).2:=by
 have h:=qr2 names gs e i
 unfold quw
 rw [h.len,Bool.eq_iff_iff,h.tw,qL]
 simp only [decide_eq_true_eq]
end RC
end
section
open Go Go.Proofs AF HY LN
namespace RC
set_option maxHeartbeats 16000000
end RC
end
section
open Go Go.Proofs AF HY LN
namespace RC
set_option maxHeartbeats 8000000
def inV (names:List Str) (gs:List Gr) (e:En) (src:Int) (i:Nat):Bool:=decide (src∈qc9 names gs (e.vars.getD i default).sigla)
def vIx (names:List Str) (gs:List Gr) (e:En) (src:Int):Int:=qac (inV names gs e src) e.vars.length 0
def qgx (a b:En):Bool:=decide (a.frm<b.frm)||decide (a.frm=b.frm)&&decide (a.to<b.to)
end RC
end
section
open Go Go.Proofs AF
def qll:List Nat:= [132,109,174,220,68]
def qAi:C:=
 ((C.ops [ON 2 (.nilo 0 6 58) []]).seq (((C.ops [MV 3 0,O1 4 (.isnil .slice false) 3]).seq (C.cond (.t 4) ((C.ops [ON 2 (.nilo 0 6 58) []]).seq C.ret) C.skip)).seq ((C.ops [⟨some
 5,none,.bslc 1 6 0 58 [i6 0,i6 0,i6 0,.bool false,.nl,.nl] [],[]⟩,MV 6 0,O2 7 (.app 2 6 58 80) 5 6,MV 2 7]).seq
 C.ret)))
theorem qxI:qR Tryz.prog 68 8 3 [RV.tmp 2] qAi:=fi Tryz.f68 [2,5,7] qll [] (by kernel_rfl) (by kernel_rfl) (by kernel_rfl) (by kernel_rfl)
def qvH:C:=
 ((C.ops [MC 2 (.bool false)]).seq ((C.ops [MV 3 0,MV 4 0,BI 5 .neq 3 4,MV 2 5]).seq
 C.ret))
theorem qw0:qR Tryz.prog 195 6 0 [RV.tmp 2] qvH:=fi Tryz.f195 [] qll [] (by kernel_rfl) (by kernel_rfl) (by kernel_rfl) (by kernel_rfl)
end
section
open Go Go.Proofs AF HY LN
namespace RC
set_option maxHeartbeats 8000000
def qrc (a b:Int):Int:=if a<b then-1 else if b<a then 1 else 0
theorem qCg (a:Int) (h:List AObj):ACalls Tryz.prog 195 [.int .i64 a] h (.bool false) h:=by
 have k:(a=a)=True:=eq_true rfl
 refine acO qw0 ?_
 simp (disch:=omega) only [qvH,List.replicate,k,go_sem]
 repeat' first
  |((first|apply qd|apply qb);exact rvk;simp only [go_sem];first|exact VLe.refl _|apply qe|apply qa|apply qf|skip)
  |with_reducible first|apply And.intro|intro _
 all_goals try exact clz
theorem qCN (a b:Int) (h:List AObj):ACalls Tryz.prog 141 [.int .i64 a,.int .i64 b] h (.int .i64 (qrc a b)) h:=by
 have c1:=fun h=>qCg a h
 have c2:=fun h=>qCg b h
 unfold qrc
 by_cases g1:a<b
 ·have k1:(a<b)=True:=eq_true g1
  rw [if_pos g1]
  refine acO qk5 ?_
  simp (disch:=omega) only [qor,List.replicate,k1,go_sem]
  repeat' first
   |((first|refine cA (c1 _) ?_ ?_|refine cG (fun e=>c1 _) ?_ ?_|refine cA (c2 _) ?_ ?_|refine cG (fun e=>c2 _) ?_ ?_|refine cU (fun _=>c1 _) ?_ ?_|refine cU (fun _=>c2 _) ?_ ?_);(next=>exact flk);simp (disch:=omega) only [k1,go_sem])
   |((first|apply qd|apply qb);exact rvk;simp only [go_sem];first|exact VLe.refl _|apply qe|apply qa|apply qf|skip)
   |with_reducible first|apply And.intro|intro _
  all_goals try exact clz
 have k1:(a<b)=False:=eq_false g1
 rw [if_neg g1]
 by_cases g2:b<a
 ·have k2:(b<a)=True:=eq_true g2
  rw [if_pos g2]
  refine acO qk5 ?_
  simp (disch:=omega) only [qor,List.replicate,k1,k2,go_sem]
  repeat' first
   |((first|refine cA (c1 _) ?_ ?_|refine cG (fun e=>c1 _) ?_ ?_|refine cA (c2 _) ?_ ?_|refine cG (fun e=>c2 _) ?_ ?_|refine cU (fun _=>c1 _) ?_ ?_|refine cU (fun _=>c2 _) ?_ ?_);(next=>exact flk);simp (disch:=omega) only [k1,k2,go_sem])
   |((first|apply qd|apply qb);exact rvk;simp only [go_sem];first|exact VLe.refl _|apply qe|apply qa|apply qf|skip)
   |with_reducible first|apply And.intro|intro _
  all_goals try exact clz
 ·have k2:(b<a)=False:=eq_false g2
  rw [if_neg g2]
  refine acO qk5 ?_
  simp (disch:=omega) only [qor,List.replicate,k1,k2,go_sem]
  repeat' first
   |((first|refine cA (c1 _) ?_ ?_|refine cG (fun e=>c1 _) ?_ ?_|refine cA (c2 _) ?_ ?_|refine cG (fun e=>c2 _) ?_ ?_|refine cU (fun _=>c1 _) ?_ ?_|refine cU (fun _=>c2 _) ?_ ?_);(next=>exact flk);simp (disch:=omega) only [k1,k2,go_sem])
   |((first|apply qd|apply qb);exact rvk;simp only [go_sem];first|exact VLe.refl _|apply qe|apply qa|apply qf|skip)
   |with_reducible first|apply And.intro|intro _
  all_goals try exact clz
end RC
end
section
namespace RC
variable {α : Type}
def qcT (lt:α→α→Bool) (x:α):List α→List α
 | []=> [x]
 |y::r=>if lt x y=true then y::qcT lt x r else x::y::r
def qeX (lt:α→α→Bool):List α→List α→List α
 |acc,[]=>acc
 |acc,x::r=>qeX lt (qcT lt x acc) r
def qvh (lt:α→α→Bool):Prop:= ∀a b c,lt a b=false→lt b c=false→lt a c=false
def Asy (lt:α→α→Bool):Prop:= ∀a b,lt a b=true→lt b a=false
def qu5 (lt:α→α→Bool) (l:List α):Prop:=l.Pairwise fun a b=>lt a b=false
theorem qpl {lt:α→α→Bool} {x:α}: ∀ {l:List α} {z:α},z∈qcT lt x l↔z=x∨z∈l:=by
 intro l
 induction l with
 |nil=>intro z;simp [qcT]
 |cons y r ih=>
  intro z
  unfold qcT
  split
  ·simp only [List.mem_cons,ih]
   constructor
   ·rintro (h|h|h)
    ·exact .inr (.inl h)
    ·exact .inl h
    ·exact .inr (.inr h)
   ·rintro (h|h|h)
    ·exact .inr (.inl h)
    ·exact .inl h
    ·exact .inr (.inr h)
  ·simp
theorem qcC {lt:α→α→Bool} (hn:qvh lt) (ha:Asy lt) {x:α}: ∀ {l:List α},qu5 lt l→qu5 lt (qcT lt x l):=by
 intro l
 induction l with
 |nil=>intro _;exact List.pairwise_singleton _ _
 |cons y r ih=>
  intro h
  obtain ⟨h1,h2⟩:=List.pairwise_cons.1 h
  unfold qcT
  by_cases g:lt x y=true
  ·rw [if_pos g]
   refine List.pairwise_cons.2 ⟨fun z hz=> ?_,ih h2⟩
   rcases qpl.1 hz with rfl|hz
   ·exact ha _ _ g
   ·exact h1 z hz
  ·rw [if_neg g]
   have g:lt x y=false:=by simpa using g
   refine List.pairwise_cons.2 ⟨fun z hz=> ?_,h⟩
   rcases List.mem_cons.1 hz with rfl|hz
   ·exact g
   ·exact hn _ _ _ g (h1 z hz)
theorem qlo {lt:α→α→Bool} {x:α} {l:List α} (h: ∀z∈l,lt x z=false):qcT lt x l=x::l:=by
 cases l with
 |nil=>rfl
 |cons y r=>
  unfold qcT
  rw [if_neg (by rw [h y (by simp)];simp)]
theorem qfI {lt:α→α→Bool} (hn:qvh lt) (p:α→Bool) (x:α): ∀ {l:List α},qu5 lt l→(qcT lt x l).filter p=if p x=true then qcT lt x (l.filter p) else l.filter p:=by
 intro l
 induction l with
 |nil=>intro _;unfold qcT;by_cases h:p x=true<;>simp [h,qcT]
 |cons y r ih=>
  intro h
  obtain ⟨h1,h2⟩:=List.pairwise_cons.1 h
  by_cases g:lt x y=true
  ·have e:qcT lt x (y::r)=y::qcT lt x r:=by rw [qcT,if_pos g]
   rw [e,List.filter_cons,List.filter_cons,ih h2]
   by_cases hy:p y=true
   ·rw [if_pos hy,if_pos hy]
    by_cases hx:p x=true
    ·rw [if_pos hx,if_pos hx,qcT,if_pos g]
    ·rw [if_neg hx,if_neg hx]
   ·rw [if_neg hy,if_neg hy]
  ·have e:qcT lt x (y::r)=x::y::r:=by rw [qcT,if_neg g]
   have g:lt x y=false:=by simpa using g
   rw [e]
   by_cases hx:p x=true
   ·rw [if_pos hx,List.filter_cons,if_pos hx,qlo]
    intro z hz
    rcases List.mem_cons.1 (List.mem_filter.1 hz).1 with rfl|hz
    ·exact g
    ·exact hn _ _ _ g (h1 z hz)
   ·rw [if_neg hx,List.filter_cons,if_neg hx]
theorem qeq {lt:α→α→Bool} (hn:qvh lt) (ha:Asy lt) (p:α→Bool): ∀(l acc:List α),qu5 lt acc→(qeX lt acc l).filter p=qeX lt (acc.filter p) (l.filter p):=by
 intro l
 induction l with
 |nil=>intro acc _;rfl
 |cons x r ih=>
  intro acc h
  rw [qeX,ih _ (qcC hn ha h),qfI hn p x h,List.filter_cons]
  by_cases hx:p x=true
  ·rw [if_pos hx,if_pos hx,qeX]
  ·rw [if_neg hx,if_neg hx]
theorem qeY {lt:α→α→Bool} (hn:qvh lt) (ha:Asy lt): ∀(l acc:List α),qu5 lt acc→qu5 lt (qeX lt acc l):=by
 intro l
 induction l with
 |nil=>intro acc h;exact h
 |cons x r ih=>intro acc h;exact ih _ (qcC hn ha h)
end RC
end
section
namespace RC
variable {α : Type}
end RC
end
section
open Go Go.Proofs AF HY LN
namespace RC
set_option maxHeartbeats 8000000
end RC
end
section
open Go Go.Proofs AF HY LN
namespace RC
set_option maxHeartbeats 8000000
end RC
end
section
open Go Go.Proofs AF HY LN
namespace RC
set_option maxHeartbeats 4000000
theorem qaT {a b:En}:qgx a b=true↔a.frm<b.frm∨a.frm=b.frm∧a.to<b.to:=by
 unfold qgx
 simp [Bool.or_eq_true,Bool.and_eq_true]
theorem qbo {a b:En}:qgx a b=false↔b.frm<a.frm∨a.frm=b.frm∧b.to≤a.to:=by
 have:= @qaT a b
 cases h:qgx a b with
 |true=>rw [h]at this;simp only [true_iff]at this;simp only [Bool.true_eq_false,false_iff];omega
 |false=>rw [h]at this;simp only [Bool.false_eq_true,false_iff]at this;simp only [true_iff];omega
theorem qgz:qvh qgx:=by
 intro a b c h1 h2
 rw [qbo]at*
 omega
theorem qgy:Asy qgx:=by
 intro a b h
 rw [qaT]at h
 rw [qbo]
 omega
def qvf (l:List En):List En:=(qeX qgx [] l).reverse
def qCZ (names:List Str) (gs:List Gr) (src:Int) (e:En):Bool:=decide (0≤vIx names gs e src)
def ofE (names:List Str) (gs:List Gr) (l:List En) (src:Int):List En:=(qvf l).filter (qCZ names gs src)
theorem qlp {α:Type} {lt:α→α→Bool} {x:α}: ∀l:List α,(qcT lt x l).Perm (x::l):=by
 intro l
 induction l with
 |nil=>exact List.Perm.refl _
 |cons y r ih=>
  unfold qcT
  split
  ·exact (List.Perm.cons y ih).trans (List.Perm.swap x y r)
  ·exact List.Perm.refl _
theorem qis {α:Type} {lt:α→α→Bool}: ∀l acc:List α,(qeX lt acc l).Perm (acc++l):=by
 intro l
 induction l with
 |nil=>intro acc;rw [List.append_nil];exact List.Perm.refl _
 |cons x r ih=>
  intro acc
  refine (ih _).trans ((List.Perm.append_right r (qlp acc)).trans ?_)
  exact (List.perm_middle (a:=x) (l₁:=acc) (l₂:=r)).symm
theorem qe0 (l:List En):(qvf l).Perm l:=(List.reverse_perm _).trans (by simpa using qis (lt:=qgx) l [])
theorem qf9 (l:List En):(qvf l).Pairwise fun a b=>qgx b a=false:=by
 unfold qvf
 rw [List.pairwise_reverse]
 exact qeY qgz qgy l [] List.Pairwise.nil
def qct (a b:En):Bool:=decide (b.frm<a.to)||decide (a.frm=b.frm)&&decide (a.to=b.to)
def qaj:List En→Bool
 |a::b::r=>qct a b||qaj (b::r)
 |_=>false
theorem qkq (L:List En):qaj L=true↔ ∃i,i+1<L.length∧qct (L.getD i default) (L.getD (i+1) default)=true:=by
 induction L with
 |nil=>simp [qaj]
 |cons a L ih=>
  cases L with
  |nil=>simp [qaj]
  |cons b r=>
   rw [qaj,Bool.or_eq_true,ih]
   constructor
   ·rintro (h|⟨i,h1,h2⟩)
    ·exact ⟨0,by simp,h⟩
    ·exact ⟨i+1,by simpa using h1,h2⟩
   ·rintro ⟨i,h1,h2⟩
    cases i with
    |zero=>exact .inl h2
    |succ i=>exact .inr ⟨i,by simpa using h1,h2⟩
def qgw (names:List Str) (gs:List Gr) (l:List En):Bool:=zH (fun s=>qaj (ofE names gs l (s:Int))) names.length
end RC
end
section
open Go Go.Proofs AF HY LN
namespace RC
set_option maxHeartbeats 4000000
def jp (L:List En):List AV:=L.flatMap enC
theorem qcv (e:En):(enC e).length=6:=rfl
theorem kU (L:List En):(jp L).length=L.length*6:=by
 unfold jp
 induction L with
 |nil=>rfl
 |cons a L ih=>rw [List.flatMap_cons,List.length_append,ih,List.length_cons,qcv];omega
theorem qdA (A B:List En):jp (A++B)=jp A++jp B:=by simp [jp]
theorem qgF (a:En):jp [a]=enC a:=by simp [jp]
theorem qep (L:List En): ∀i,(jp L).take (i*6)=jp (L.take i):=by
 induction L with
 |nil=>intro i;simp [jp]
 |cons a L ih=>
  intro i
  cases i with
  |zero=>simp [jp]
  |succ i=>
   have e:jp (a::L)=enC a++jp L:=rfl
   rw [List.take_succ_cons,e,List.take_append,qcv,show (i+1)*6-6=i*6 by omega,ih]
   rw [List.take_of_length_le (by rw [qcv];omega)]
   rfl
theorem qeo (L:List En): ∀i,(jp L).drop (i*6)=jp (L.drop i):=by
 induction L with
 |nil=>intro i;simp [jp]
 |cons a L ih=>
  intro i
  cases i with
  |zero=>simp
  |succ i=>
   have e:jp (a::L)=enC a++jp L:=rfl
   rw [List.drop_succ_cons,e,List.drop_append,qcv,show (i+1)*6-6=i*6 by omega,ih]
   rw [List.drop_eq_nil_of_le (by rw [qcv];omega)]
   rfl
theorem qb7 {L:List En} {i:Nat} (hi:i<L.length):((jp L).drop (i*6)).take 6=enC (L.getD i default):=by
 rw [qeo,List.drop_eq_getElem_cons hi,gdqA,zU hi]
 rfl
theorem qoR {L:List En} {i:Nat} (e:En) (hi:i<L.length):(jp L).take (i*6)++enC e++(jp L).drop (i*6+6)=jp (L.set i e):=by
 rw [List.set_eq_take_append_cons_drop,if_pos hi,show i*6+6=(i+1)*6 by omega,qep,qeo,qdA]
 rw [show e::List.drop (i+1) L= [e]++List.drop (i+1) L from rfl,qdA,qgF,List.append_assoc]
theorem qo6 (L:List En):((List.range L.length).flatMap fun i=>enC (L.getD i default))=jp L:=by
 unfold jp
 have e:L=(List.range L.length).map fun i=>L.getD i default:=by
  apply List.ext_getElem (by simp)
  intro i h1 h2
  simp [gdqA,h1]
 conv=>rhs;rw [e]
 rw [List.flatMap_map]
theorem qm3 (h:List AObj) (L:List En):qs h (jm L)=some (L.length,jp L):=by
 show some (L.length,_)=_
 rw [qo6]
theorem qgE (L:List En) (n:Nat): ∀c∈jp L,jf n c=true:=by
 intro c hc
 unfold jp at hc
 obtain ⟨x,_,hx⟩:=List.mem_flatMap.1 hc
 unfold enC at hx
 simp only [List.mem_cons,List.not_mem_nil,or_false]at hx
 rcases hx with rfl|rfl|rfl|rfl|rfl|rfl<;>rfl
end RC
end
section
open Go Go.Proofs AF HY LN
namespace RC
set_option maxHeartbeats 4000000
theorem qc4 {a:En} {r:List En} (h:qaj (a::r)=false):qaj r=false:=by
 cases r with
 |nil=>rfl
 |cons b r=>rw [qaj,Bool.or_eq_false_iff]at h;exact h.2
theorem qna {L:List En} (hs:L.Pairwise fun a b=>qgx b a=false) (hc:qaj L=false):L.Pairwise fun a b=>qgx a b=true:=by
 induction L with
 |nil=>exact List.Pairwise.nil
 |cons a r ih=>
  obtain ⟨h1,h2⟩:=List.pairwise_cons.1 hs
  have h3:=ih h2 (qc4 hc)
  refine List.pairwise_cons.2 ⟨?_,h3⟩
  cases r with
  |nil=>intro z hz;cases hz
  |cons b r=>
   have hab:qgx a b=true:=by
    rw [qaj,Bool.or_eq_false_iff]at hc
    have h5:=hc.1
    unfold qct at h5
    rw [Bool.or_eq_false_iff,Bool.and_eq_false_imp,decide_eq_false_iff_not,decide_eq_true_iff,decide_eq_false_iff_not]at h5
    have h4:=h1 b (by simp)
    rw [qbo]at h4
    rw [qaT]
    obtain ⟨h5,h6⟩:=h5
    by_cases e:a.frm=b.frm
    ·have:=h6 e;omega
    ·omega
   intro z hz
   rcases List.mem_cons.1 hz with rfl|hz
   ·exact hab
   ·have h6:=(List.pairwise_cons.1 h3).1 z hz
    rw [qaT]at*
    omega
theorem qoC {L:List En} (hc:qaj L=false) {i:Nat} (hi:i+1<L.length):(L.getD i default).to≤(L.getD (i+1) default).frm:=by
 cases h:qct (L.getD i default) (L.getD (i+1) default)with
 |true=>rw [(qkq L).2 ⟨i,hi,h⟩]at hc;cases hc
 |false=>
  unfold qct at h
  rw [Bool.or_eq_false_iff,decide_eq_false_iff_not]at h
  omega
theorem qh5 (names:List Str) (gs:List Gr) (l:List En) (src:Int):(ofE names gs l src).Pairwise fun a b=>qgx b a=false:=List.Pairwise.filter _ (qf9 l)
theorem qaE {names:List Str} {gs:List Gr} {l:List En} (h:qgw names gs l=false) {s:Nat} (hs:s<names.length):qaj (ofE names gs l (s:Int))=false:=
 qo.1 h s hs
structure qu3 (names:List Str) (gs:List Gr) (t:List Str) (l:List En):Prop where
 sg:sgE names gs=0
 n:l.length≤4096
 ck: ∀e∈l,qAq names gs t e=0
 cl:qgw names gs l=false
structure qz6 (names:List Str) (gs:List Gr) (t:List Str) (e:En):Prop where
 sg:sgE names gs=0
 tn:t.length≤4096
 tw:qnV t=0
 lay:0≤e.layer∧e.layer<16
 rng:0≤e.frm∧e.frm≤e.to∧e.to≤t.length
 sp:0<e.sup.length→e.pos=true
 ne:e.vars.length≠0
 va: ∀i,i<e.vars.length→qqV t e i=0
 es:qkO names gs e.sup=0
 ev: ∀i,i<e.vars.length→qkO names gs (e.vars.getD i default).sigla=0
 tc:(qi4 names gs e e.vars.length).2=false
theorem qkp {names:List Str} {gs:List Gr} {t:List Str} {e:En}:qAq names gs t e=0↔qz6 names gs t e:=by
 unfold qAq
 constructor
 ·intro h
  split at h
  ·cases h
  rename_i h1
  split at h
  ·cases h
  rename_i h2
  split at h
  ·cases h
  rename_i h3
  split at h
  ·cases h
  rename_i h4
  split at h
  ·cases h
  rename_i h5
  split at h
  ·cases h
  rename_i h6
  split at h
  ·rename_i h7;exact absurd h h7
  rename_i h7
  split at h
  ·rename_i h8;exact absurd h h8
  rename_i h8
  split at h
  ·rename_i h9;exact absurd h h9
  rename_i h9
  split at h
  ·cases h
  rename_i h10
  unfold qvc at h4
  refine ⟨Classical.not_not.1 h1,by omega,Classical.not_not.1 h3,by omega,by omega,fun h=> ?_,h6,km.1 (Classical.not_not.1 h7),Classical.not_not.1 h8,km.1 (Classical.not_not.1 h9),?_⟩
  ·cases hp:e.pos with
   |true=>rfl
   |false=>exact absurd ⟨h,hp⟩ h5
  ·rw [qd9]at h10
   simpa using h10
 ·rintro ⟨h1,h2,h3,h4,h5,h6,h7,h8,h9,h10,h11⟩
  have hr: ¬qvc t e:=by unfold qvc;omega
  rw [if_neg (fun hc=>hc h1),if_neg (by omega),if_neg (fun hc=>hc h3),if_neg hr,if_neg (by rintro ⟨a,b⟩;rw [h6 a]at b;cases b),if_neg h7,if_neg (fun hc=>hc (zN (f:=qqV t e) h8)),if_neg (fun hc=>hc h9),
   if_neg (fun hc=>hc (zN (f:=fun i=>qkO names gs (e.vars.getD i default).sigla) h10)),if_neg (by rw [qd9,h11];simp)]
end RC
end
section
open Go Go.Proofs AF HY LN
namespace RC
set_option maxHeartbeats 8000000
section
variable {k v w : Nat} {h : List AObj} {o o' : AObj} {ty : TypeId} {cs : List AV}
theorem cellsOf_setm (hk:k<h.length):cellsOf (qJ k h (.mem w ty cs)) k v=if w=v then some cs else none:=by
 have:=qcr (l:= []) (v:=v) (w:=w) (ty:=ty) (cs:=cs) hk
 simpa using this
theorem setO_setm:qJ k (qJ k h o) o'=qJ k h o':=qeV
theorem tyOf_setm (hk:k<h.length):qqH (qF k (qJ k h (.mem w ty cs)))=ty:=by rw [qa2 hk];rfl
end
attribute [go_sem] cellsOf_setm setO_setm tyOf_setm
theorem qpt {k v:Nat} {h:List AObj} {ty:TypeId} {cs:List AV} (hl: ∀n,∀c∈cs,jf n c=true): ∀o∈qJ k h (.mem v ty cs),o∈h∨qaa h.length o:=by
 intro o ho
 rcases qgR ho with h1|rfl
 ·exact .inl h1
 ·exact .inr (fun c hc=>hl _ c hc)
end RC
end
section
open Go Go.Proofs AF HY LN
namespace AF
theorem Wk.cells {t:List AV} {h:List AObj} {j v:Nat} {ty:TypeId} {cs cs':List AV} (hj:qF j h=some (.mem v ty cs)) (hc:qbm cs cs'):Wk t h t (qJ j h (.mem v ty cs')):=by
 intro N w σ a H
 have hjl:j<σ.length:=by rw [H.hr.len];exact jn hj
 have ho:=zU hjl
 obtain ⟨m1,m2,b,arr,m3,m4,m5,m6,m7,m8⟩:=H.hr.obj j _ _ hj ho
 have q:=H.hr.recell (cs':=cs') hj ho m3 m4 m5 (by rw [hc.length];exact m6) (fun i x hi hx=>m7 i x (by rw [←hc.length];exact hi) hx) (fun i c x hi hx=>by
  obtain ⟨c0,h1,h2⟩:=hc.get i c hi
  exact h2 _ _ _ (m8 i c0 x h1 hx))
 exact ⟨σ,⟨q,H.sz,H.tm,H.df⟩,Ext.refl _ _⟩
end AF
namespace RC
set_option maxHeartbeats 4000000
theorem qls {L:List En} (h:L≠ []):valP (.isnil .slice false) [jm L]= .bool false:=by
 unfold jm
 rw [qbh,if_neg (by simpa using h)]
 rfl
theorem qCK (h:List AObj):ACalls Tryz.prog 68 [jm []] h (jm []) h:=by
 have s1:=fun h=>qm3 h []
 have z0:valP (.isnil .slice false) [jm []]= .anyb:=rfl
 have z1:okP (.isnil .slice false) [jm []]=True:=eq_true trivial
 have e0:jp []= []:=rfl
 refine acO qxI ?_
 simp (disch:=omega) only [qAi,List.replicate,s1,z0,z1,e0,go_sem]
 repeat' first
  |((first|apply qd|apply qb);exact rvk;simp only [go_sem];first|exact VLe.refl _|apply qe|apply qa|apply qf|skip)
  |with_reducible first|apply And.intro|intro _
 all_goals try exact clz
 ·exact kq
 ·rfl
 ·exact VLe.sl_eq rfl (fun i hi=>absurd hi (by simp))
theorem qCJ (L:List En) (h:List AObj) (k:Nat) (hk:qK h k=true) (h0:L≠ []) (hl:L.length≤1000000):
  ACalls Tryz.prog 68 [jm L] h (.osl k (qu (qF k h)+1) 6 0 L.length) (qJ k h (.mem (qu (qF k h)+1) 58 (jp L))):=by
 have s1:=fun h=>qm3 h L
 have eP:=kU L
 have hp:=List.length_pos_iff.2 h0
 have z0:=qls h0
 have z1:okP (.isnil .slice false) [jm L]=True:=eq_true trivial
 refine qr1 qxI k (by simp) ?_
 simp only [List.length_cons,List.length_nil,Nat.reduceAdd,Nat.reduceSub,List.replicate,List.cons_append,List.nil_append,List.append_nil]
 simp (disch:=omega) only [qAi,s1,z0,z1,go_sem]
 repeat' first
  |(with_reducible apply And.intro)
  |(with_reducible intro _)
 all_goals first
  |omega
  |contradiction
  |skip
 ·rfl
 exact ⟨h.length+1,2,6,0,L.length,58,jp L,_,⟨trivial,trivial⟩,rfl,rfl,by omega,by simp only [go_sem],qgE L _,hk,rfl,rfl⟩
end RC
end
section
open Go Go.Proofs AF HY LN
namespace RC
set_option maxHeartbeats 4000000
def stV (names:List Str) (gs:List Gr) (e:En):AV:= .sl e.vars.length fun j=> [qp (qc9 names gs (e.vars.getD j default).sigla)]
def msV (names:List Str) (gs:List Gr) (L:List En):AV:= .sl L.length fun i=> [stV names gs (L.getD i default)]
theorem qo2 (names:List Str) (gs:List Gr) (e:En):(stV names gs e).flag=true:=rfl
theorem qng (names:List Str) (gs:List Gr) (e:En):(stV names gs e).strip=stV names gs e:=rfl
theorem qo0 (names:List Str) (gs:List Gr) (L:List En):(msV names gs L).flag=true:=rfl
theorem qne (names:List Str) (gs:List Gr) (L:List En):(msV names gs L).strip=msV names gs L:=rfl
theorem qto {fz:Nat→Bool} {h:List AObj} {n:Nat} (names:List Str) (gs:List Gr) (e:En):frz fz h (n+1) (stV names gs e)=stV names gs e:=rfl
theorem qug {fz:Nat→Bool} {h:List AObj} {n:Nat} (names:List Str) (gs:List Gr) (e:En):rei fz h (n+1) (stV names gs e)=stV names gs e:=rfl
theorem qtn {fz:Nat→Bool} {h:List AObj} {n:Nat} (names:List Str) (gs:List Gr) (L:List En):frz fz h (n+1) (msV names gs L)=msV names gs L:=rfl
theorem quf {fz:Nat→Bool} {h:List AObj} {n:Nat} (names:List Str) (gs:List Gr) (L:List En):rei fz h (n+1) (msV names gs L)=msV names gs L:=rfl
attribute [go_sem] qo2 qng qo0 qne qto qug qtn quf
end RC
end
section
open Go Go.Proofs AF HY LN
namespace AF
theorem qaQ {P:Program} {f:FuncId} {cap:List AV} {xs:List (List AV)} (hf:qu1 P f cap xs) {ps:List Nat} {b:Nat} {x y:C} {Q:Ex→Nx} {ts:List AV} {h:List AObj} (hps: ∀a∈xs,a.length=ps.length)
  (S:Nat→List AObj→Prop) (E:Ex→List AObj→Prop) (hS: ∀i hh,S i hh→LowI h hh) (hE: ∀s hh,E s hh→LowI h hh)
  (start:S 0 h) (hts: ∀c∈ts,jf (h.length+1) c=true)
  (body: ∀i hh tl L TS,(hi:i<xs.length)→S i hh→hh.length=h.length→ ∀(K:Nx) (K2:Ex→Nx),
   (∀t2 X hm,X=hm++ .lp .ready TS L::tl→hm.length=h.length→q9 P b y K2 t2 (hm++ .lp .busy TS L::tl)→K t2 X)→
   (∀t3 X hh',X=hh'++ .lp .busy TS L::tl→hh'.length=h.length→S (i+1) hh'→K2 .normal t3 X)→
   (∀t3 X hh',X=hh'++ .lp .busy TS L::tl→hh'.length=h.length→E .ret hh'→K2 .ret t3 X)→
   (∀id t3 X hh',X=hh'++ .lp .busy TS L::tl→hh'.length=h.length→E (.exit id) hh'→K2 (.exit id) t3 X)→
   q9 P b x (Ex.andThen K (fun _ _ _=>False)) (qb4 ts ps (xs[i])) (hh++ .lp .ready TS L::tl))
  (done: ∀hh,S xs.length hh→Q .normal ts hh) (doneE: ∀e hh,E e hh→match e with
   | .normal=>False
   |e=>Q e ts hh):
  qeO P (.fn (.func f) [] cap) ps (q9 P b x) (q9 P b y) Q ts h:=by
 intro L hy
 show jA _ _ _ _ _
 have key:=hf h ts L S (fun s hh=>match s with
  | .ret=>E .ret hh
  | .exit id=>E (.exit id) hh
  |_=>False) hS
  (by
   intro s hh hs
   cases s with
   |ret=>exact hE _ _ hs
   |exit id=>exact hE _ _ hs
   |ready=>exact hs.elim
   |busy=>exact hs.elim)
  (by
   intro i hh tl hi i4
   have hlen:=(hS _ _ i4).1
   refine hy h.length ts _ _ _ (kw hlen) (hps _ (List.getElem_mem hi)) ?_
   refine qas (Q:=Ex.andThen (fun t2 h2=> ∃hm,hm.length=h.length∧h2=hm++ .lp .ready ts L::tl∧
    q9 P b y (fun e t3 h3=> ∃hh',h3=hh'++ .lp .busy ts L::tl∧hh'.length=h.length∧match e with
     | .normal=>S (i+1) hh'
     | .ret=>E .ret hh'
     | .exit id=>E (.exit id) hh') t2 (hm++ .lp .busy ts L::tl)) (fun _ _ _=>False)) ?_
    (body i hh tl L ts hi i4 hlen _ _ (fun t2 X hm e1 e2 e3=>⟨hm,e2,e1,e3⟩) (fun t3 X hh' e1 e2 e3=>⟨hh',e1,e2,e3⟩) (fun t3 X hh' e1 e2 e3=>⟨hh',e1,e2,e3⟩) (fun id t3 X hh' e1 e2 e3=>⟨hh',e1,e2,e3⟩))
   intro e t2 h2 hq
   cases e with
   |ret=>exact hq.elim
   |exit id=>exact hq.elim
   |normal=>
    obtain ⟨hm,hml,rfl,h3⟩:=hq
    refine ⟨rfl,⟨ts,kw hml⟩,fun ts' hts'=> ?_⟩
    rw [kw hml]at hts'
    cases hts'
    rw [qbX hml]
    refine qas ?_ h3
    rintro e t3 h3' ⟨hh',rfl,g1,g2⟩
    refine ⟨ts,kw g1,?_⟩
    cases e with
    |normal=>exact ⟨hh',.inl ⟨rfl,g2,qbX g1⟩⟩
    |ret=>exact ⟨hh',.inr ⟨.ret,rfl,g2,qbX g1⟩⟩
    |exit id=>exact ⟨hh',.inr ⟨.exit id,rfl,g2,qbX g1⟩⟩)
  start hts
 refine key.le (qbm.refl _) ?_
 rintro v h' ⟨hh,⟨g1,rfl⟩|⟨s,g1,rfl⟩⟩
 ·have hl:=hS _ _ g1
  exact ⟨v,VLe.refl _,hh,.ready,ts,L,rfl,hl.1,fun o ho=>(hl.2 o ho).imp (fun h=>h) And.left,done hh g1⟩
 ·cases s with
  |ready=>exact g1.elim
  |busy=>exact g1.elim
  |ret=>
   have hl:=hE _ _ g1
   exact ⟨v,VLe.refl _,hh,.ret,ts,L,rfl,hl.1,fun o ho=>(hl.2 o ho).imp (fun h=>h) And.left,doneE _ _ g1⟩
  |exit id=>
   have hl:=hE _ _ g1
   exact ⟨v,VLe.refl _,hh,.exit id,ts,L,rfl,hl.1,fun o ho=>(hl.2 o ho).imp (fun h=>h) And.left,doneE _ _ g1⟩
end AF
namespace RC
set_option maxHeartbeats 4000000
theorem qdI (n:Nat) (L:List Str):jf n (strs L)=true:=rfl
end RC
end
section
open Go Go.Proofs AF HY LN
namespace AF
theorem Wk.ownNil {t:List AV} {h:List AObj} {j v i k ve sz:Nat} {ty:TypeId} {cs:List AV} (hj:qF j h=some (.mem v ty cs)) (hi:cs[i]? =some .nl) (hk:qF k h=some (.emp ve)):
  Wk t h t (qJ j h (.mem v ty (cs.set i (.osl k ve sz 0 0)))):=by
 intro N w σ a H
 have hjl:j<σ.length:=by rw [H.hr.len];exact jn hj
 have hkl:k<σ.length:=by rw [H.hr.len];exact jn hk
 have ho:=zU hjl
 have hok:=zU hkl
 obtain ⟨e1,e2⟩:=H.hr.obj k _ _ hk hok
 obtain ⟨m1,m2,b,arr,m3,m4,m5,m6,m7,m8⟩:=H.hr.obj j _ _ hj ho
 have q:=H.hr.recell (cs':=cs.set i (.osl k ve sz 0 0)) hj ho m3 m4 m5 (by simpa using m6) (fun n x hn hx=>m7 n x (by simpa using hn) hx) (fun n c x hn hx=>by
  rw [List.getElem?_set]at hn
  split at hn
  ·rename_i e
   subst e
   split at hn
   ·cases hn
    have hv:=m8 i _ x hi hx
    cases hv with
    |imm hv=>
     cases hv
     exact .osl _ hok ⟨none,0,0,rfl⟩ (Nat.le_of_eq e1.symm) (fun _=> .inl ⟨e2,rfl,rfl,rfl⟩)
   ·cases hn
  ·exact m8 n c x hn hx)
 exact ⟨σ,⟨q,H.sz,H.tm,H.df⟩,Ext.refl _ _⟩
end AF
namespace RC
set_option maxHeartbeats 4000000
structure qCu (t:List Str) (L:List En):Prop where
 rg: ∀i,i<L.length→0≤(L.getD i default).frm∧(L.getD i default).frm≤(L.getD i default).to∧(L.getD i default).to≤t.length
 nx: ∀i,i+1<L.length→(L.getD i default).to≤(L.getD (i+1) default).frm
theorem qtM {names:List Str} {gs:List Gr} {l:List En} {src:Int} {e:En} (h:e∈ofE names gs l src):e∈l:=(qe0 l).subset (List.mem_filter.1 h).1
theorem qcA {L:List En} {i:Nat} (hi:i<L.length):L.getD i default∈L:=by
 rw [gdqA,zU hi]
 exact List.getElem_mem hi
theorem qu3.tx {names:List Str} {gs:List Gr} {t:List Str} {l:List En} (h:qu3 names gs t l) {s:Nat} (hs:s<names.length):qCu t (ofE names gs l (s:Int)):=
 ⟨fun i hi=>(qkp.1 (h.ck _ (qtM (qcA hi)))).rng,fun i hi=>qoC (qaE h.cl hs) hi⟩
end RC
end
section
open Go Go.Proofs AF HY LN
namespace RC
set_option maxHeartbeats 4000000
structure CSz (names:List Str) (gs:List Gr) (t:List Str) (l:List En):Prop where
 hz:Szs names gs
 ht:TSz t
 tn:t.length≤1000
 ln:l.length≤10
 nn:names.length≤1000
 gm: ∀i,(gs.getD i default).mem.length≤1000
 he: ∀i,ESz (l.getD i default)
 vl: ∀i,(l.getD i default).vars.length≤1000
 sg: ∀i j,((l.getD i default).vars.getD j default).sigla.length≤1000
 wl: ∀i j,((l.getD i default).vars.getD j default).words.length≤1000
 sp: ∀i,(l.getD i default).sup.length≤1000
def quu (L:List (List Str)):AV:= .sl L.length fun i=> [strs (L.getD i [])]
theorem qhQ (L:List (List Str)):(quu L).flag=true:=rfl
theorem qgf (L:List (List Str)):(quu L).strip=quu L:=rfl
attribute [go_sem] qhQ qgf
theorem kk (L:List Str):(jG L).length=L.length:=by simp [jG]
theorem qcg (L M:List Str):jG (L++M)=jG L++jG M:=by simp [jG]
theorem qqw {L:List Str}:jG L= []↔L= []:=by simp [jG]
theorem qqy {L:List Str} {n:Nat} (g:AV→AV) (hg: ∀s,g (.str s)= .str s) (hn:n=L.length):VLe (.sl n fun i=>(((jG L).drop i).take 1).map g) (strs L):=by
 subst hn
 refine VLe.sl_eq rfl (fun i hi=> ?_)
 unfold jG
 rw [←List.map_drop,List.drop_eq_getElem_cons hi,List.map_cons,List.take_succ_cons,List.take_zero,List.map_cons,List.map_nil,hg,gdqA,zU hi]
 rfl
theorem qo8 {α β:Type} (f:α→β) (L:List α):L.flatMap (fun i=> [f i])=L.map f:=by
 induction L with
 |nil=>rfl
 |cons a L ih=>rw [List.flatMap_cons,ih];rfl
theorem qm4 (h:List AObj) {t:List Str} {a b:Nat} (h1:a≤b) (h2:b≤t.length):qs h (.sl (b-a) fun i=> [.str (t.getD (a+i) [])])=some (b-a,jG (qch t a b)):=by
 show some (b-a,(List.range (b-a)).flatMap fun i=> [AV.str (t.getD (a+i) [])])=_
 rw [qo8 (fun i=>AV.str (t.getD (a+i) []))]
 congr 2
 unfold jG qch
 apply List.ext_getElem
 ·simp;omega
 ·intro i g1 g2
  have hi:i<b-a:=by simpa using g1
  have hl:a+i<t.length:=by omega
  simp [gdqA,hl]
theorem qqv (h:List AObj) (t:List Str):qs h (strs t)=some (t.length,jG t):=by
 have:=qm4 h (t:=t) (a:=0) (b:=t.length) (Nat.zero_le _) (Nat.le_refl _)
 simp only [Nat.sub_zero,Nat.zero_add]at this
 have e:qch t 0 t.length=t:=by simp [qch]
 rw [e]at this
 exact this
end RC
end
section
open Go Go.Proofs AF HY LN
namespace RC
set_option maxHeartbeats 8000000
def gwB (ws:List Str) (n:Nat):Bool:=zH (fun i=>decide (20<(ws.getD i []).length)) ws.length||decide (n<ws.length)
theorem ju {p:Nat→Bool} {i:Nat} (h: ∀j,j<i→p j=false) (hp:p i=false): ∀j,j<i+1→p j=false:=by
 intro j hj
 by_cases e:j=i
 ·subst e;exact hp
 ·exact h j (by omega)
theorem gwP (ws:List Str) (n:Nat) (h:List AObj) (hn:ws.length≤9223372036854775807):ACalls Tryz.prog 70 [strs ws,.int .i64 n] h (.bool (gwB ws n)) h:=by
 obtain ⟨R,hR⟩: ∃R,R=gwB ws n:=⟨_,rfl⟩
 rw [←hR]
 unfold gwB at hR
 refine acO qAI ?_
 simp (disch:=omega) only [qBZ,List.replicate,strs,go_sem]
 repeat' first
  |((first|apply qd|apply qb);exact rvk;simp only [go_sem];first|exact VLe.refl _|apply qe|apply qa|apply qf|skip)
  |with_reducible first|apply And.intro|intro _
 all_goals try exact clz
 refine qt (T:=fun i:Nat=>qY 22 [(0,strs ws),(1,.int .i64 n),(5,.int .i64 i)]) (H:=fun _=>h) (inv:=fun i=>i≤ws.length∧ ∀j,j<i→(fun i=>decide (20<(ws.getD i []).length)) j=false) (m:=fun i=>ws.length-i) 0 ⟨Nat.zero_le _,fun j hj=>by omega⟩ (Wk.temps ?_) ?_
 ·(simp only [strs,List.replicate,go_sem,qk,qi,qg,qj];try (repeat' first|(with_reducible apply And.intro)|(apply qe;omega)|(apply qa;rfl)|exact VLe.refl _))
 rintro i ⟨i1,i2⟩ K hK
 by_cases hi:i<ws.length
 ·have k1:((i:Int)<ws.length)=True:=eq_true (by omega)
  by_cases g:20<(ws.getD i []).length
  ·have hV:R=true:=by rw [hR,qL.2 ⟨i,hi,decide_eq_true g⟩];rfl
   obtain ⟨s,hs⟩: ∃s,s=ws.getD i []:=⟨_,rfl⟩
   have es:=hs.symm
   rw [es]at g
   have k2:((20:Int)<s.length)=True:=eq_true (by omega)
   rw [hV]
   simp (disch:=omega) only [List.replicate,strs,k1,k2,es,go_sem]
   repeat' first
    |((first|apply qd|apply qb);exact rvk;simp only [go_sem];first|exact VLe.refl _|apply qe|apply qa|apply qf|skip)
    |with_reducible first|apply And.intro|intro _
   all_goals try exact clz
  ·have i3:=ju i2 (decide_eq_false g)
   obtain ⟨s,hs⟩: ∃s,s=ws.getD i []:=⟨_,rfl⟩
   have es:=hs.symm
   rw [es]at g
   have k2:((20:Int)<s.length)=False:=eq_false (by omega)
   simp (disch:=omega) only [List.replicate,strs,k1,k2,es,go_sem]
   repeat' first
    |((first|apply qd|apply qb);exact rvk;simp only [go_sem];first|exact VLe.refl _|apply qe|apply qa|apply qf|skip)
    |with_reducible first|apply And.intro|intro _
   all_goals try exact clz
   refine hK _ _ (i+1) ⟨hi,i3⟩ (by omega) (Wk.temps ?_)
   (simp only [strs,List.replicate,go_sem,qk,qi,qg,qj];try (repeat' first|(with_reducible apply And.intro)|(apply qe;omega)|(apply qa;rfl)|exact VLe.refl _))
 ·have k1:((i:Int)<ws.length)=False:=eq_false (by omega)
  rw [qo.2 (fun j hj=>i2 j (by omega)),Bool.false_or]at hR
  have e:decide ((n:Int)<ws.length)=R:=by rw [hR];exact decide_eq_decide.2 (by omega)
  simp (disch:=omega) only [List.replicate,strs,k1,go_sem]
  repeat' first
   |((first|apply qd|apply qb);exact rvk;simp only [go_sem];first|exact VLe.refl _|apply qe|apply qa|apply qf|skip)
   |with_reducible first|apply And.intro|intro _
  all_goals try exact clz
structure EnB (e:En):Prop where
 v:e.vars.length≤9223372036854775807
 s:e.sup.length≤9223372036854775807
 w: ∀i,(e.vars.getD i default).words.length≤9223372036854775807
 g: ∀i,(e.vars.getD i default).sigla.length≤9223372036854775807
end RC
end
section
open Go Go.Proofs AF HY LN
namespace RC
set_option maxHeartbeats 8000000
def grB (g:Gr):Bool:=decide (20<g.name.length)||decide (40<g.mem.length)
def qlb (names:List Str) (gs:List Gr):Bool:=
 zH (fun i=>decide (20<(names.getD i []).length)) names.length||(zH (fun i=>grB (gs.getD i default)) gs.length||
  (((decide (8<names.length)&&decide (names.length≤32))||decide (34<names.length))||(decide (5<gs.length)&&decide (gs.length≤16))||decide (18<gs.length)))
theorem qCW (names:List Str) (gs:List Gr) (h:List AObj) (hn:names.length≤9223372036854775807) (hg:gs.length≤9223372036854775807):ACalls Tryz.prog 69 [strs names,qG gs] h (.bool (qlb names gs)) h:=by
 obtain ⟨R,hR⟩: ∃R,R=qlb names gs:=⟨_,rfl⟩
 rw [←hR]
 unfold qlb at hR
 refine acO qAH ?_
 simp (disch:=omega) only [qBY,List.replicate,strs,qG,go_sem]
 repeat' first
  |((first|apply qd|apply qb);exact rvk;simp only [go_sem];first|exact VLe.refl _|apply qe|apply qa|apply qf|skip)
  |with_reducible first|apply And.intro|intro _
 all_goals try exact clz
 refine qt (T:=fun i:Nat=>qY 69 [(0,strs names),(1,qG gs),(5,.int .i64 i)]) (H:=fun _=>h) (inv:=fun i=>i≤names.length∧ ∀j,j<i→(fun i=>decide (20<(names.getD i []).length)) j=false) (m:=fun i=>names.length-i) 0 ⟨Nat.zero_le _,fun j hj=>by omega⟩ (Wk.temps ?_) ?_
 ·(simp only [strs,qG,List.replicate,go_sem,qk,qi,qg,qj];try (repeat' first|(with_reducible apply And.intro)|(apply qe;omega)|(apply qa;rfl)|exact VLe.refl _))
 rintro i ⟨i1,i2⟩ K hK
 by_cases hi:i<names.length
 ·have k1:((i:Int)<names.length)=True:=eq_true (by omega)
  by_cases g:20<(names.getD i []).length
  ·have hV:R=true:=by rw [hR,qL.2 ⟨i,hi,decide_eq_true g⟩];rfl
   obtain ⟨s,hs⟩: ∃s,s=names.getD i []:=⟨_,rfl⟩
   have es:=hs.symm
   rw [es]at g
   have k2:((20:Int)<s.length)=True:=eq_true (by omega)
   rw [hV]
   simp (disch:=omega) only [List.replicate,strs,qG,k1,k2,es,go_sem]
   repeat' first
    |((first|apply qd|apply qb);exact rvk;simp only [go_sem];first|exact VLe.refl _|apply qe|apply qa|apply qf|skip)
    |with_reducible first|apply And.intro|intro _
   all_goals try exact clz
  ·have i3:=ju i2 (decide_eq_false g)
   obtain ⟨s,hs⟩: ∃s,s=names.getD i []:=⟨_,rfl⟩
   have es:=hs.symm
   rw [es]at g
   have k2:((20:Int)<s.length)=False:=eq_false (by omega)
   simp (disch:=omega) only [List.replicate,strs,qG,k1,k2,es,go_sem]
   repeat' first
    |((first|apply qd|apply qb);exact rvk;simp only [go_sem];first|exact VLe.refl _|apply qe|apply qa|apply qf|skip)
    |with_reducible first|apply And.intro|intro _
   all_goals try exact clz
   refine hK _ _ (i+1) ⟨hi,i3⟩ (by omega) (Wk.temps ?_)
   (simp only [strs,qG,List.replicate,go_sem,qk,qi,qg,qj];try (repeat' first|(with_reducible apply And.intro)|(apply qe;omega)|(apply qa;rfl)|exact VLe.refl _))
 have k1:((i:Int)<names.length)=False:=eq_false (by omega)
 rw [qo.2 (fun j hj=>i2 j (by omega)),Bool.false_or]at hR
 simp (disch:=omega) only [List.replicate,strs,qG,k1,go_sem]
 repeat' first
  |((first|apply qd|apply qb);exact rvk;simp only [go_sem];first|exact VLe.refl _|apply qe|apply qa|apply qf|skip)
  |with_reducible first|apply And.intro|intro _
 all_goals try exact clz
 refine qt (T:=fun i:Nat=>qY 69 [(0,strs names),(1,qG gs),(6,.int .i64 i)]) (H:=fun _=>h) (inv:=fun i=>i≤gs.length∧ ∀j,j<i→(fun i=>grB (gs.getD i default)) j=false) (m:=fun i=>gs.length-i) 0 ⟨Nat.zero_le _,fun j hj=>by omega⟩ (Wk.temps ?_) ?_
 ·(simp only [strs,qG,List.replicate,go_sem,qk,qi,qg,qj];try (repeat' first|(with_reducible apply And.intro)|(apply qe;omega)|(apply qa;rfl)|exact VLe.refl _))
 clear hK K
 rintro i ⟨i1,i2⟩ K hK
 by_cases hi:i<gs.length
 ·have k1:((i:Int)<gs.length)=True:=eq_true (by omega)
  have hit:grB (gs.getD i default)=true→R=true:=fun hc=>by rw [hR,qL.2 ⟨i,hi,hc⟩];rfl
  have i3:=fun hc=>ju (p:=fun i=>grB (gs.getD i default)) i2 hc
  obtain ⟨g,hg⟩: ∃g,g=gs.getD i default:=⟨_,rfl⟩
  have eg:=hg.symm
  simp only [eg]at hit i3
  have hB:grB g=(decide (20<g.name.length)||decide (40<g.mem.length)):=rfl
  by_cases g1:20<g.name.length
  ·have k2:((20:Int)<g.name.length)=True:=eq_true (by omega)
   rw [hit (by rw [hB,decide_eq_true g1];rfl)]
   simp (disch:=omega) only [List.replicate,strs,qG,grC,k1,k2,eg,go_sem]
   repeat' first
    |((first|apply qd|apply qb);exact rvk;simp only [go_sem];first|exact VLe.refl _|apply qe|apply qa|apply qf|skip)
    |with_reducible first|apply And.intro|intro _
   all_goals try exact clz
  ·have k2:((20:Int)<g.name.length)=False:=eq_false (by omega)
   by_cases g2:40<g.mem.length
   ·have k3:((40:Int)<g.mem.length)=True:=eq_true (by omega)
    rw [hit (by rw [hB,decide_eq_true g2,Bool.or_true])]
    simp (disch:=omega) only [List.replicate,strs,qG,grC,qp,k1,k2,k3,eg,go_sem]
    repeat' first
     |((first|apply qd|apply qb);exact rvk;simp only [go_sem];first|exact VLe.refl _|apply qe|apply qa|apply qf|skip)
     |with_reducible first|apply And.intro|intro _
    all_goals try exact clz
   ·have k3:((40:Int)<g.mem.length)=False:=eq_false (by omega)
    simp (disch:=omega) only [List.replicate,strs,qG,grC,qp,k1,k2,k3,eg,go_sem]
    repeat' first
     |((first|apply qd|apply qb);exact rvk;simp only [go_sem];first|exact VLe.refl _|apply qe|apply qa|apply qf|skip)
     |with_reducible first|apply And.intro|intro _
    all_goals try exact clz
    refine hK _ _ (i+1) ⟨hi,i3 (by rw [hB,decide_eq_false g1,decide_eq_false g2];rfl)⟩ (by omega) (Wk.temps ?_)
    (simp only [strs,qG,List.replicate,go_sem,qk,qi,qg,qj];try (repeat' first|(with_reducible apply And.intro)|(apply qe;omega)|(apply qa;rfl)|exact VLe.refl _))
 have k2:((i:Int)<gs.length)=False:=eq_false (by omega)
 rw [qo.2 (fun j hj=>i2 j (by omega)),Bool.false_or]at hR
 have n1:((8:Int)<names.length)=(8<names.length):=propext (by omega)
 have n2:((names.length:Int)≤32)=(names.length≤32):=propext (by omega)
 have n3:((34:Int)<names.length)=(34<names.length):=propext (by omega)
 have n4:((5:Int)<gs.length)=(5<gs.length):=propext (by omega)
 have n5:((gs.length:Int)≤16)=(gs.length≤16):=propext (by omega)
 have n6:((18:Int)<gs.length)=(18<gs.length):=propext (by omega)
 obtain ⟨q1,h1⟩: ∃q,q=decide (8<names.length):=⟨_,rfl⟩
 obtain ⟨q2,h2⟩: ∃q,q=decide (names.length≤32):=⟨_,rfl⟩
 obtain ⟨q3,h3⟩: ∃q,q=decide (34<names.length):=⟨_,rfl⟩
 obtain ⟨q4,h4⟩: ∃q,q=decide (5<gs.length):=⟨_,rfl⟩
 obtain ⟨q5,h5⟩: ∃q,q=decide (gs.length≤16):=⟨_,rfl⟩
 obtain ⟨q6,h6⟩: ∃q,q=decide (18<gs.length):=⟨_,rfl⟩
 have e1:=h1.symm
 have e2:=h2.symm
 have e3:=h3.symm
 have e4:=h4.symm
 have e5:=h5.symm
 have e6:=h6.symm
 rw [e1,e2,e3,e4,e5,e6]at hR
 have b1:(q1=true∧q2=true)∨(q1=false∧q2=true)∨(q1=true∧q2=false)∨(q1=false∧q2=false):=by cases q1<;>cases q2<;>simp
 have b4:(q4=true∧q5=true)∨(q4=false∧q5=true)∨(q4=true∧q5=false)∨(q4=false∧q5=false):=by cases q4<;>cases q5<;>simp
 clear h1 h2 h3 h4 h5 h6
 rcases b1 with ⟨rfl,rfl⟩|⟨rfl,rfl⟩|⟨rfl,rfl⟩|⟨rfl,rfl⟩
 ·skip
  simp only [Bool.true_and,Bool.false_and,Bool.true_or,Bool.false_or]at hR
  rw [hR]
  simp (disch:=omega) only [List.replicate,strs,qG,k2,n1,n2,n3,n4,n5,n6,e1,e2,e3,e4,e5,e6,go_sem]
  repeat' first
   |((first|apply qd|apply qb);exact rvk;simp only [go_sem];first|exact VLe.refl _|apply qe|apply qa|apply qf|skip)
   |with_reducible first|apply And.intro|intro _
  all_goals try exact clz
 ·skip
  cases q3 with
  |true=>
   simp only [Bool.true_and,Bool.false_and,Bool.true_or,Bool.false_or]at hR
   rw [hR]
   simp (disch:=omega) only [List.replicate,strs,qG,k2,n1,n2,n3,n4,n5,n6,e1,e2,e3,e4,e5,e6,go_sem]
   repeat' first
    |((first|apply qd|apply qb);exact rvk;simp only [go_sem];first|exact VLe.refl _|apply qe|apply qa|apply qf|skip)
    |with_reducible first|apply And.intro|intro _
   all_goals try exact clz
  |false=>
   rcases b4 with ⟨rfl,rfl⟩|⟨rfl,rfl⟩|⟨rfl,rfl⟩|⟨rfl,rfl⟩
   ·skip
    simp only [Bool.true_and,Bool.false_and,Bool.true_or,Bool.false_or]at hR
    rw [hR]
    simp (disch:=omega) only [List.replicate,strs,qG,k2,n1,n2,n3,n4,n5,n6,e1,e2,e3,e4,e5,e6,go_sem]
    repeat' first
     |((first|apply qd|apply qb);exact rvk;simp only [go_sem];first|exact VLe.refl _|apply qe|apply qa|apply qf|skip)
     |with_reducible first|apply And.intro|intro _
    all_goals try exact clz
   ·skip
    cases q6 with
    |true=>
     simp only [Bool.true_and,Bool.false_and,Bool.true_or,Bool.false_or]at hR
     rw [hR]
     simp (disch:=omega) only [List.replicate,strs,qG,k2,n1,n2,n3,n4,n5,n6,e1,e2,e3,e4,e5,e6,go_sem]
     repeat' first
      |((first|apply qd|apply qb);exact rvk;simp only [go_sem];first|exact VLe.refl _|apply qe|apply qa|apply qf|skip)
      |with_reducible first|apply And.intro|intro _
     all_goals try exact clz
    |false=>
     simp only [Bool.true_and,Bool.false_and,Bool.true_or,Bool.false_or]at hR
     rw [hR]
     simp (disch:=omega) only [List.replicate,strs,qG,k2,n1,n2,n3,n4,n5,n6,e1,e2,e3,e4,e5,e6,go_sem]
     repeat' first
      |((first|apply qd|apply qb);exact rvk;simp only [go_sem];first|exact VLe.refl _|apply qe|apply qa|apply qf|skip)
      |with_reducible first|apply And.intro|intro _
     all_goals try exact clz
   ·skip
    cases q6 with
    |true=>
     simp only [Bool.true_and,Bool.false_and,Bool.true_or,Bool.false_or]at hR
     rw [hR]
     simp (disch:=omega) only [List.replicate,strs,qG,k2,n1,n2,n3,n4,n5,n6,e1,e2,e3,e4,e5,e6,go_sem]
     repeat' first
      |((first|apply qd|apply qb);exact rvk;simp only [go_sem];first|exact VLe.refl _|apply qe|apply qa|apply qf|skip)
      |with_reducible first|apply And.intro|intro _
     all_goals try exact clz
    |false=>
     simp only [Bool.true_and,Bool.false_and,Bool.true_or,Bool.false_or]at hR
     rw [hR]
     simp (disch:=omega) only [List.replicate,strs,qG,k2,n1,n2,n3,n4,n5,n6,e1,e2,e3,e4,e5,e6,go_sem]
     repeat' first
      |((first|apply qd|apply qb);exact rvk;simp only [go_sem];first|exact VLe.refl _|apply qe|apply qa|apply qf|skip)
      |with_reducible first|apply And.intro|intro _
     all_goals try exact clz
   ·skip
    cases q6 with
    |true=>
     simp only [Bool.true_and,Bool.false_and,Bool.true_or,Bool.false_or]at hR
     rw [hR]
     simp (disch:=omega) only [List.replicate,strs,qG,k2,n1,n2,n3,n4,n5,n6,e1,e2,e3,e4,e5,e6,go_sem]
     repeat' first
      |((first|apply qd|apply qb);exact rvk;simp only [go_sem];first|exact VLe.refl _|apply qe|apply qa|apply qf|skip)
      |with_reducible first|apply And.intro|intro _
     all_goals try exact clz
    |false=>
     simp only [Bool.true_and,Bool.false_and,Bool.true_or,Bool.false_or]at hR
     rw [hR]
     simp (disch:=omega) only [List.replicate,strs,qG,k2,n1,n2,n3,n4,n5,n6,e1,e2,e3,e4,e5,e6,go_sem]
     repeat' first
      |((first|apply qd|apply qb);exact rvk;simp only [go_sem];first|exact VLe.refl _|apply qe|apply qa|apply qf|skip)
      |with_reducible first|apply And.intro|intro _
     all_goals try exact clz
 ·skip
  cases q3 with
  |true=>
   simp only [Bool.true_and,Bool.false_and,Bool.true_or,Bool.false_or]at hR
   rw [hR]
   simp (disch:=omega) only [List.replicate,strs,qG,k2,n1,n2,n3,n4,n5,n6,e1,e2,e3,e4,e5,e6,go_sem]
   repeat' first
    |((first|apply qd|apply qb);exact rvk;simp only [go_sem];first|exact VLe.refl _|apply qe|apply qa|apply qf|skip)
    |with_reducible first|apply And.intro|intro _
   all_goals try exact clz
  |false=>
   rcases b4 with ⟨rfl,rfl⟩|⟨rfl,rfl⟩|⟨rfl,rfl⟩|⟨rfl,rfl⟩
   ·skip
    simp only [Bool.true_and,Bool.false_and,Bool.true_or,Bool.false_or]at hR
    rw [hR]
    simp (disch:=omega) only [List.replicate,strs,qG,k2,n1,n2,n3,n4,n5,n6,e1,e2,e3,e4,e5,e6,go_sem]
    repeat' first
     |((first|apply qd|apply qb);exact rvk;simp only [go_sem];first|exact VLe.refl _|apply qe|apply qa|apply qf|skip)
     |with_reducible first|apply And.intro|intro _
    all_goals try exact clz
   ·skip
    cases q6 with
    |true=>
     simp only [Bool.true_and,Bool.false_and,Bool.true_or,Bool.false_or]at hR
     rw [hR]
     simp (disch:=omega) only [List.replicate,strs,qG,k2,n1,n2,n3,n4,n5,n6,e1,e2,e3,e4,e5,e6,go_sem]
     repeat' first
      |((first|apply qd|apply qb);exact rvk;simp only [go_sem];first|exact VLe.refl _|apply qe|apply qa|apply qf|skip)
      |with_reducible first|apply And.intro|intro _
     all_goals try exact clz
    |false=>
     simp only [Bool.true_and,Bool.false_and,Bool.true_or,Bool.false_or]at hR
     rw [hR]
     simp (disch:=omega) only [List.replicate,strs,qG,k2,n1,n2,n3,n4,n5,n6,e1,e2,e3,e4,e5,e6,go_sem]
     repeat' first
      |((first|apply qd|apply qb);exact rvk;simp only [go_sem];first|exact VLe.refl _|apply qe|apply qa|apply qf|skip)
      |with_reducible first|apply And.intro|intro _
     all_goals try exact clz
   ·skip
    cases q6 with
    |true=>
     simp only [Bool.true_and,Bool.false_and,Bool.true_or,Bool.false_or]at hR
     rw [hR]
     simp (disch:=omega) only [List.replicate,strs,qG,k2,n1,n2,n3,n4,n5,n6,e1,e2,e3,e4,e5,e6,go_sem]
     repeat' first
      |((first|apply qd|apply qb);exact rvk;simp only [go_sem];first|exact VLe.refl _|apply qe|apply qa|apply qf|skip)
      |with_reducible first|apply And.intro|intro _
     all_goals try exact clz
    |false=>
     simp only [Bool.true_and,Bool.false_and,Bool.true_or,Bool.false_or]at hR
     rw [hR]
     simp (disch:=omega) only [List.replicate,strs,qG,k2,n1,n2,n3,n4,n5,n6,e1,e2,e3,e4,e5,e6,go_sem]
     repeat' first
      |((first|apply qd|apply qb);exact rvk;simp only [go_sem];first|exact VLe.refl _|apply qe|apply qa|apply qf|skip)
      |with_reducible first|apply And.intro|intro _
     all_goals try exact clz
   ·skip
    cases q6 with
    |true=>
     simp only [Bool.true_and,Bool.false_and,Bool.true_or,Bool.false_or]at hR
     rw [hR]
     simp (disch:=omega) only [List.replicate,strs,qG,k2,n1,n2,n3,n4,n5,n6,e1,e2,e3,e4,e5,e6,go_sem]
     repeat' first
      |((first|apply qd|apply qb);exact rvk;simp only [go_sem];first|exact VLe.refl _|apply qe|apply qa|apply qf|skip)
      |with_reducible first|apply And.intro|intro _
     all_goals try exact clz
    |false=>
     simp only [Bool.true_and,Bool.false_and,Bool.true_or,Bool.false_or]at hR
     rw [hR]
     simp (disch:=omega) only [List.replicate,strs,qG,k2,n1,n2,n3,n4,n5,n6,e1,e2,e3,e4,e5,e6,go_sem]
     repeat' first
      |((first|apply qd|apply qb);exact rvk;simp only [go_sem];first|exact VLe.refl _|apply qe|apply qa|apply qf|skip)
      |with_reducible first|apply And.intro|intro _
     all_goals try exact clz
 ·skip
  cases q3 with
  |true=>
   simp only [Bool.true_and,Bool.false_and,Bool.true_or,Bool.false_or]at hR
   rw [hR]
   simp (disch:=omega) only [List.replicate,strs,qG,k2,n1,n2,n3,n4,n5,n6,e1,e2,e3,e4,e5,e6,go_sem]
   repeat' first
    |((first|apply qd|apply qb);exact rvk;simp only [go_sem];first|exact VLe.refl _|apply qe|apply qa|apply qf|skip)
    |with_reducible first|apply And.intro|intro _
   all_goals try exact clz
  |false=>
   rcases b4 with ⟨rfl,rfl⟩|⟨rfl,rfl⟩|⟨rfl,rfl⟩|⟨rfl,rfl⟩
   ·skip
    simp only [Bool.true_and,Bool.false_and,Bool.true_or,Bool.false_or]at hR
    rw [hR]
    simp (disch:=omega) only [List.replicate,strs,qG,k2,n1,n2,n3,n4,n5,n6,e1,e2,e3,e4,e5,e6,go_sem]
    repeat' first
     |((first|apply qd|apply qb);exact rvk;simp only [go_sem];first|exact VLe.refl _|apply qe|apply qa|apply qf|skip)
     |with_reducible first|apply And.intro|intro _
    all_goals try exact clz
   ·skip
    cases q6 with
    |true=>
     simp only [Bool.true_and,Bool.false_and,Bool.true_or,Bool.false_or]at hR
     rw [hR]
     simp (disch:=omega) only [List.replicate,strs,qG,k2,n1,n2,n3,n4,n5,n6,e1,e2,e3,e4,e5,e6,go_sem]
     repeat' first
      |((first|apply qd|apply qb);exact rvk;simp only [go_sem];first|exact VLe.refl _|apply qe|apply qa|apply qf|skip)
      |with_reducible first|apply And.intro|intro _
     all_goals try exact clz
    |false=>
     simp only [Bool.true_and,Bool.false_and,Bool.true_or,Bool.false_or]at hR
     rw [hR]
     simp (disch:=omega) only [List.replicate,strs,qG,k2,n1,n2,n3,n4,n5,n6,e1,e2,e3,e4,e5,e6,go_sem]
     repeat' first
      |((first|apply qd|apply qb);exact rvk;simp only [go_sem];first|exact VLe.refl _|apply qe|apply qa|apply qf|skip)
      |with_reducible first|apply And.intro|intro _
     all_goals try exact clz
   ·skip
    cases q6 with
    |true=>
     simp only [Bool.true_and,Bool.false_and,Bool.true_or,Bool.false_or]at hR
     rw [hR]
     simp (disch:=omega) only [List.replicate,strs,qG,k2,n1,n2,n3,n4,n5,n6,e1,e2,e3,e4,e5,e6,go_sem]
     repeat' first
      |((first|apply qd|apply qb);exact rvk;simp only [go_sem];first|exact VLe.refl _|apply qe|apply qa|apply qf|skip)
      |with_reducible first|apply And.intro|intro _
     all_goals try exact clz
    |false=>
     simp only [Bool.true_and,Bool.false_and,Bool.true_or,Bool.false_or]at hR
     rw [hR]
     simp (disch:=omega) only [List.replicate,strs,qG,k2,n1,n2,n3,n4,n5,n6,e1,e2,e3,e4,e5,e6,go_sem]
     repeat' first
      |((first|apply qd|apply qb);exact rvk;simp only [go_sem];first|exact VLe.refl _|apply qe|apply qa|apply qf|skip)
      |with_reducible first|apply And.intro|intro _
     all_goals try exact clz
   ·skip
    cases q6 with
    |true=>
     simp only [Bool.true_and,Bool.false_and,Bool.true_or,Bool.false_or]at hR
     rw [hR]
     simp (disch:=omega) only [List.replicate,strs,qG,k2,n1,n2,n3,n4,n5,n6,e1,e2,e3,e4,e5,e6,go_sem]
     repeat' first
      |((first|apply qd|apply qb);exact rvk;simp only [go_sem];first|exact VLe.refl _|apply qe|apply qa|apply qf|skip)
      |with_reducible first|apply And.intro|intro _
     all_goals try exact clz
    |false=>
     simp only [Bool.true_and,Bool.false_and,Bool.true_or,Bool.false_or]at hR
     rw [hR]
     simp (disch:=omega) only [List.replicate,strs,qG,k2,n1,n2,n3,n4,n5,n6,e1,e2,e3,e4,e5,e6,go_sem]
     repeat' first
      |((first|apply qd|apply qb);exact rvk;simp only [go_sem];first|exact VLe.refl _|apply qe|apply qa|apply qf|skip)
      |with_reducible first|apply And.intro|intro _
     all_goals try exact clz
structure CB (names:List Str) (gs:List Gr) (t:List Str) (l:List En):Prop where
 hn:names.length≤9223372036854775807
 hg:gs.length≤9223372036854775807
 ht:t.length≤9223372036854775807
 hl:l.length≤9223372036854775807
 he: ∀i,EnB (l.getD i default)
theorem qrG {ws:List Str} {n:Nat} (h:gwB ws n=false):ws.length≤n∧ ∀i,(ws.getD i []).length≤20:=by
 unfold gwB at h
 rw [Bool.or_eq_false_iff,decide_eq_false_iff_not,qo]at h
 refine ⟨by omega,fun i=> ?_⟩
 by_cases hi:i<ws.length
 ·have:=of_decide_eq_false (h.1 i hi)
  omega
 ·rw [gdqA,List.getElem?_eq_none (by omega)]
  exact Nat.zero_le _
theorem qtr {names:List Str} {gs:List Gr} (h:qlb names gs=false):names.length≤34∧gs.length≤18∧(∀i,(names.getD i []).length≤20)∧ ∀i,(gs.getD i default).name.length≤20∧(gs.getD i default).mem.length≤40:=by
 unfold qlb at h
 simp only [Bool.or_eq_false_iff,decide_eq_false_iff_not,qo]at h
 obtain ⟨h1,h2,⟨⟨_,h3⟩,_⟩,h4⟩:=h
 refine ⟨by omega,by omega,fun i=> ?_,fun i=> ?_⟩
 ·by_cases hi:i<names.length
  ·have:=h1 i hi
   omega
  ·rw [gdqA,List.getElem?_eq_none (by omega)]
   exact Nat.zero_le _
 ·by_cases hi:i<gs.length
  ·have:=h2 i hi
   unfold grB at this
   simp only [Bool.or_eq_false_iff,decide_eq_false_iff_not]at this
   omega
  ·rw [gdqA,List.getElem?_eq_none (by omega)]
   exact ⟨Nat.zero_le _,Nat.zero_le _⟩
end RC
end
section
open Go Go.Proofs AF HY LN
namespace AF
theorem qax {v:Nat} {ty:TypeId} {cs:List AV} {n:Nat} (h: ∀c∈cs,jf n c=true):qaa n (ja v ty cs):=by
 unfold ja
 split
 ·trivial
 ·exact h
end AF
namespace RC
set_option maxHeartbeats 8000000
theorem qir (L:List Str):(strs L).solid=true:=rfl
theorem qhA (L:List Str):(strs L).cells= [strs L]:=rfl
theorem qfc {k v z p n:Nat} (L:List Str):qbJ (.osl k v z p n) (strs L)=true:=rfl
attribute [go_sem] qir qhA qfc
theorem qdT {v:Nat} {L:List Str} {g:AV→AV} {n:Nat} (hg: ∀s,g (.str s)= .str s) (hn:n=L.length):VLe (qdn (some (ja v 9 (jG L))) v 1 0 n g) (strs L):=by
 subst hn
 by_cases h:L= []
 ·subst h
  show VLe (qdn (some (.emp v)) v 1 0 0 g) _
  rw [slOf_emp,if_pos rfl]
  exact kq
 ·have e0:ja v 9 (jG L)= .mem v 9 (jG L):=jD (fun e=>h (qqw.1 e))
  rw [e0,slOf_mem,if_pos ⟨rfl,by rw [kk];omega⟩]
  simp only [Nat.zero_add,Nat.mul_one]
  exact qqy g hg rfl
end RC
end
section
open Go Go.Proofs AF HY LN
namespace AF
theorem Wk.fzCell {t:List AV} {h:List AObj} {j k i v:Nat} {ty:TypeId} {cs:List AV} {c c':AV} (hj:qF j h=some (.mem v ty cs)) (hi:cs[i]? =some c) (hs:qK h k=true) (hne:j≠k) (hc:VLe (frz (fun b=> [k].contains b) h 8 c) c'):
  Wk t h t (qJ j (qJ k h (.emp (qu (qF k h)+1))) (.mem v ty (cs.set i c'))):=by
 intro N w σ a H
 have hs':kY [k] h=true:=by simp [kY,hs]
 obtain ⟨σ',g1,g2,g3,g4⟩:=qcF [k] H.hr hs'
 have hn:j∉ [k]:=by simp [hne]
 have frzv: ∀c x,VR w σ c x→VR w σ' (frz (fun b=> [k].contains b) h 8 c) x:=fun c x hx=>
  qgL H.hr (fun b hb=>(g4 b hb).elim fun j ⟨o,h1,h2,h3⟩=>⟨j,o,by simpa using h1,h2,h3⟩) (fun j o hj ho=>g3 j o (by simpa using hj) ho) 8 hx
 have hjl:j<σ.length:=by rw [H.hr.len];exact jn hj
 have ho:=zU hjl
 obtain ⟨m1,m2,b,arr,m3,m4,m5,m6,m7,m8⟩:=H.hr.obj j _ _ hj ho
 have q:=g1.recell (cs':=cs.set i c') ((qpq hn).trans hj) (g3 j _ hn ho) m3 m4 m5 (by simpa using m6) (fun n x hn hx=>m7 n x (by simpa using hn) hx) (fun n d x hd hx=>by
  rw [List.getElem?_set]at hd
  split at hd
  ·rename_i e
   subst e
   split at hd
   ·cases hd;exact hc _ _ _ (frzv _ x (m8 i _ x hi hx))
   ·cases hd
  ·exact (m8 n d x hd hx).ext g2)
 exact ⟨σ',⟨q,H.sz,fun n d x hd hx=>(H.tm n d x hd hx).ext g2,qaI g2 H.df⟩,g2⟩
theorem qa0 {h:List AObj} {k ve sz off n:Nat}:frz (fun b=> [k].contains b) h 8 (.osl k ve sz off n)=qdn (qF k h) ve sz off n (rei (fun b=> [k].contains b) h 7):=by
 rw [frz_osl,if_pos (by simp),rei_osl,if_pos (by simp)]
end AF
namespace RC
set_option maxHeartbeats 8000000
theorem qip (L:List Gr):(qG L).solid=true:=rfl
theorem qhy (L:List Gr):(qG L).cells= [qG L]:=rfl
theorem qio (L:List En):(jm L).solid=true:=rfl
theorem qhx (L:List En):(jm L).cells= [jm L]:=rfl
theorem qmW (names:List Str) (gs:List Gr) (e:En):(stV names gs e).solid=true:=rfl
theorem qkl (names:List Str) (gs:List Gr) (e:En):(stV names gs e).cells= [stV names gs e]:=rfl
theorem qmU (names:List Str) (gs:List Gr) (L:List En):(msV names gs L).solid=true:=rfl
theorem qkj (names:List Str) (gs:List Gr) (L:List En):(msV names gs L).cells= [msV names gs L]:=rfl
theorem qf1 (L:List Int):(qp L).solid=true:=rfl
theorem qfy (L:List Int):(qp L).cells= [qp L]:=rfl
attribute [go_sem] qip qhy qio qhx qmW qkl qmU qkj qf1 qfy
theorem qqk {v n:Nat} {ty:TypeId} {L:List En} {fz:Nat→Bool} {h:List AObj} {d:Nat} (hn:n=L.length):VLe (qdn (some (.mem v ty (jp L))) v 6 0 n (rei fz h (d+1))) (jm L):=by
 subst hn
 rw [slOf_mem,if_pos ⟨rfl,by rw [kU];omega⟩]
 refine VLe.sl_eq rfl (fun i hi=> ?_)
 simp only [Nat.zero_add]
 rw [qb7 hi]
 rfl
structure RSt where
 i:Nat
 v:Nat
 O4:AObj
 O5:AObj
 O6:AObj
 O7:AObj
 O9:AObj
end RC
end
section
open Go Go.Proofs AF HY LN
namespace RC
set_option maxHeartbeats 8000000
section
variable (names : List Str) (gs : List Gr) (t : List Str) (l : List En) (src : Int) (h : List AObj)
theorem qcf {v n:Nat} {L:List Int} {g:AV→AV} (hg: ∀s,g (.int .i64 s)= .int .i64 s) (hn:n=L.length):VLe (qdn (some (ja v 3 (qT L))) v 1 0 n g) (qp L):=by
 subst hn
 by_cases h:L= []
 ·subst h
  show VLe (qdn (some (.emp v)) v 1 0 0 g) _
  rw [slOf_emp,if_pos rfl]
  exact kq
 ·have e0:ja v 3 (qT L)= .mem v 3 (qT L):=jD (fun e=>h (qez.1 e))
  rw [e0,slOf_mem,if_pos ⟨rfl,by rw [zY];omega⟩]
  simp only [Nat.zero_add,Nat.mul_one]
  exact qeA g hg rfl
end
end RC
end
section
open Go Go.Proofs AF HY LN
namespace RC
set_option maxHeartbeats 8000000
end RC
end
section
open Go Go.Proofs AF HY LN
namespace RC
set_option maxHeartbeats 8000000
section
variable (names : List Str) (gs : List Gr) (t : List Str) (l : List En) (src : Int) (h : List AObj)
end
end RC
end
section
open Go Go.Proofs AF HY LN
namespace RC
set_option maxHeartbeats 8000000
end RC
end
section
open Go Go.Proofs AF HY LN
namespace RC
set_option maxHeartbeats 8000000
end RC
end
section
open Go Go.Proofs AF HY LN
namespace RC
set_option maxHeartbeats 8000000
end RC
end
section
open Go Go.Proofs AF HY LN
namespace RC
set_option maxHeartbeats 8000000
end RC
namespace RC
set_option maxHeartbeats 8000000
end RC
end
section
open Go Go.Proofs AF HY LN
namespace AF
structure qu4 (E:AV) (n:Nat) (cs:List AV):Prop where
 fl:E.flag=true
 st:E.strip=E
 vl: ∀g,valL g .len [E]= .int .i64 n
 ok: ∀g,okL g .len [E]=True
 sc: ∀g,qs g E=some (n,cs)
 ap: ∀k v z p m,qbJ (.osl k v z p m) E=true
theorem qu4.sl (n:Nat) (f:Nat→List AV):qu4 (.sl n f) n ((List.range n).flatMap f):=⟨rfl,rfl,fun _=>rfl,fun _=>eq_true trivial,fun _=>rfl,fun _ _ _ _ _=>rfl⟩
structure Src (h:List AObj) (e:AV) (n:Nat) (cs:List AV):Prop where
 flag:e.flag=true
 strip:e.strip=e
 lenOk: ∀X,okL (h++X) .len [e]=True
 len: ∀X,valL (h++X) .len [e]= .int .i64 n
 cells: ∀X,qs (h++X) e=some (n,cs)
 apart: ∀k v z p m,h.length≤k→qbJ (.osl k v z p m) e=true
theorem qCY {P:Program} {f:FuncId} {args:List AV} {h h':List AObj} {r:AV} (ks:List Nat) (hs:kY ks h=true) (hc:ACalls P f (args.map (frz (fun k=>ks.contains k) h 8)) (qdG ks h) r h'):ACalls P f args h r h':=by
 refine ⟨hc.1,fun w σ xs H hv=> ?_⟩
 obtain ⟨σ',g1,g2,g3,g4⟩:=qcF ks H hs
 refine (hc.2 w σ' xs g1 ⟨by rw [hv.1];simp,fun i c x hcc hx=> ?_⟩).mono ?_
 ·rw [List.getElem?_map,Option.map_eq_some_iff]at hcc
  obtain ⟨c0,hcc,rfl⟩:=hcc
  exact qgL H (fun b hb=>(g4 b hb).elim fun j ⟨o,h1,h2,h3⟩=>⟨j,o,by simpa using h1,h2,h3⟩) (fun j o hj ho=>g3 j o (by simpa using hj) ho) 8 (hv.2 i c0 x hcc hx)
 ·rintro e w' ⟨v,σ2,rfl,k1,k2,k3⟩
  exact ⟨v,σ2,rfl,k1,k2,g2.trans k3⟩
end AF
namespace RC
set_option maxHeartbeats 8000000
theorem qu4.strs (L:List Str):qu4 (strs L) L.length (jG L):=⟨rfl,rfl,fun _=>rfl,fun _=>eq_true trivial,fun g=>qqv g L,fun _ _ _ _ _=>rfl⟩
theorem qu4.sub {t:List Str} {a b:Nat} (h1:a≤b) (h2:b≤t.length):qu4 (.sl (b-a) fun i=> [.str (t.getD (a+i) [])]) (qch t a b).length (jG (qch t a b)):=by
 rw [qhd h1 h2]
 exact ⟨rfl,rfl,fun _=>rfl,fun _=>eq_true trivial,fun g=>qm4 g h1 h2,fun _ _ _ _ _=>rfl⟩
end RC
end
section
open Go Go.Proofs AF HY LN
namespace RC
set_option maxHeartbeats 8000000
end RC
end
section
open Go Go.Proofs AF HY LN
namespace RC
set_option maxHeartbeats 16000000
end RC
end
section
open Go Go.Proofs AF HY LN
namespace RC
set_option maxHeartbeats 8000000
def anN (a b:Nat):Nat:=a&&&(2^64-1-b)
theorem qq5 (a b:Nat):anN a b≤a:=Nat.and_le_left
theorem qgv {a b:Nat} (ha:a<2^64) (hb:b<2^64):qfb .u64 (a:Int) (b:Int)=((anN a b:Nat):Int):=by
 have hab:=qq5 a b
 unfold qfb
 rw [show IntKind.bits IntKind.u64=64 from rfl,ky,ky,BitVec.toNat_and,BitVec.toNat_not,BitVec.toNat_ofNat,BitVec.toNat_ofNat,Nat.mod_eq_of_lt ha,Nat.mod_eq_of_lt hb]
 exact qbi (Int.natCast_nonneg _) (by unfold anN at hab;omega)
def qnZ (n:Nat):Nat:=(kR n.testBit 64).length
theorem qCh (n:Nat) (h:List AObj) (hn:n<256):ACalls Tryz.prog 199 [.int .u64 (n:Int)] h (.int .i64 (qnZ n)) h:=by
 refine acO qw3 ?_
 simp (disch:=omega) only [qvK,List.replicate,go_sem]
 repeat' first
  |((first|apply qd|apply qb);exact rvk;simp only [go_sem];first|exact VLe.refl _|apply qe|apply qa|apply qf|skip)
  |with_reducible first|apply And.intro|intro _
 all_goals try exact clz
 clear h
 revert n
 decide+kernel
def qn0 (names:List Str) (gs:List Gr) (set:List Int):Int:=if sgE names gs=0 then qik names.length set else 1
theorem qDo (names:List Str) (gs:List Gr) (set:List Int) (h:List AObj) (hz:Szs names gs) (hs:set.length≤1000000000):ACalls Tryz.prog 196 [strs names,qG gs,qp set] h (.int .i64 (qn0 names gs set)) h:=by
 have c59:=fun h=>sgP names gs h hz
 have c92:=fun h=>qCi set names.length h hs
 have zl: ∀g,valL g .len [strs names]= .int .i64 names.length:=fun _=>rfl
 have zo: ∀g,okL g .len [strs names]=True:=fun _=>eq_true trivial
 unfold qn0
 by_cases g:sgE names gs=0
 ·rw [if_pos g]
  simp only [g]at c59
  refine acO qrq ?_
  simp (disch:=omega) only [qst,List.replicate,zl,zo,go_sem]
  repeat' first
   |((first|refine cA (c59 _) ?_ ?_|refine cG (fun e=>c59 _) ?_ ?_|refine cA (c92 _) ?_ ?_|refine cG (fun e=>c92 _) ?_ ?_|refine cU (fun _=>c59 _) ?_ ?_|refine cU (fun _=>c92 _) ?_ ?_);(next=>exact flk);simp (disch:=omega) only [zl,zo,go_sem])
   |((first|apply qd|apply qb);exact rvk;simp only [go_sem];first|exact VLe.refl _|apply qe|apply qa|apply qf|skip)
   |with_reducible first|apply And.intro|intro _
  all_goals try exact clz
 ·rw [if_neg g]
  have k:(sgE names gs=0)=False:=eq_false g
  refine acO qrq ?_
  simp (disch:=omega) only [qst,List.replicate,zl,zo,k,go_sem]
  repeat' first
   |((first|refine cA (c59 _) ?_ ?_|refine cG (fun e=>c59 _) ?_ ?_|refine cA (c92 _) ?_ ?_|refine cG (fun e=>c92 _) ?_ ?_|refine cU (fun _=>c59 _) ?_ ?_|refine cU (fun _=>c92 _) ?_ ?_);(next=>exact flk);simp (disch:=omega) only [zl,zo,k,go_sem])
   |((first|apply qd|apply qb);exact rvk;simp only [go_sem];first|exact VLe.refl _|apply qe|apply qa|apply qf|skip)
   |with_reducible first|apply And.intro|intro _
  all_goals try exact clz
theorem qtv {names:List Str} {gs:List Gr} (h:sgE names gs=0) (i:Nat):inB 64 (gs.getD i default).mem:=by
 have h:=qg8 h
 by_cases hi:i<gs.length
 ·intro j hj
  have:=(qf0 (qlg h hi)).1 j hj
  have:=h.n32
  omega
 ·rw [gdqA,List.getElem?_eq_none (by omega)]
  intro j hj
  exact absurd hj (by simp [show (default:Gr).mem= []from rfl])
def qq2 (gs:List Gr) (all:Nat) (i:Nat):Bool:=decide (anN (qb3 (gs.getD i default).mem) all=0)
def qd4 (gs:List Gr) (all:Nat):List Int:=kR (qq2 gs all) gs.length
theorem qDz (gs:List Gr) (all:Nat) (h:List AObj) (hg:gs.length≤1000000) (hm: ∀i,inB 64 (gs.getD i default).mem) (hl: ∀i,(gs.getD i default).mem.length≤1000000000) (ha:all<2^64):ACalls Tryz.prog 197 [qG gs,.int .u64 (all:Int)] h (qp (qd4 gs all)) h:=by
 unfold qd4
 have zl: ∀g,valL g .len [qG gs]= .int .i64 gs.length:=fun _=>rfl
 have zo: ∀g,okL g .len [qG gs]=True:=fun _=>eq_true trivial
 refine acO qw1 ?_
 simp (disch:=omega) only [qvI,List.replicate,zl,zo,go_sem]
 repeat' first
  |((first|apply qd|apply qb);exact rvk;simp only [go_sem];first|exact VLe.refl _|apply qe|apply qa|apply qf|skip)
  |with_reducible first|apply And.intro|intro _
 all_goals try exact clz
 refine qt (T:=fun i:Nat×Nat×AObj×AObj=>qY 27 [(1,.int .u64 (all:Int)),(5,.osl (h.length+1) i.2.1 1 0 (kR (qq2 gs all) i.1).length),(8,qG gs),(9,.int .i64 gs.length),(10,.int .i64 i.1)])
  (H:=fun i=>h++ [.emp 1,ja i.2.1 3 (qT (kR (qq2 gs all) i.1)),i.2.2.1,i.2.2.2,.emp 0])
  (inv:=fun i=>i.1≤gs.length∧qK [i.2.2.1] 0=true∧qK [i.2.2.2] 0=true) (m:=fun i=>gs.length-i.1) (0,1,.emp 0,.emp 0) ⟨Nat.zero_le _,rfl,rfl⟩ (Wk.temps ?_) ?_
 ·(simp only [kR,List.range_zero,List.filter_nil,List.length_nil,List.replicate,go_sem,qk,qi,qg,qj];try (repeat' first|(with_reducible apply And.intro)|(apply qe;omega)|(apply qa;rfl)|exact VLe.refl _))
 rintro ⟨i,v,O2,O3⟩ ⟨i1,i2,i3⟩ K hK
 simp only at i1 i2 i3 hK
 have i2': ∀m,qK (O2::m) 0=true:=fun _=>i2
 have i3': ∀m,qK (O3::m) 0=true:=fun _=>i3
 have hst:=qeE (qq2 gs all) i
 have hln:=jJ (qq2 gs all) i
 obtain ⟨L,hL⟩: ∃L,L=kR (qq2 gs all) i:=⟨_,rfl⟩
 rw [←hL]at hst hln
 have eL:=hL.symm
 have eC:=zY L
 by_cases hi:i<gs.length
 ·have k1:((i:Int)<gs.length)=True:=eq_true (by omega)
  have c96:=fun h=>qA3 (gs.getD i default).mem h (hl i) (hm i)
  have hlt:=qgT (hm i)
  have hB:qq2 gs all i=decide (anN (qb3 (gs.getD i default).mem) all=0):=rfl
  obtain ⟨gr,hgr⟩: ∃gr,gr=gs.getD i default:=⟨_,rfl⟩
  have egr:=hgr.symm
  simp only [egr]at c96 hB
  rw [egr]at hlt
  have hd:=qgv hlt ha
  obtain ⟨q,hq⟩: ∃q,q=anN (qb3 gr.mem) all:=⟨_,rfl⟩
  rw [←hq]at hd hB
  have eTk:List.take L.length (qT L)=qT L:=List.take_of_length_le (by omega)
  by_cases g0:q=0
  ·have k2:((q:Int)=0)=True:=eq_true (by omega)
   rw [if_pos (by rw [hB];exact decide_eq_true g0)]at hst
   simp (disch:=omega) only [List.replicate,qG,grC,k1,i2',i3',eL,egr,Nat.mul_one,go_sem]
   repeat' first
    |((first|refine cA (c96 _) ?_ ?_|refine cG (fun e=>c96 _) ?_ ?_|refine cU (fun _=>c96 _) ?_ ?_);(next=>exact flk);simp (disch:=omega) only [qG,grC,k1,k2,i2',i3',eL,egr,hd,eC,eTk,Nat.mul_one,go_sem])
    |((first|apply qd|apply qb);exact rvk;simp only [go_sem];first|exact VLe.refl _|apply qe|apply qa|apply qf|skip)
    |with_reducible first|apply And.intro|intro _
   all_goals try exact clz
   have eA:qT L++ [AV.int .i64 (i:Int)]=qT (kR (qq2 gs all) (i+1)):=by rw [hst,jS];rfl
   rw [eA]
   refine hK _ _ (i+1,v+1,.mem (qu (some O2)+1) 167 (grC gr),.mem (qu (some O3)+1) 3 [.int .i64 (i:Int)]) ⟨hi,rfl,rfl⟩ (by simp only;omega) ?_
   simp only [hst,List.length_append,List.length_cons,List.length_nil]
   refine Wk.temps ?_
   (simp only [List.replicate,go_sem,qk,qi,qg,qj];try (repeat' first|(with_reducible apply And.intro)|(apply qe;omega)|(apply qa;rfl)|exact VLe.refl _))
  ·have k2:((q:Int)=0)=False:=eq_false (by omega)
   rw [if_neg (by rw [hB];simpa using g0),List.append_nil]at hst
   simp (disch:=omega) only [List.replicate,qG,grC,k1,i2',eL,egr,go_sem]
   repeat' first
    |((first|refine cA (c96 _) ?_ ?_|refine cG (fun e=>c96 _) ?_ ?_|refine cU (fun _=>c96 _) ?_ ?_);(next=>exact flk);simp (disch:=omega) only [qG,grC,k1,k2,i2',eL,egr,hd,go_sem])
    |((first|apply qd|apply qb);exact rvk;simp only [go_sem];first|exact VLe.refl _|apply qe|apply qa|apply qf|skip)
    |with_reducible first|apply And.intro|intro _
   all_goals try exact clz
   refine hK _ _ (i+1,v,.mem (qu (some O2)+1) 167 (grC gr),O3) ⟨hi,rfl,i3⟩ (by simp only;omega) ?_
   simp only [hst]
   refine Wk.temps ?_
   (simp only [List.replicate,go_sem,qk,qi,qg,qj];try (repeat' first|(with_reducible apply And.intro)|(apply qe;omega)|(apply qa;rfl)|exact VLe.refl _))
 ·obtain rfl:i=gs.length:=by omega
  have k1:((gs.length:Int)<gs.length)=False:=eq_false (by omega)
  rw [eL]
  simp (disch:=omega) only [List.replicate,k1,eL,go_sem]
  repeat' first
   |((first|apply qd|apply qb);exact rvk;simp only [go_sem];first|exact VLe.refl _|apply qe|apply qa|apply qf|skip)
   |with_reducible first|apply And.intro|intro _
  all_goals try exact clz
  exact qcf (fun _=>rfl) rfl
def qrd (a b:List Int):Int:=qbq (fun i=>qrc (a.getD i 0) (b.getD i 0)) 0 a.length
theorem qCM (a b:List Int) (h:List AObj) (hl:a.length=b.length) (ha:a.length≤1000000000):ACalls Tryz.prog 66 [qp a,qp b] h (.int .i64 (qrd a b)) h:=by
 obtain ⟨R,hR⟩: ∃R,R=qrd a b:=⟨_,rfl⟩
 rw [←hR]
 unfold qrd at hR
 have z1: ∀g,valL g .len [qp a]= .int .i64 a.length:=fun _=>rfl
 have z2: ∀g,okL g .len [qp a]=True:=fun _=>eq_true trivial
 have z3: ∀g,valL g .len [qp b]= .int .i64 a.length:=fun _=>by rw [hl];rfl
 have z4: ∀g,okL g .len [qp b]=True:=fun _=>eq_true trivial
 refine acO qAG ?_
 simp (disch:=omega) only [qBX,List.replicate,z1,z2,go_sem]
 repeat' first
  |((first|apply qd|apply qb);exact rvk;simp only [go_sem];first|exact VLe.refl _|apply qe|apply qa|apply qf|skip)
  |with_reducible first|apply And.intro|intro _
 all_goals try exact clz
 refine qt (T:=fun i:Nat=>qY 36 [(0,qp a),(1,qp b),(9,qp a),(10,.int .i64 a.length),(11,.int .i64 i)]) (H:=fun _=>h) (inv:=fun i=>i≤a.length∧ ∀j,j<i→(fun i=>qrc (a.getD i 0) (b.getD i 0)) j=0) (m:=fun i=>a.length-i) 0 ⟨Nat.zero_le _,fun j hj=>by omega⟩ (Wk.temps ?_) ?_
 ·(simp only [List.replicate,go_sem,qk,qi,qg,qj];try (repeat' first|(with_reducible apply And.intro)|(apply qe;omega)|(apply qa;rfl)|exact VLe.refl _))
 rintro i ⟨i1,i2⟩ K hK
 by_cases hi:i<a.length
 ·have k1:((i:Int)<a.length)=True:=eq_true (by omega)
  have k2:((a.length:Int)≤i)=False:=eq_false (by omega)
  have k3:((i:Int)<b.length)=True:=eq_true (by omega)
  have hE:=jI (f:=fun i=>qrc (a.getD i 0) (b.getD i 0)) hi i2
  have c122:=fun h=>qCN (a.getD i 0) (b.getD i 0) h
  have k4:((b.length:Int)≤i)=False:=eq_false (by omega)
  by_cases g:qrc (a.getD i 0) (b.getD i 0)=0
  ·simp only [g]at c122
   simp (disch:=omega) only [List.replicate,qp,k1,k2,k3,k4,go_sem]
   repeat' first
    |((first|refine cA (c122 _) ?_ ?_|refine cG (fun e=>c122 _) ?_ ?_|refine cU (fun _=>c122 _) ?_ ?_);(next=>exact flk);simp (disch:=omega) only [qp,k1,k2,k3,k4,go_sem])
    |((first|apply qd|apply qb);exact rvk;simp only [go_sem];first|exact VLe.refl _|apply qe|apply qa|apply qf|skip)
    |with_reducible first|apply And.intro|intro _
   all_goals try exact clz
   refine hK _ _ (i+1) ⟨hi,fun j hj=> ?_⟩ (by omega) (Wk.temps ?_)
   ·by_cases e:j=i
    ·subst e;exact g
    ·exact i2 j (by omega)
   ·(simp only [List.replicate,qp,go_sem,qk,qi,qg,qj];try (repeat' first|(with_reducible apply And.intro)|(apply qe;omega)|(apply qa;rfl)|exact VLe.refl _))
  ·have k5:(qrc (a.getD i 0) (b.getD i 0)=0)=False:=eq_false g
   rw [hR,hE g]
   simp (disch:=omega) only [List.replicate,qp,k1,k2,k3,k4,go_sem]
   repeat' first
    |((first|refine cA (c122 _) ?_ ?_|refine cG (fun e=>c122 _) ?_ ?_|refine cU (fun _=>c122 _) ?_ ?_);(next=>exact flk);simp (disch:=omega) only [qp,k1,k2,k3,k4,k5,go_sem])
    |((first|apply qd|apply qb);exact rvk;simp only [go_sem];first|exact VLe.refl _|apply qe|apply qa|apply qf|skip)
    |with_reducible first|apply And.intro|intro _
   all_goals try exact clz
 ·have k1:((i:Int)<a.length)=False:=eq_false (by omega)
  have hz:=zN (f:=fun i=>qrc (a.getD i 0) (b.getD i 0)) (n:=a.length) (fun j hj=>i2 j (by omega))
  rw [hR,hz]
  have k2:((a.length:Int)<a.length)=False:=eq_false (by omega)
  simp (disch:=omega) only [List.replicate,z1,z2,z3,z4,k1,go_sem]
  repeat' first
   |((first|apply qd|apply qb);exact rvk;simp only [go_sem];first|exact VLe.refl _|apply qe|apply qa|apply qf|skip)
   |with_reducible first|apply And.intro|intro _
  all_goals try exact clz
end RC
end
section
open Go Go.Proofs AF HY LN
namespace RC
set_option maxHeartbeats 8000000
def j9 (ms:List Nat):AV:= .sl ms.length fun i=> [.int .u64 ((ms.getD i 0:Nat):Int)]
theorem qhR (L:List Nat):(j9 L).flag=true:=rfl
theorem qgg (L:List Nat):(j9 L).strip=j9 L:=rfl
theorem qf4 (L:List Nat):(j9 L).solid=true:=rfl
theorem qfB (L:List Nat):(j9 L).cells= [j9 L]:=rfl
attribute [go_sem] qhR qgg qf4 qfB
def qlB (ms:List Nat) (c:Nat):Nat→Nat
 |0=>0
 |i+1=>if c.testBit i=true then qlB ms c i|||ms.getD i 0 else qlB ms c i
theorem qlD (ms:List Nat) (c i:Nat):qlB ms c (i+1)=if c.testBit i=true then qlB ms c i|||ms.getD i 0 else qlB ms c i:=rfl
def chN (ms:List Nat) (c:Nat):Nat:=qlB ms c ms.length
theorem qlC {ms:List Nat} (hm: ∀i,ms.getD i 0<2^64) (c:Nat): ∀i,qlB ms c i<2^64:=by
 intro i
 induction i with
 |zero=>show (0:Nat)<2^64;decide
 |succ i ih=>
  unfold qlB
  split
  ·exact Nat.or_lt_two_pow ih (hm i)
  ·exact ih
theorem qwl {ms:List Nat} (hm: ∀i,ms.getD i 0<2^64) (c:Nat):chN ms c<2^64:=qlC hm c _
def qnX (ms:List Nat):List (List AV):=(List.range (2^ms.length)).map fun c=> [.int .u64 ((c:Nat):Int),.int .u64 ((chN ms c:Nat):Int)]
theorem qdw (ms:List Nat):(qnX ms).length=2^ms.length:=by simp [qnX]
theorem qgA {ms:List Nat} {i:Nat} (hi:i<(qnX ms).length):(qnX ms)[i]= [.int .u64 ((i:Nat):Int),.int .u64 ((chN ms i:Nat):Int)]:=by
 simp [qnX]
theorem qoD (ms:List Nat): ∀a∈qnX ms,a.length=2:=by
 intro a ha
 unfold qnX at ha
 obtain ⟨_,_,rfl⟩:=List.mem_map.1 ha
 rfl
theorem qCI (ms:List Nat) (h:List AObj):ACalls Tryz.prog 198 [j9 ms] h (.fn (.func 245) [] [.ip [j9 ms]]) h:=by
 refine acO qw2 ?_
 simp (disch:=omega) only [qvJ,List.replicate,go_sem]
 repeat' first
  |((first|apply qd|apply qb);exact rvk;simp only [go_sem];first|exact VLe.refl _|apply qe|apply qa|apply qf|skip)
  |with_reducible first|apply And.intro|intro _
 all_goals try exact clz
set_option maxHeartbeats 16000000 in
theorem itC (ms:List Nat) (hl:ms.length≤16) (hm: ∀i,ms.getD i 0<2^64):qu1 Tryz.prog 245 [.ip [j9 ms]] (qnX ms):=by
 intro h ts LI S E hS hE body start hts
 have zl: ∀g,valL g .len [j9 ms]= .int .i64 ms.length:=fun _=>rfl
 have zo: ∀g,okL g .len [j9 ms]=True:=fun _=>eq_true trivial
 have hsh:=qmL (n:=ms.length) (by omega)
 have hp:2^ms.length≤2^16:=Nat.pow_le_pow_right (by omega) hl
 have hxl:=qdw ms
 obtain ⟨N,hN⟩: ∃N,N=2^ms.length:=⟨_,rfl⟩
 rw [←hN]at hsh hp hxl
 refine acQ qxf ?_
 simp (disch:=omega) only [qvV,List.replicate,zl,zo,hsh,go_sem]
 repeat' first
  |((first|apply qd|apply qb);exact rvk;simp only [go_sem];first|exact VLe.refl _|apply qe|apply qa|apply qf|skip)
  |with_reducible first|apply And.intro|intro _
 all_goals try exact clz
 refine qt (T:=fun i:Nat×List AObj=>qY 35 [(0,.yld h.length),(1,.ip [j9 ms]),(9,.int .u64 ((N:Nat):Int)),(10,.int .u64 ((i.1:Nat):Int))])
  (H:=fun i=>i.2++ [.lp .ready ts LI])
  (inv:=fun i=>i.1≤N∧S i.1 i.2) (m:=fun i=>N-i.1) (0,h) ⟨Nat.zero_le _,start⟩ (Wk.temps ?_) ?_
 ·(simp only [List.replicate,go_sem,qk,qi,qg,qj];try (repeat' first|(with_reducible apply And.intro)|(apply qe;omega)|(apply qa;rfl)|exact VLe.refl _))
 rintro ⟨i,hh⟩ ⟨i1,i2⟩ K hK
 simp only at i1 i2 hK
 obtain ⟨hlen,hlow⟩:=hS _ _ i2
 have hb:(h++ [AObj.lp LS.ready ts LI]).length=(hh++ [AObj.lp LS.ready ts LI]).length:=by simp [hlen]
 rw [hb]
 by_cases hi:i<N
 ·have q0:((i:Int)<N)=True:=eq_true (by omega)
  have hix:i<(qnX ms).length:=by omega
  have hb':=body i hh [] hix i2
  rw [qgA hix]at hb'
  simp (disch:=omega) only [List.replicate,q0,zl,zo,go_sem]
  repeat' first
   |((first|apply qd|apply qb);exact rvk;simp only [go_sem];first|exact VLe.refl _|apply qe|apply qa|apply qf|skip)
   |with_reducible first|apply And.intro|intro _
  all_goals try exact clz
  have hclt:i<2^64:=by omega
  have hml:=qlC hm i
  refine qt (T:=fun j:Nat=>qY 35 [(0,.yld (hh++ [AObj.lp LS.ready ts LI]).length.pred),(1,.ip [j9 ms]),(3,.int .u64 ((i:Nat):Int)),(4,.int .u64 ((qlB ms i j:Nat):Int)),(9,.int .u64 ((N:Nat):Int)),(10,.int .u64 ((i:Nat):Int)),(13,j9 ms),(14,.int .i64 ms.length),(15,.int .i64 j)])
   (H:=fun _=>hh++ [.lp .ready ts LI]) (inv:=fun j=>j≤ms.length) (m:=fun j=>ms.length-j) 0 (Nat.zero_le _) (Wk.temps ?_) ?_
  ·have e2:(hh++ [AObj.lp LS.ready ts LI]).length.pred=h.length:=by simp [hlen]
   rw [e2]
   (simp only [List.replicate,qlB,go_sem,qk,qi,qg,qj];try (repeat' first|(with_reducible apply And.intro)|(apply qe;omega)|(apply qa;rfl)|exact VLe.refl _))
  have e2:(hh++ [AObj.lp LS.ready ts LI]).length.pred=h.length:=by simp [hlen]
  rw [e2]
  rintro j j1 K2 hK2
  by_cases hj:j<ms.length
  ·have q1:((j:Int)<ms.length)=True:=eq_true (by omega)
   have e1:=qjV (a:=i) (n:=j) hclt (by omega)
   have eo:=qrO (hml j) (hm j)
   have hs:=qlD ms i j
   have q2:(0≤(j:Int))=True:=eq_true (by omega)
   cases g:i.testBit j with
   |true=>
    rw [g,if_pos rfl]at e1
    rw [g,if_pos rfl]at hs
    simp (disch:=omega) only [List.replicate,j9,q1,q2,e1,go_sem]
    repeat' first
     |((first|apply qd|apply qb);exact rvk;simp only [go_sem];first|exact VLe.refl _|apply qe|apply qa|apply qf|skip)
     |with_reducible first|apply And.intro|intro _
    all_goals try exact clz
    refine hK2 _ _ (j+1) hj (by omega) ?_
    simp only [hs]
    refine Wk.temps ?_
    (simp only [List.replicate,j9,go_sem,qk,qi,qg,qj];try (repeat' first|(with_reducible apply And.intro)|(apply qe;omega)|(apply qa;rfl)|exact VLe.refl _))
   |false=>
    rw [g,if_neg (by simp)]at e1
    rw [g,if_neg (by simp)]at hs
    simp (disch:=omega) only [List.replicate,j9,q1,q2,e1,go_sem]
    repeat' first
     |((first|apply qd|apply qb);exact rvk;simp only [go_sem];first|exact VLe.refl _|apply qe|apply qa|apply qf|skip)
     |with_reducible first|apply And.intro|intro _
    all_goals try exact clz
    refine hK2 _ _ (j+1) hj (by omega) ?_
    simp only [hs]
    refine Wk.temps ?_
    (simp only [List.replicate,j9,go_sem,qk,qi,qg,qj];try (repeat' first|(with_reducible apply And.intro)|(apply qe;omega)|(apply qa;rfl)|exact VLe.refl _))
  ·obtain rfl:j=ms.length:=by omega
   have q1:((ms.length:Int)<ms.length)=False:=eq_false (by omega)
   have hch:qlB ms i ms.length=chN ms i:=rfl
   rw [hch]
   simp (disch:=omega) only [List.replicate,q1,go_sem]
   repeat' first
    |((first|apply qd|apply qb);exact rvk;simp only [go_sem];first|exact VLe.refl _|apply qe|apply qa|apply qf|skip)
    |with_reducible first|apply And.intro|intro _
   all_goals try exact clz
   ·exact ⟨.ready,ts,LI,kw hlen⟩
   ·refine ko.mono ?_ hb'
    rintro v h' ⟨hh',⟨rfl,hn,rfl⟩|⟨st,rfl,hs',rfl⟩⟩
    ·simp (disch:=omega) only [go_sem]
     repeat' first
      |((first|apply qd|apply qb);exact rvk;simp only [go_sem];first|exact VLe.refl _|apply qe|apply qa|apply qf|skip)
      |with_reducible first|apply And.intro|intro _
     all_goals try exact clz
     refine hK _ _ (i+1,hh') ⟨hi,hn⟩ (by simp only;omega) (Wk.temps ?_)
     (simp only [List.replicate,go_sem,qk,qi,qg,qj];try (repeat' first|(with_reducible apply And.intro)|(apply qe;omega)|(apply qa;rfl)|exact VLe.refl _))
     rw [qbi (by omega) (by omega)]
     exact qe (by omega)
    ·simp (disch:=omega) only [go_sem]
     obtain ⟨r1,r2⟩:=(hE _ _ hs').ret (L:=LI) st hts
     exact ku trivial r1 r2 ⟨_,.inr ⟨st,hs',rfl⟩⟩ (VLe.refl _)
 ·have e:i=N:=by omega
  subst e
  have q0:((i:Int)<i)=False:=eq_false (by omega)
  simp (disch:=omega) only [List.replicate,q0,go_sem]
  repeat' first
   |((first|apply qd|apply qb);exact rvk;simp only [go_sem];first|exact VLe.refl _|apply qe|apply qa|apply qf|skip)
   |with_reducible first|apply And.intro|intro _
  all_goals try exact clz
  obtain ⟨r1,r2⟩:=(hS _ _ i2).ret (L:=LI) .ready hts
  exact ku trivial r1 r2 ⟨hh,.inl ⟨by rw [hxl];exact i2,rfl⟩⟩ (VLe.refl _)
end RC
end
section
open Go Go.Proofs AF HY LN
namespace RC
set_option maxHeartbeats 8000000
def usM (gs:List Gr) (L:List Int):List Nat:=L.map fun i=>qb3 (gs.getD i.toNat default).mem
theorem qnq (gs:List Gr) (L:List Int):(usM gs L).length=L.length:=by simp [usM]
theorem qnp {gs:List Gr} {L:List Int} {i:Nat} (hi:i<L.length):(usM gs L).getD i 0=qb3 (gs.getD (L.getD i 0).toNat default).mem:=by
 unfold usM
 rw [gdqA,List.getElem?_map,zU hi,gdqA (l:=L),zU hi]
 rfl
theorem qyO {gs:List Gr} (hm: ∀i,inB 64 (gs.getD i default).mem) (L:List Int) (i:Nat):(usM gs L).getD i 0<2^64:=by
 by_cases hi:i<L.length
 ·rw [qnp hi];exact qgT (hm _)
 ·rw [gdqA,List.getElem?_eq_none (by rw [qnq];omega)]
  show (0:Nat)<2^64
  decide
def qay (gs:List Gr) (all:Nat) (L:List Int) (c:Nat):List Int:=
 (kR c.testBit 64).map (fun k=>L.getD k.toNat 0)++(kR (anN all (chN (usM gs L) c)).testBit 64).map (fun s=>(gs.length:Int)+s)
theorem qdN (gs:List Gr) (all:Nat) (L:List Int) (c:Nat):(qay gs all L c).length=qnZ c+qnZ (anN all (chN (usM gs L) c)):=by
 unfold qay qnZ
 rw [List.length_append,List.length_map,List.length_map]
def qu7 (a b:List Int):Bool:=decide (a.length<b.length)||decide (a.length=b.length)&&decide (qrd a b<0)
def bst (gs:List Gr) (all:Nat) (L:List Int):Nat→List Int
 |0=>qay gs all L 0
 |c+1=>if qu7 (qay gs all L (c+1)) (bst gs all L c)=true then qay gs all L (c+1) else bst gs all L c
theorem qq7 (gs:List Gr) (all:Nat) (L:List Int): ∀c,∃k,k≤c∧bst gs all L c=qay gs all L k:=by
 intro c
 induction c with
 |zero=>exact ⟨0,Nat.le_refl _,rfl⟩
 |succ c ih=>
  obtain ⟨k,h1,h2⟩:=ih
  unfold bst
  split
  ·exact ⟨c+1,Nat.le_refl _,rfl⟩
  ·exact ⟨k,by omega,h2⟩
def qAc (gs:List Gr) (all:Nat):List Int:=bst gs all (qd4 gs all) (2^(qd4 gs all).length-1)
def qd7 (names:List Str) (gs:List Gr) (p:Int):Str:=if p<gs.length then (gs.getD p.toNat default).name else names.getD (p-gs.length).toNat []
def shR (names:List Str) (gs:List Gr) (set:List Int):List Str:=if qn0 names gs set=0 then (qAc gs (qb3 set)).map (qd7 names gs) else []
theorem qfR {c n k:Nat} (hc:c<2^n) (hk:c.testBit k=true):k<n:=by
 by_cases h:k<n
 ·exact h
 ·rw [Nat.testBit_lt_two_pow (Nat.lt_of_lt_of_le hc (Nat.pow_le_pow_right (by omega) (by omega)))]at hk
  cases hk
theorem qa8 {p:Nat→Bool} {n:Nat} {x:Int} (h:x∈kR p n): ∃k:Nat,x=(k:Int)∧k<n∧p k=true:=by
 unfold kR at h
 obtain ⟨k,h1,rfl⟩:=List.mem_map.1 h
 obtain ⟨h2,h3⟩:=List.mem_filter.1 h1
 exact ⟨k,rfl,List.mem_range.1 h2,h3⟩
theorem qlF {set:List Int} {n:Nat} (hn:n≤64) (h:inB n set):qb3 set<2^n:=by
 have h64:inB 64 set:=fun i hi=>by have:=h i hi;omega
 refine Nat.lt_pow_two_of_testBit _ fun i hi=> ?_
 rw [qlG h64]
 refine decide_eq_false fun hm=> ?_
 have:=qa9 h _ hm
 omega
theorem qq6 {a b n:Nat} (h:a<2^n):anN a b<2^n:=Nat.lt_of_le_of_lt (qq5 a b) h
theorem qnW {gs:List Gr} {all:Nat} {x:Int} (h:x∈qd4 gs all): ∃k:Nat,x=(k:Int)∧k<gs.length:=by
 obtain ⟨k,h1,h2,_⟩:=qa8 h
 exact ⟨k,h1,h2⟩
theorem qyj {names:List Str} {gs:List Gr} {set:List Int} {all:Nat} (hs:inB names.length set) (hn:names.length≤64) (ha:all=qb3 set) {c:Nat} (hc:c<2^(qd4 gs all).length) {p:Int} (hp:p∈qay gs all (qd4 gs all) c):0≤p∧p<gs.length+names.length:=by
 unfold qay at hp
 rcases List.mem_append.1 hp with hp|hp
 ·obtain ⟨k,h1,rfl⟩:=List.mem_map.1 hp
  obtain ⟨k',rfl,h2,h3⟩:=qa8 h1
  have hk:=qfR hc h3
  have hm:(qd4 gs all).getD k' 0∈qd4 gs all:=by
   rw [gdqA,zU hk];exact List.getElem_mem hk
  obtain ⟨g,e,hg⟩:=qnW hm
  rw [Int.toNat_natCast,e]
  omega
 ·obtain ⟨k,h1,rfl⟩:=List.mem_map.1 hp
  obtain ⟨k',rfl,h2,h3⟩:=qa8 h1
  have:=qfR (qq6 (b:=chN (usM gs (qd4 gs all)) c) (by rw [ha];exact qlF hn hs)) h3
  omega
end RC
end
section
open Go Go.Proofs AF
def qx3:List Nat:= [132,109,174,220,68]
def qsq:C:=
 ((C.ops [O1 4 (.box 0 44) 1,ON 6 (.nilo 1 1 9) [],MC 7 (i6 0)]).seq (((C.ops [MV 27 0,LD 28 4,MV 29 2,ON 30 (.call 196 true) [.t 27,.t 28,.t 29],MV 8 30]).seq ((C.ops [MV
 31 8,BC 32 .neq 31 (i6 0)]).seq (C.cond (.t 32) ((C.ops [MV 33 8,ON 6 (.nilo 1 1 9) [],MV 7 33]).seq C.ret) C.skip))).seq ((C.ops [MV 34 2,O1 35 (.call 125 true) 34,⟨some 9,
 none,.alloc 2 164 [.int .u64 0],[]⟩,ST 1 9 35]).seq ((C.ops [LD 36 4,LD 37 9,O2 38 (.call 197 true) 36 37,⟨some 10,none,.alloc 3 62 [.nl],[]⟩,ST 1 10 38]).seq ((C.ops [ON
 11 (.nilo 4 1 164) []]).seq (((C.ops [LD 39 10,O1 40 .len 39,MC 41 (i6 0)]).seq (C.block 0 ((C.ops [BI 42 .lss 41 40]).seq ((C.cond (.t 42) C.skip (C.exit 0)).seq ((C.block 1
 ((C.ops [O2 43 (.idxA 1) 39 41,LD 44 43,MV 13 44]).seq (C.ops [MV 45 11,LD 46 4,MV 47 13,O2 48 (.idxA 2) 46 47,O1 49 (.fldA 1) 48,LD 50 49,O1 51 (.call 125 true) 50,⟨some
 52,none,.bslc 5 1 1 164 [.int .u64 0] [(0,1)],[.t 51]⟩,O2 53 (.app 6 1 164 8) 45 52,MV 11 53]))).seq (C.ops [BC 54 .add 41 (i6 1),MV 41 54])))).loop)).seq ((C.ops [⟨some 14,
 none,.alloc 7 62 [.nl],[]⟩]).seq ((C.ops [⟨some 15,none,.alloc 8 4 [.bool false],[]⟩,⟨none,none,.store 1,[.t 15,.c (.bool false)]⟩]).seq (((C.wk.seq (C.ops [MV 55 11,O1
 56 (.call 198 true) 55])).seq (C.block 2 (C.range (.t 56) [57,58] ((C.ops [MV 16 57]).seq (C.ops [MV 17 58])) (C.block 3 ((C.wk.seq (C.ops [MV 59 16,O1 60 (.call 199 true) 59,LD
 61 9,MV 62 17,BI 63 .andNot 61 62,O1 64 (.call 199 true) 63,BI 65 .add 60 64,MV 18 65])).seq (((C.ops [LD 66 15,MV 67 66,MG 68 67 true 18,P1 69 67 true (.load none) 14,P1
 70 67 true .len 69,P2 71 67 true (.bin .gtr) 68 70,PF 72 67 71]).seq (C.cond (.t 72) (C.exit 3) C.skip)).seq ((C.ops [ON 19 (.nilo 9 1 3) []]).seq (((C.ops [MV 73 16,O1 74
 (.call 126 true) 73,O1 75 .len 74,MC 76 (i6 0)]).seq (C.block 4 ((C.ops [BI 77 .lss 76 75]).seq ((C.cond (.t 77) C.skip (C.exit 4)).seq ((C.block 5 ((C.ops [O2 78 (.idxA 1) 74
 76,LD 79 78,MV 21 79]).seq (C.ops [MV 80 19,LD 81 10,MV 82 21,O2 83 (.idxA 1) 81 82,LD 84 83,⟨some 85,none,.bslc 10 1 1 3 [i6 0] [(0,1)],[.t 84]⟩,O2 86 (.app 11 1 3 8)
 80 85,MV 19 86]))).seq (C.ops [BC 87 .add 76 (i6 1),MV 76 87])))).loop)).seq (((C.ops [LD 88 9,MV 89 17,BI 90 .andNot 88 89,O1 91 (.call 126 true) 90,O1 92 .len 91,MC 93 (i6
 0)]).seq (C.block 6 ((C.ops [BI 94 .lss 93 92]).seq ((C.cond (.t 94) C.skip (C.exit 6)).seq ((C.block 7 ((C.ops [O2 95 (.idxA 1) 91 93,LD 96 95,MV 23 96]).seq (C.ops [MV 97 19,
 LD 98 4,O1 99 .len 98,MV 100 23,BI 101 .add 99 100,⟨some 102,none,.bslc 12 1 1 3 [i6 0] [(0,1)],[.t 101]⟩,O2 103 (.app 13 1 3 8) 97 102,MV 19 103]))).seq (C.ops [BC 104
 .add 93 (i6 1),MV 93 104])))).loop)).seq ((C.ops [LD 105 15,O1 106 (.un UnOp.not) 105,MV 107 106,MG 108 107 false 19,P1 109 107 false .len 108,P1 110 107 false (.load none)
 14,P1 111 107 false .len 110,P2 112 107 false (.bin .lss) 109 111,PT 113 107 112,MV 114 113,MG 115 114 false 19,P1 116 114 false (.load none) 14,P2 117 114 false (.call 66
 true) 115 116,PC 118 114 false (.bin .lss) 117 (i6 0),PT 119 114 118]).seq (C.cond (.t 119) (C.ops [MV 120 19,ST 1 14 120,⟨none,none,.store 1,[.t 15,.c (.bool true)]⟩])
 C.skip))))))))))).seq ((C.ops [ON 24 (.nilo 14 1 9) []]).seq (((C.wk.seq (C.ops [LD 121 14,O1 122 .len 121,MC 123 (i6 0)])).seq (C.block 8 ((C.ops [BI 124 .lss 123 122]).seq
 ((C.cond (.t 124) C.skip (C.exit 8)).seq ((C.block 9 ((C.ops [O2 125 (.idxA 1) 121 123,LD 126 125,MV 26 126]).seq ((C.ops [MV 127 26,LD 128 4,O1 129 .len 128,BI 130 .lss 127
 129]).seq (C.cond (.t 130) (C.ops [MV 131 24,LD 132 4,MV 133 26,O2 134 (.idxA 2) 132 133,O1 135 (.fldA 0) 134,LD 136 135,⟨some 137,none,.bslc 15 1 1 9 [.str []] [(0,1)],
 [.t 136]⟩,O2 138 (.app 16 1 9 16) 131 137,MV 24 138]) (C.ops [MV 139 24,MV 140 0,MV 141 26,LD 142 4,O1 143 .len 142,BI 144 .sub 141 143,O2 145 (.idxA 1) 140 144,LD 146
 145,⟨some 147,none,.bslc 17 1 1 9 [.str []] [(0,1)],[.t 146]⟩,O2 148 (.app 18 1 9 16) 139 147,MV 24 148]))))).seq (C.ops [BC 149 .add 123 (i6 1),MV 123 149])))).loop)).seq
 ((C.ops [MV 150 24,MV 6 150,MC 7 (i6 0)]).seq
 C.ret))))))))))))
theorem qrn:qR Tryz.prog 142 151 19 [RV.tmp 6,RV.tmp 7] qsq:=fi Tryz.f142 [4,6,9,10,11,52,53,14,15,19,85,86,102,103,24,137,138,147,148] qx3 [14,17,33] (by kernel_rfl) (by kernel_rfl) (by kernel_rfl) (by kernel_rfl)
end
section
open Go Go.Proofs AF HY LN
namespace RC
set_option maxHeartbeats 16000000
def qd8 (ms:List Nat):List AV:=ms.map fun m=> .int .u64 ((m:Nat):Int)
theorem qhf (ms:List Nat):(qd8 ms).length=ms.length:=by simp [qd8]
theorem qqI (a b:List Nat):qd8 (a++b)=qd8 a++qd8 b:=by simp [qd8]
theorem qiK {L:List Nat} {i:Nat} (hi:i<L.length):L.take (i+1)=L.take i++ [L.getD i 0]:=by
 rw [List.take_succ_eq_append_getElem hi,gdqA,zU hi];rfl
theorem kQ {L:List Int} {i:Nat} (hi:i<L.length):L.take (i+1)=L.take i++ [L.getD i 0]:=by
 rw [List.take_succ_eq_append_getElem hi,gdqA,zU hi];rfl
theorem qqJ {L:List Nat} {n:Nat} (g:AV→AV) (hg: ∀n,g (.int .u64 n)= .int .u64 n) (hn:n=L.length):VLe (.sl n fun i=>(((qd8 L).drop i).take 1).map g) (j9 L):=by
 subst hn
 refine VLe.sl_eq rfl (fun i hi=> ?_)
 unfold qd8
 rw [←List.map_drop,List.drop_eq_getElem_cons hi,List.map_cons,List.take_succ_cons,List.take_zero,List.map_cons,List.map_nil,hg,gdqA,zU hi]
 rfl
theorem qql {v n:Nat} {L:List Nat} {g:AV→AV} (hg: ∀s,g (.int .u64 s)= .int .u64 s) (hn:n=L.length):VLe (qdn (some (ja v 164 (qd8 L))) v 1 0 n g) (j9 L):=by
 subst hn
 by_cases h:L= []
 ·subst h
  show VLe (qdn (some (.emp v)) v 1 0 0 g) _
  rw [slOf_emp,if_pos rfl]
  exact kq
 ·have e0:ja v 164 (qd8 L)= .mem v 164 (qd8 L):=jD (by simpa [qd8] using h)
  rw [e0,slOf_mem,if_pos ⟨rfl,by rw [qhf];omega⟩]
  simp only [Nat.zero_add,Nat.mul_one]
  exact qqJ g hg rfl
def shH (h:List AObj) (gs:List Gr) (all:Nat) (L:List Int) (v4:Nat) (O5:AObj) (bc:AV) (fd:Bool) (O9 O10 O12:AObj) (tl:List AObj):List AObj:=
 h++(.mem 1 44 [qG gs]:: .emp 1:: .mem 1 164 [.int .u64 ((all:Nat):Int)]:: .mem 1 62 [qp L]:: .emp v4::O5:: .emp 0:: .mem 1 62 [bc]:: .mem 1 4 [.bool fd]::O9::O10:: .emp 0::O12:: .emp 0:: .emp 0:: .emp 0:: .emp 0:: .emp 0:: .emp 0::tl)
theorem qbE (h:List AObj) (gs:List Gr) (all:Nat) (L:List Int) (v4:Nat) (O5:AObj) (bc:AV) (fd:Bool) (O9 O10 O12:AObj) (tl:List AObj):shH h gs all L v4 O5 bc fd O9 O10 O12 []++tl=shH h gs all L v4 O5 bc fd O9 O10 O12 tl:=by simp [shH]
theorem jr (h:List AObj) (gs:List Gr) (all:Nat) (L:List Int) (v4:Nat) (O5:AObj) (bc:AV) (fd:Bool) (O9 O10 O12:AObj):(shH h gs all L v4 O5 bc fd O9 O10 O12 []).length=h.length+19:=by simp [shH]
def bsC (gs:List Gr) (all:Nat) (L:List Int):Nat→AV
 |0=> .nl
 |i+1=>qp (bst gs all L i)
def bsO (h:List AObj) (gs:List Gr) (all:Nat) (L:List Int) (i:Nat) (bc:AV) (O9:AObj):Prop:=
 (bc=bsC gs all L i∧qK [O9] 0=true)∨ ∃j v,i=j+1∧bc= .osl (h.length+9) v 1 0 (bst gs all L j).length∧O9=ja v 3 (qT (bst gs all L j))
theorem shW {h:List AObj} {gs:List Gr} {all:Nat} {L:List Int} {v4 i:Nat} {O5:AObj} {bc:AV} {fd:Bool} {O9 O10 O12:AObj} {tl:List AObj} (hb:bsO h gs all L i bc O9) (hl: ∀n,qaa n O9):
  ∃O9',qK [O9'] 0=true∧(∀n,qaa n O9')∧ ∀TT,Wk TT (shH h gs all L v4 O5 bc fd O9 O10 O12 tl) TT (shH h gs all L v4 O5 (bsC gs all L i) fd O9' O10 O12 tl):=by
 rcases hb with ⟨rfl,h2⟩|⟨j,v,rfl,rfl,rfl⟩
 ·exact ⟨O9,h2,hl,fun TT=>Wk.refl _ _⟩
 ·refine ⟨.emp (v+1),rfl,fun _=>trivial,fun TT=> ?_⟩
  have w:=Wk.fzCell (t:=TT) (h:=shH h gs all L v4 O5 (.osl (h.length+9) v 1 0 (bst gs all L j).length) fd (ja v 3 (qT (bst gs all L j))) O10 O12 tl) (j:=h.length+7) (k:=h.length+9) (i:=0) (v:=1) (ty:=62) (cs:= [.osl (h.length+9) v 1 0 (bst gs all L j).length]) (c:= .osl (h.length+9) v 1 0 (bst gs all L j).length) (c':=qp (bst gs all L j))
   (by unfold shH;simp only [go_sem]) rfl (by unfold shH;simp only [go_sem]) (by omega) (by
    rw [qa0]
    unfold shH
    rw [getO_app]
    exact qcf (fun _=>rfl) rfl)
  unfold shH at w ⊢
  simp only [go_sem,List.set_cons_zero]at w
  exact w
theorem qly (n:Nat) (L:List Nat):jf n (j9 L)=true:=rfl
theorem qa3 (L:List Int) (n:Nat): ∀c∈qT L,jf n c=true:=by
 intro c hc
 unfold qT at hc
 obtain ⟨x,_,rfl⟩:=List.mem_map.1 hc
 rfl
theorem qCL (a b:List Int) (k v:Nat) (h:List AObj) (n:Nat) (hn:n=a.length) (hk:qF k h=some (ja v 3 (qT a))) (hl:a.length=b.length) (ha:a.length≤1000000000):ACalls Tryz.prog 66 [.osl k v 1 0 n,qp b] h (.int .i64 (qrd a b)) h:=by
 subst hn
 refine ACalls.borrow ((qCM a b [] hl ha).le ?_ (VLe.refl _)) rfl
 simp only [List.map_cons,List.map_nil,rei_osl,if_true,hk]
 exact ⟨qcf (fun _=>rfl) rfl,VLe.refl _,trivial⟩
end RC
end
