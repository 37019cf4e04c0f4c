import Derived.Test.YthlgfjbghnildaaGreatDoorK10
import Derived.Test.YthlgfjbghnildaaGreatDoorK1
import Derived.Test.YthlgfjbghnildaaGreatDoorK3
import Derived.Test.YthlgfjbghnildaaGreatDoorK6
import Derived.Test.YthlgfjbghnildaaGreatDoorProg
set_option linter.all false
set_option linter.unusedSimpArgs false
set_option linter.unusedVariables false
set_option linter.unusedSectionVars false
set_option maxRecDepth 100000
section
open Go Go.Proofs AF HY LN
namespace RC
set_option maxHeartbeats 4000000
structure CSz (names:List Str) (gs:List Gr) (t:List Str) (l:List En):Prop where
 hz:Szs names gs
 ht:TSz t
 tn:t.length≤1000
 ln:l.length≤10
 nn:names.length≤1000
 gm: ∀i,(gs.getD i default).mem.length≤1000
 he: ∀i,ESz (l.getD i default)
 vl: ∀i,(l.getD i default).vars.length≤1000
 sg: ∀i j,((l.getD i default).vars.getD j default).sigla.length≤1000
 wl: ∀i j,((l.getD i default).vars.getD j default).words.length≤1000
 sp: ∀i,(l.getD i default).sup.length≤1000
def inR (names:List Str) (src:Int):Bool:=decide (0≤src)&&decide (src<names.length)
def opE (e:Int):Int:=if e=0 then 0 else 1
def qmM (names:List Str) (gs:List Gr) (t:List Str) (l:List En) (src:Int):Int:=if rdE names gs t l=0 then (if inR names src=true then 0 else 2) else 1
def qyW (names:List Str) (gs:List Gr) (t:List Str) (l:List En) (src:Int):List Str:=if qmM names gs t l src=0 then qio names gs t l src else []
def qcs (names:List Str) (gs:List Gr) (t:List Str) (l:List En) (n:Nat):List (List Str):=(List.range n).map fun (s:Nat)=>qio names gs t l (s:Int)
def qw9 (names:List Str) (gs:List Gr) (t:List Str) (l:List En):List (List Str):=if rdE names gs t l=0 then qcs names gs t l names.length else []
def qxT (names:List Str) (gs:List Gr) (t:List Str) (l:List En) (src:Int):Int:=if qmM names gs t l src=0 then (ofE names gs l src).length else 0
def noE (names:List Str) (gs:List Gr) (l:List En) (s:Nat):Bool:=decide ((ofE names gs l (s:Int)).length=0)
def qxo (names:List Str) (gs:List Gr) (t:List Str) (l:List En):List Int:=if rdE names gs t l=0 then qY (noE names gs l) names.length else []
def je (L:List (List Str)):AV:= .sl L.length fun i=> [strs (L.getD i [])]
def qdE (L:List (List Str)):List AV:=L.map strs
theorem qgE (L:List (List Str)):(qdE L).length=L.length:=by simp [qdE]
theorem qpc (L M:List (List Str)):qdE (L++M)=qdE L++qdE M:=by simp [qdE]
theorem qpd {L:List (List Str)} {i:Nat} (hi:i<L.length):((qdE L).drop i).take 1= [strs (L.getD i [])]:=by
 unfold qdE
 rw [←List.map_drop,List.drop_eq_getElem_cons hi,List.map_cons,List.take_succ_cons,List.take_zero,gdqA,qR hi]
 rfl
theorem qis (names:List Str) (gs:List Gr) (t:List Str) (l:List En) (n:Nat):qcs names gs t l (n+1)=qcs names gs t l n++ [qio names gs t l (n:Int)]:=by
 unfold qcs;rw [List.range_succ,List.map_append];rfl
theorem qfW (names:List Str) (gs:List Gr) (t:List Str) (l:List En) (n:Nat):(qcs names gs t l n).length=n:=by simp [qcs]
theorem qhd (L:List (List Str)):(je L).flag=true:=rfl
theorem qfC (L:List (List Str)):(je L).strip=je L:=rfl
attribute [go_sem] qhd qfC
theorem zY (L:List Str):(jH L).length=L.length:=by simp [jH]
theorem qbU (L M:List Str):jH (L++M)=jH L++jH M:=by simp [jH]
theorem qo4 {L:List Str}:jH L= []↔L= []:=by simp [jH]
theorem qo5 {L:List Str} {n:Nat} (g:AV→AV) (hg: ∀s,g (.str s)= .str s) (hn:n=L.length):VLe (.sl n fun i=>(((jH L).drop i).take 1).map g) (strs L):=by
 subst hn
 refine VLe.sl_eq rfl (fun i hi=> ?_)
 unfold jH
 rw [←List.map_drop,List.drop_eq_getElem_cons hi,List.map_cons,List.take_succ_cons,List.take_zero,List.map_cons,List.map_nil,hg,gdqA,qR hi]
 rfl
theorem qpe {L:List (List Str)} {n:Nat} (g:AV→AV) (hg: ∀s,g (strs s)=strs s) (hn:n=L.length):VLe (.sl n fun i=>(((qdE L).drop i).take 1).map g) (je L):=by
 subst hn
 refine VLe.sl_eq rfl (fun i hi=> ?_)
 rw [qpd hi,List.map_cons,List.map_nil,hg]
theorem qf5 {α β:Type} (f:α→β) (L:List α):L.flatMap (fun i=> [f i])=L.map f:=by
 induction L with
 |nil=>rfl
 |cons a L ih=>rw [List.flatMap_cons,ih];rfl
theorem qfu (h:List AObj) {t:List Str} {a b:Nat} (h1:a≤b) (h2:b≤t.length):qs h (.sl (b-a) fun i=> [.str (t.getD (a+i) [])])=some (b-a,jH (j8 t a b)):=by
 show some (b-a,(List.range (b-a)).flatMap fun i=> [AV.str (t.getD (a+i) [])])=_
 rw [qf5 (fun i=>AV.str (t.getD (a+i) []))]
 congr 2
 unfold jH j8
 apply List.ext_getElem
 ·simp;omega
 ·intro i g1 g2
  have hi:i<b-a:=by simpa using g1
  have hl:a+i<t.length:=by omega
  simp [gdqA,hl]
theorem qgB (h:List AObj) (t:List Str):qs h (strs t)=some (t.length,jH t):=by
 have:=qfu h (t:=t) (a:=0) (b:=t.length) (Nat.zero_le _) (Nat.le_refl _)
 simp only [Nat.sub_zero,Nat.zero_add]at this
 have e:j8 t 0 t.length=t:=by simp [j8]
 rw [e]at this
 exact this
end RC
end
section
open Go Go.Proofs AF HY LN
namespace RC
set_option maxHeartbeats 8000000
def gwB (ws:List Str) (n:Nat):Bool:=zS (fun i=>decide (20<(ws.getD i []).length)) ws.length||decide (n<ws.length)
theorem kM {p:Nat→Bool} {i:Nat} (h: ∀j,j<i→p j=false) (hp:p i=false): ∀j,j<i+1→p j=false:=by
 intro j hj
 by_cases e:j=i
 ·subst e;exact hp
 ·exact h j (by omega)
theorem gwP (ws:List Str) (n:Nat) (h:List AObj) (hn:ws.length≤9223372036854775807):qm Tryz.prog 144 [strs ws,.int .i64 n] h (.bool (gwB ws n)) h:=by
 obtain ⟨R,hR⟩: ∃R,R=gwB ws n:=⟨_,rfl⟩
 rw [←hR]
 unfold gwB at hR
 refine acO quW ?_
 simp (disch:=omega) only [qtR,List.replicate,strs,go_sem]
 repeat' first
  |((first|apply qc|apply qb);exact rvk;simp only [go_sem];first|exact VLe.refl _|apply qd|apply qa|apply qe|skip)
  |with_reducible first|refine And.intro ?_ ?_|intro _
 all_goals try exact clz
 refine qn (T:=fun i:Nat=>qI 22 [(0,strs ws),(1,.int .i64 n),(5,.int .i64 i)]) (H:=fun _=>h) (inv:=fun i=>i≤ws.length∧ ∀j,j<i→(fun i=>decide (20<(ws.getD i []).length)) j=false) (m:=fun i=>ws.length-i) 0 ⟨Nat.zero_le _,fun j hj=>by omega⟩ (Wk.temps ?_) ?_
 ·(simp only [strs,List.replicate,go_sem,qj,qh,qg,qi];try (repeat' first|(with_reducible refine And.intro ?_ ?_)|(apply qd;omega)|(apply qa;rfl)|exact VLe.refl _))
 rintro i ⟨i1,i2⟩ K hK
 by_cases hi:i<ws.length
 ·have k1:((i:Int)<ws.length)=True:=eq_true (by omega)
  by_cases g:20<(ws.getD i []).length
  ·have hV:R=true:=by rw [hR,qW.2 ⟨i,hi,decide_eq_true g⟩];rfl
   obtain ⟨s,hs⟩: ∃s,s=ws.getD i []:=⟨_,rfl⟩
   have es:=hs.symm
   rw [es]at g
   have k2:((20:Int)<s.length)=True:=eq_true (by omega)
   rw [hV]
   simp (disch:=omega) only [List.replicate,strs,k1,k2,es,go_sem]
   repeat' first
    |((first|apply qc|apply qb);exact rvk;simp only [go_sem];first|exact VLe.refl _|apply qd|apply qa|apply qe|skip)
    |with_reducible first|refine And.intro ?_ ?_|intro _
   all_goals try exact clz
  ·have i3:=kM i2 (decide_eq_false g)
   obtain ⟨s,hs⟩: ∃s,s=ws.getD i []:=⟨_,rfl⟩
   have es:=hs.symm
   rw [es]at g
   have k2:((20:Int)<s.length)=False:=eq_false (by omega)
   simp (disch:=omega) only [List.replicate,strs,k1,k2,es,go_sem]
   repeat' first
    |((first|apply qc|apply qb);exact rvk;simp only [go_sem];first|exact VLe.refl _|apply qd|apply qa|apply qe|skip)
    |with_reducible first|refine And.intro ?_ ?_|intro _
   all_goals try exact clz
   refine hK _ _ (i+1) ⟨hi,i3⟩ (by omega) (Wk.temps ?_)
   (simp only [strs,List.replicate,go_sem,qj,qh,qg,qi];try (repeat' first|(with_reducible refine And.intro ?_ ?_)|(apply qd;omega)|(apply qa;rfl)|exact VLe.refl _))
 ·have k1:((i:Int)<ws.length)=False:=eq_false (by omega)
  rw [qD.2 (fun j hj=>i2 j (by omega)),Bool.false_or]at hR
  have e:decide ((n:Int)<ws.length)=R:=by rw [hR];exact decide_eq_decide.2 (by omega)
  simp (disch:=omega) only [List.replicate,strs,k1,go_sem]
  repeat' first
   |((first|apply qc|apply qb);exact rvk;simp only [go_sem];first|exact VLe.refl _|apply qd|apply qa|apply qe|skip)
   |with_reducible first|refine And.intro ?_ ?_|intro _
  all_goals try exact clz
structure EnB (e:En):Prop where
 v:e.vars.length≤9223372036854775807
 s:e.sup.length≤9223372036854775807
 w: ∀i,(e.vars.getD i default).words.length≤9223372036854775807
 g: ∀i,(e.vars.getD i default).sigla.length≤9223372036854775807
def geB (e:En):Bool:=(decide (6<e.vars.length)||gwB e.sup 8)||zS (fun i=>gwB (e.vars.getD i default).words 8||gwB (e.vars.getD i default).sigla 8) e.vars.length
theorem geP (e:En) (h:List AObj) (hb:EnB e):qm Tryz.prog 112 [.agg (enC e)] h (.bool (geB e)) h:=by
 have cs:=fun h=>gwP e.sup 8 h hb.s
 have cw:=fun i h=>gwP (e.vars.getD i default).words 8 h (hb.w i)
 have cg:=fun i h=>gwP (e.vars.getD i default).sigla 8 h (hb.g i)
 have hv:=hb.v
 have z8:((8:Nat):Int)=8:=rfl
 simp only [z8]at cs cw cg
 obtain ⟨R,hR⟩: ∃R,R=geB e:=⟨_,rfl⟩
 rw [←hR]
 unfold geB at hR
 by_cases g1:6<e.vars.length
 ·have k1:((6:Int)<e.vars.length)=True:=eq_true (by omega)
  rw [decide_eq_true g1]at hR
  rw [hR]
  refine acO qkb ?_
  simp (disch:=omega) only [qm1,List.replicate,enC,qB,k1,go_sem]
  repeat' first
   |(refine qo (.bool true) ?_;simp (disch:=omega) only [enC,qB,k1,go_sem])
   |((first|apply qc|apply qb);exact rvk;simp only [go_sem];first|exact VLe.refl _|apply qd|apply qa|apply qe|skip)
   |with_reducible first|refine And.intro ?_ ?_|intro _
  all_goals try exact clz
 have k1:((6:Int)<e.vars.length)=False:=eq_false (by omega)
 rw [decide_eq_false g1,Bool.false_or]at hR
 cases g2:gwB e.sup 8 with
 |true=>
  rw [g2]at hR cs
  rw [hR]
  refine acO qkb ?_
  simp (disch:=omega) only [qm1,List.replicate,enC,qB,k1,go_sem]
  repeat' first
   |((first|refine cA (cs _) ?_ ?_|refine cG (fun e=>cs _) ?_ ?_|refine cU (fun _=>cs _) ?_ ?_);(next=>exact flk);simp (disch:=omega) only [enC,qB,k1,go_sem])
   |((first|apply qc|apply qb);exact rvk;simp only [go_sem];first|exact VLe.refl _|apply qd|apply qa|apply qe|skip)
   |with_reducible first|refine And.intro ?_ ?_|intro _
  all_goals try exact clz
 |false=>
 rw [g2,Bool.false_or]at hR
 rw [g2]at cs
 refine acO qkb ?_
 simp (disch:=omega) only [qm1,List.replicate,enC,qB,k1,go_sem]
 repeat' first
  |((first|refine cA (cs _) ?_ ?_|refine cG (fun e=>cs _) ?_ ?_|refine cU (fun _=>cs _) ?_ ?_);(next=>exact flk);simp (disch:=omega) only [enC,qB,k1,go_sem])
  |((first|apply qc|apply qb);exact rvk;simp only [go_sem];first|exact VLe.refl _|apply qd|apply qa|apply qe|skip)
  |with_reducible first|refine And.intro ?_ ?_|intro _
 all_goals try exact clz
 refine qn (T:=fun i:Nat=>qI 36 [(1,.op h.length 1 0),(3,.int .i64 i)]) (H:=fun _=>h++ [.mem 1 49 (enC e)]) (inv:=fun i=>i≤e.vars.length∧ ∀j,j<i→(fun i=>gwB (e.vars.getD i default).words 8||gwB (e.vars.getD i default).sigla 8) j=false) (m:=fun i=>e.vars.length-i) 0 ⟨Nat.zero_le _,fun j hj=>by omega⟩ ?_ ?_
 ·refine Wk.temps ?_
  (simp only [List.replicate,go_sem,qj,qh,qg,qi];try (repeat' first|(with_reducible refine And.intro ?_ ?_)|(apply qd;omega)|(apply qa;rfl)|exact VLe.refl _))
 rintro i ⟨i1,i2⟩ K hK
 by_cases hi:i<e.vars.length
 ·have k2:((i:Int)<e.vars.length)=True:=eq_true (by omega)
  have cw:=cw i
  have cg:=cg i
  have hit:(gwB (e.vars.getD i default).words 8||gwB (e.vars.getD i default).sigla 8)=true→R=true:=fun hc=>by rw [hR];exact qW.2 ⟨i,hi,hc⟩
  have i3:=fun hc=>kM (p:=fun i=>gwB (e.vars.getD i default).words 8||gwB (e.vars.getD i default).sigla 8) i2 hc
  obtain ⟨v,hv⟩: ∃v,v=e.vars.getD i default:=⟨_,rfl⟩
  have ev:=hv.symm
  simp only [ev]at cw cg hit i3
  cases g3:gwB v.words 8 with
  |true=>
   rw [g3]at cw hit
   rw [hit rfl]
   simp (disch:=omega) only [List.replicate,enC,qB,vaC,k2,ev,go_sem]
   repeat' first
    |(refine qo (.bool true) ?_;simp (disch:=omega) only [enC,qB,vaC,k2,ev,go_sem])
    |((first|refine cA (cw _) ?_ ?_|refine cG (fun e=>cw _) ?_ ?_|refine cU (fun _=>cw _) ?_ ?_);(next=>exact flk);simp (disch:=omega) only [enC,qB,vaC,k2,ev,go_sem])
    |((first|apply qc|apply qb);exact rvk;simp only [go_sem];first|exact VLe.refl _|apply qd|apply qa|apply qe|skip)
    |with_reducible first|refine And.intro ?_ ?_|intro _
   all_goals try exact clz
  |false=>
   rw [g3]at cw hit
   cases g4:gwB v.sigla 8 with
   |true=>
    rw [g4]at cg hit
    rw [hit rfl]
    simp (disch:=omega) only [List.replicate,enC,qB,vaC,k2,ev,go_sem]
    repeat' first
     |((first|refine cA (cw _) ?_ ?_|refine cG (fun e=>cw _) ?_ ?_|refine cA (cg _) ?_ ?_|refine cG (fun e=>cg _) ?_ ?_|refine cU (fun _=>cw _) ?_ ?_|refine cU (fun _=>cg _) ?_ ?_);(next=>exact flk);simp (disch:=omega) only [enC,qB,vaC,k2,ev,go_sem])
     |((first|apply qc|apply qb);exact rvk;simp only [go_sem];first|exact VLe.refl _|apply qd|apply qa|apply qe|skip)
     |with_reducible first|refine And.intro ?_ ?_|intro _
    all_goals try exact clz
   |false=>
    rw [g4]at cg
    simp (disch:=omega) only [List.replicate,enC,qB,vaC,k2,ev,go_sem]
    repeat' first
     |((first|refine cA (cw _) ?_ ?_|refine cG (fun e=>cw _) ?_ ?_|refine cA (cg _) ?_ ?_|refine cG (fun e=>cg _) ?_ ?_|refine cU (fun _=>cw _) ?_ ?_|refine cU (fun _=>cg _) ?_ ?_);(next=>exact flk);simp (disch:=omega) only [enC,qB,vaC,k2,ev,go_sem])
     |((first|apply qc|apply qb);exact rvk;simp only [go_sem];first|exact VLe.refl _|apply qd|apply qa|apply qe|skip)
     |with_reducible first|refine And.intro ?_ ?_|intro _
    all_goals try exact clz
    refine hK _ _ (i+1) ⟨hi,i3 (by rw [g3,g4];rfl)⟩ (by omega) (Wk.temps ?_)
    (simp only [List.replicate,go_sem,qj,qh,qg,qi];try (repeat' first|(with_reducible refine And.intro ?_ ?_)|(apply qd;omega)|(apply qa;rfl)|exact VLe.refl _))
 ·have k2:((i:Int)<e.vars.length)=False:=eq_false (by omega)
  rw [qD.2 (fun j hj=>i2 j (by omega))]at hR
  rw [hR]
  simp (disch:=omega) only [List.replicate,enC,qB,k2,go_sem]
  repeat' first
   |((first|apply qc|apply qb);exact rvk;simp only [go_sem];first|exact VLe.refl _|apply qd|apply qa|apply qe|skip)
   |with_reducible first|refine And.intro ?_ ?_|intro _
  all_goals try exact clz
def qtl (l:List En):Bool:=decide (10<l.length)||zS (fun i=>geB (l.getD i default)) l.length
theorem qAA (l:List En) (h:List AObj) (hb: ∀i,EnB (l.getD i default)) (hn:l.length≤9223372036854775807):qm Tryz.prog 73 [qy l] h (.bool (qtl l)) h:=by
 have c:=fun i h=>geP (l.getD i default) h (hb i)
 obtain ⟨R,hR⟩: ∃R,R=qtl l:=⟨_,rfl⟩
 rw [←hR]
 unfold qtl at hR
 by_cases g1:10<l.length
 ·have k1:((10:Int)<l.length)=True:=eq_true (by omega)
  have k2:((l.length:Int)≤10)=False:=eq_false (by omega)
  have k3:((0:Int)<l.length)=True:=eq_true (by omega)
  rw [decide_eq_true g1]at hR
  rw [hR]
  refine acO qvw ?_
  simp (disch:=omega) only [qxH,List.replicate,qy,k1,k2,k3,go_sem]
  repeat' first
   |((first|apply qc|apply qb);exact rvk;simp only [go_sem];first|exact VLe.refl _|apply qd|apply qa|apply qe|skip)
   |with_reducible first|refine And.intro ?_ ?_|intro _
  all_goals try exact clz
  refine qn (T:=fun _:Unit=>qI 23 [(0,qy l),(3,.int .i64 0)]) (H:=fun _=>h) (inv:=fun _=>True) (m:=fun _=>0) () trivial (Wk.temps ?_) ?_
  ·(simp only [qy,List.replicate,go_sem,qj,qh,qg,qi];try (repeat' first|(with_reducible refine And.intro ?_ ?_)|(apply qd;omega)|(apply qa;rfl)|exact VLe.refl _))
  rintro _ _ K hK
  simp (disch:=omega) only [List.replicate,qy,k1,k2,k3,go_sem]
  repeat' first
   |((first|apply qc|apply qb);exact rvk;simp only [go_sem];first|exact VLe.refl _|apply qd|apply qa|apply qe|skip)
   |with_reducible first|refine And.intro ?_ ?_|intro _
  all_goals try exact clz
 have k1:((10:Int)<l.length)=False:=eq_false (by omega)
 have k2:((l.length:Int)≤10)=True:=eq_true (by omega)
 rw [decide_eq_false g1,Bool.false_or]at hR
 refine acO qvw ?_
 simp (disch:=omega) only [qxH,List.replicate,qy,k1,k2,go_sem]
 repeat' first
  |((first|apply qc|apply qb);exact rvk;simp only [go_sem];first|exact VLe.refl _|apply qd|apply qa|apply qe|skip)
  |with_reducible first|refine And.intro ?_ ?_|intro _
 all_goals try exact clz
 refine qn (T:=fun i:Nat=>qI 23 [(0,qy l),(3,.int .i64 i)]) (H:=fun _=>h) (inv:=fun i=>i≤l.length∧ ∀j,j<i→(fun i=>geB (l.getD i default)) j=false) (m:=fun i=>l.length-i) 0 ⟨Nat.zero_le _,fun j hj=>by omega⟩ (Wk.temps ?_) ?_
 ·(simp only [qy,List.replicate,go_sem,qj,qh,qg,qi];try (repeat' first|(with_reducible refine And.intro ?_ ?_)|(apply qd;omega)|(apply qa;rfl)|exact VLe.refl _))
 rintro i ⟨i1,i2⟩ K hK
 by_cases hi:i<l.length
 ·have k3:((i:Int)<l.length)=True:=eq_true (by omega)
  have c:=c i
  have hit:geB (l.getD i default)=true→R=true:=fun hc=>by rw [hR];exact qW.2 ⟨i,hi,hc⟩
  have i3:=fun hc=>kM (p:=fun i=>geB (l.getD i default)) i2 hc
  obtain ⟨x,hx⟩: ∃x,x=l.getD i default:=⟨_,rfl⟩
  have ex:=hx.symm
  simp only [ex]at c hit i3
  simp only [enC]at c
  cases g3:geB x with
  |true=>
   rw [g3]at c
   rw [hit g3]
   simp (disch:=omega) only [List.replicate,qy,enC,k2,k3,ex,go_sem]
   repeat' first
    |((first|refine cA (c _) ?_ ?_|refine cG (fun e=>c _) ?_ ?_|refine cU (fun _=>c _) ?_ ?_);(next=>exact flk);simp (disch:=omega) only [qy,enC,k2,k3,ex,go_sem])
    |((first|apply qc|apply qb);exact rvk;simp only [go_sem];first|exact VLe.refl _|apply qd|apply qa|apply qe|skip)
    |with_reducible first|refine And.intro ?_ ?_|intro _
   all_goals try exact clz
  |false=>
   rw [g3]at c
   simp (disch:=omega) only [List.replicate,qy,enC,k2,k3,ex,go_sem]
   repeat' first
    |((first|refine cA (c _) ?_ ?_|refine cG (fun e=>c _) ?_ ?_|refine cU (fun _=>c _) ?_ ?_);(next=>exact flk);simp (disch:=omega) only [qy,enC,k2,k3,ex,go_sem])
    |((first|apply qc|apply qb);exact rvk;simp only [go_sem];first|exact VLe.refl _|apply qd|apply qa|apply qe|skip)
    |with_reducible first|refine And.intro ?_ ?_|intro _
   all_goals try exact clz
   refine hK _ _ (i+1) ⟨hi,i3 g3⟩ (by omega) (Wk.temps ?_)
   (simp only [qy,List.replicate,go_sem,qj,qh,qg,qi];try (repeat' first|(with_reducible refine And.intro ?_ ?_)|(apply qd;omega)|(apply qa;rfl)|exact VLe.refl _))
 ·have k3:((i:Int)<l.length)=False:=eq_false (by omega)
  rw [qD.2 (fun j hj=>i2 j (by omega))]at hR
  rw [hR]
  simp (disch:=omega) only [List.replicate,qy,k1,k2,k3,go_sem]
  repeat' first
   |((first|apply qc|apply qb);exact rvk;simp only [go_sem];first|exact VLe.refl _|apply qd|apply qa|apply qe|skip)
   |with_reducible first|refine And.intro ?_ ?_|intro _
  all_goals try exact clz
end RC
end
section
open Go Go.Proofs AF HY LN
namespace RC
set_option maxHeartbeats 8000000
def grB (g:Gr):Bool:=decide (20<g.name.length)||decide (40<g.mem.length)
def qpW (names:List Str) (gs:List Gr):Bool:=
 zS (fun i=>decide (20<(names.getD i []).length)) names.length||(zS (fun i=>grB (gs.getD i default)) gs.length||
  (((decide (8<names.length)&&decide (names.length≤32))||decide (34<names.length))||(decide (5<gs.length)&&decide (gs.length≤16))||decide (18<gs.length)))
theorem qAz (names:List Str) (gs:List Gr) (h:List AObj) (hn:names.length≤9223372036854775807) (hg:gs.length≤9223372036854775807):qm Tryz.prog 72 [strs names,qu gs] h (.bool (qpW names gs)) h:=by
 obtain ⟨R,hR⟩: ∃R,R=qpW names gs:=⟨_,rfl⟩
 rw [←hR]
 unfold qpW at hR
 refine acO qyl ?_
 simp (disch:=omega) only [qzA,List.replicate,strs,qu,go_sem]
 repeat' first
  |((first|apply qc|apply qb);exact rvk;simp only [go_sem];first|exact VLe.refl _|apply qd|apply qa|apply qe|skip)
  |with_reducible first|refine And.intro ?_ ?_|intro _
 all_goals try exact clz
 refine qn (T:=fun i:Nat=>qI 69 [(0,strs names),(1,qu gs),(5,.int .i64 i)]) (H:=fun _=>h) (inv:=fun i=>i≤names.length∧ ∀j,j<i→(fun i=>decide (20<(names.getD i []).length)) j=false) (m:=fun i=>names.length-i) 0 ⟨Nat.zero_le _,fun j hj=>by omega⟩ (Wk.temps ?_) ?_
 ·(simp only [strs,qu,List.replicate,go_sem,qj,qh,qg,qi];try (repeat' first|(with_reducible refine And.intro ?_ ?_)|(apply qd;omega)|(apply qa;rfl)|exact VLe.refl _))
 rintro i ⟨i1,i2⟩ K hK
 by_cases hi:i<names.length
 ·have k1:((i:Int)<names.length)=True:=eq_true (by omega)
  by_cases g:20<(names.getD i []).length
  ·have hV:R=true:=by rw [hR,qW.2 ⟨i,hi,decide_eq_true g⟩];rfl
   obtain ⟨s,hs⟩: ∃s,s=names.getD i []:=⟨_,rfl⟩
   have es:=hs.symm
   rw [es]at g
   have k2:((20:Int)<s.length)=True:=eq_true (by omega)
   rw [hV]
   simp (disch:=omega) only [List.replicate,strs,qu,k1,k2,es,go_sem]
   repeat' first
    |((first|apply qc|apply qb);exact rvk;simp only [go_sem];first|exact VLe.refl _|apply qd|apply qa|apply qe|skip)
    |with_reducible first|refine And.intro ?_ ?_|intro _
   all_goals try exact clz
  ·have i3:=kM i2 (decide_eq_false g)
   obtain ⟨s,hs⟩: ∃s,s=names.getD i []:=⟨_,rfl⟩
   have es:=hs.symm
   rw [es]at g
   have k2:((20:Int)<s.length)=False:=eq_false (by omega)
   simp (disch:=omega) only [List.replicate,strs,qu,k1,k2,es,go_sem]
   repeat' first
    |((first|apply qc|apply qb);exact rvk;simp only [go_sem];first|exact VLe.refl _|apply qd|apply qa|apply qe|skip)
    |with_reducible first|refine And.intro ?_ ?_|intro _
   all_goals try exact clz
   refine hK _ _ (i+1) ⟨hi,i3⟩ (by omega) (Wk.temps ?_)
   (simp only [strs,qu,List.replicate,go_sem,qj,qh,qg,qi];try (repeat' first|(with_reducible refine And.intro ?_ ?_)|(apply qd;omega)|(apply qa;rfl)|exact VLe.refl _))
 have k1:((i:Int)<names.length)=False:=eq_false (by omega)
 rw [qD.2 (fun j hj=>i2 j (by omega)),Bool.false_or]at hR
 simp (disch:=omega) only [List.replicate,strs,qu,k1,go_sem]
 repeat' first
  |((first|apply qc|apply qb);exact rvk;simp only [go_sem];first|exact VLe.refl _|apply qd|apply qa|apply qe|skip)
  |with_reducible first|refine And.intro ?_ ?_|intro _
 all_goals try exact clz
 refine qn (T:=fun i:Nat=>qI 69 [(0,strs names),(1,qu gs),(6,.int .i64 i)]) (H:=fun _=>h) (inv:=fun i=>i≤gs.length∧ ∀j,j<i→(fun i=>grB (gs.getD i default)) j=false) (m:=fun i=>gs.length-i) 0 ⟨Nat.zero_le _,fun j hj=>by omega⟩ (Wk.temps ?_) ?_
 ·(simp only [strs,qu,List.replicate,go_sem,qj,qh,qg,qi];try (repeat' first|(with_reducible refine And.intro ?_ ?_)|(apply qd;omega)|(apply qa;rfl)|exact VLe.refl _))
 clear hK K
 rintro i ⟨i1,i2⟩ K hK
 by_cases hi:i<gs.length
 ·have k1:((i:Int)<gs.length)=True:=eq_true (by omega)
  have hit:grB (gs.getD i default)=true→R=true:=fun hc=>by rw [hR,qW.2 ⟨i,hi,hc⟩];rfl
  have i3:=fun hc=>kM (p:=fun i=>grB (gs.getD i default)) i2 hc
  obtain ⟨g,hg⟩: ∃g,g=gs.getD i default:=⟨_,rfl⟩
  have eg:=hg.symm
  simp only [eg]at hit i3
  have hB:grB g=(decide (20<g.name.length)||decide (40<g.mem.length)):=rfl
  by_cases g1:20<g.name.length
  ·have k2:((20:Int)<g.name.length)=True:=eq_true (by omega)
   rw [hit (by rw [hB,decide_eq_true g1];rfl)]
   simp (disch:=omega) only [List.replicate,strs,qu,grC,k1,k2,eg,go_sem]
   repeat' first
    |((first|apply qc|apply qb);exact rvk;simp only [go_sem];first|exact VLe.refl _|apply qd|apply qa|apply qe|skip)
    |with_reducible first|refine And.intro ?_ ?_|intro _
   all_goals try exact clz
  ·have k2:((20:Int)<g.name.length)=False:=eq_false (by omega)
   by_cases g2:40<g.mem.length
   ·have k3:((40:Int)<g.mem.length)=True:=eq_true (by omega)
    rw [hit (by rw [hB,decide_eq_true g2,Bool.or_true])]
    simp (disch:=omega) only [List.replicate,strs,qu,grC,ql,k1,k2,k3,eg,go_sem]
    repeat' first
     |((first|apply qc|apply qb);exact rvk;simp only [go_sem];first|exact VLe.refl _|apply qd|apply qa|apply qe|skip)
     |with_reducible first|refine And.intro ?_ ?_|intro _
    all_goals try exact clz
   ·have k3:((40:Int)<g.mem.length)=False:=eq_false (by omega)
    simp (disch:=omega) only [List.replicate,strs,qu,grC,ql,k1,k2,k3,eg,go_sem]
    repeat' first
     |((first|apply qc|apply qb);exact rvk;simp only [go_sem];first|exact VLe.refl _|apply qd|apply qa|apply qe|skip)
     |with_reducible first|refine And.intro ?_ ?_|intro _
    all_goals try exact clz
    refine hK _ _ (i+1) ⟨hi,i3 (by rw [hB,decide_eq_false g1,decide_eq_false g2];rfl)⟩ (by omega) (Wk.temps ?_)
    (simp only [strs,qu,List.replicate,go_sem,qj,qh,qg,qi];try (repeat' first|(with_reducible refine And.intro ?_ ?_)|(apply qd;omega)|(apply qa;rfl)|exact VLe.refl _))
 have k2:((i:Int)<gs.length)=False:=eq_false (by omega)
 rw [qD.2 (fun j hj=>i2 j (by omega)),Bool.false_or]at hR
 have n1:((8:Int)<names.length)=(8<names.length):=propext (by omega)
 have n2:((names.length:Int)≤32)=(names.length≤32):=propext (by omega)
 have n3:((34:Int)<names.length)=(34<names.length):=propext (by omega)
 have n4:((5:Int)<gs.length)=(5<gs.length):=propext (by omega)
 have n5:((gs.length:Int)≤16)=(gs.length≤16):=propext (by omega)
 have n6:((18:Int)<gs.length)=(18<gs.length):=propext (by omega)
 obtain ⟨q1,h1⟩: ∃q,q=decide (8<names.length):=⟨_,rfl⟩
 obtain ⟨q2,h2⟩: ∃q,q=decide (names.length≤32):=⟨_,rfl⟩
 obtain ⟨q3,h3⟩: ∃q,q=decide (34<names.length):=⟨_,rfl⟩
 obtain ⟨q4,h4⟩: ∃q,q=decide (5<gs.length):=⟨_,rfl⟩
 obtain ⟨q5,h5⟩: ∃q,q=decide (gs.length≤16):=⟨_,rfl⟩
 obtain ⟨q6,h6⟩: ∃q,q=decide (18<gs.length):=⟨_,rfl⟩
 have e1:=h1.symm
 have e2:=h2.symm
 have e3:=h3.symm
 have e4:=h4.symm
 have e5:=h5.symm
 have e6:=h6.symm
 rw [e1,e2,e3,e4,e5,e6]at hR
 have b1:(q1=true∧q2=true)∨(q1=false∧q2=true)∨(q1=true∧q2=false)∨(q1=false∧q2=false):=by cases q1<;>cases q2<;>simp
 have b4:(q4=true∧q5=true)∨(q4=false∧q5=true)∨(q4=true∧q5=false)∨(q4=false∧q5=false):=by cases q4<;>cases q5<;>simp
 clear h1 h2 h3 h4 h5 h6
 rcases b1 with ⟨rfl,rfl⟩|⟨rfl,rfl⟩|⟨rfl,rfl⟩|⟨rfl,rfl⟩
 ·skip
  simp only [Bool.true_and,Bool.false_and,Bool.true_or,Bool.false_or]at hR
  rw [hR]
  simp (disch:=omega) only [List.replicate,strs,qu,k2,n1,n2,n3,n4,n5,n6,e1,e2,e3,e4,e5,e6,go_sem]
  repeat' first
   |((first|apply qc|apply qb);exact rvk;simp only [go_sem];first|exact VLe.refl _|apply qd|apply qa|apply qe|skip)
   |with_reducible first|refine And.intro ?_ ?_|intro _
  all_goals try exact clz
 ·skip
  cases q3 with
  |true=>
   simp only [Bool.true_and,Bool.false_and,Bool.true_or,Bool.false_or]at hR
   rw [hR]
   simp (disch:=omega) only [List.replicate,strs,qu,k2,n1,n2,n3,n4,n5,n6,e1,e2,e3,e4,e5,e6,go_sem]
   repeat' first
    |((first|apply qc|apply qb);exact rvk;simp only [go_sem];first|exact VLe.refl _|apply qd|apply qa|apply qe|skip)
    |with_reducible first|refine And.intro ?_ ?_|intro _
   all_goals try exact clz
  |false=>
   rcases b4 with ⟨rfl,rfl⟩|⟨rfl,rfl⟩|⟨rfl,rfl⟩|⟨rfl,rfl⟩
   ·skip
    simp only [Bool.true_and,Bool.false_and,Bool.true_or,Bool.false_or]at hR
    rw [hR]
    simp (disch:=omega) only [List.replicate,strs,qu,k2,n1,n2,n3,n4,n5,n6,e1,e2,e3,e4,e5,e6,go_sem]
    repeat' first
     |((first|apply qc|apply qb);exact rvk;simp only [go_sem];first|exact VLe.refl _|apply qd|apply qa|apply qe|skip)
     |with_reducible first|refine And.intro ?_ ?_|intro _
    all_goals try exact clz
   ·skip
    cases q6 with
    |true=>
     simp only [Bool.true_and,Bool.false_and,Bool.true_or,Bool.false_or]at hR
     rw [hR]
     simp (disch:=omega) only [List.replicate,strs,qu,k2,n1,n2,n3,n4,n5,n6,e1,e2,e3,e4,e5,e6,go_sem]
     repeat' first
      |((first|apply qc|apply qb);exact rvk;simp only [go_sem];first|exact VLe.refl _|apply qd|apply qa|apply qe|skip)
      |with_reducible first|refine And.intro ?_ ?_|intro _
     all_goals try exact clz
    |false=>
     simp only [Bool.true_and,Bool.false_and,Bool.true_or,Bool.false_or]at hR
     rw [hR]
     simp (disch:=omega) only [List.replicate,strs,qu,k2,n1,n2,n3,n4,n5,n6,e1,e2,e3,e4,e5,e6,go_sem]
     repeat' first
      |((first|apply qc|apply qb);exact rvk;simp only [go_sem];first|exact VLe.refl _|apply qd|apply qa|apply qe|skip)
      |with_reducible first|refine And.intro ?_ ?_|intro _
     all_goals try exact clz
   ·skip
    cases q6 with
    |true=>
     simp only [Bool.true_and,Bool.false_and,Bool.true_or,Bool.false_or]at hR
     rw [hR]
     simp (disch:=omega) only [List.replicate,strs,qu,k2,n1,n2,n3,n4,n5,n6,e1,e2,e3,e4,e5,e6,go_sem]
     repeat' first
      |((first|apply qc|apply qb);exact rvk;simp only [go_sem];first|exact VLe.refl _|apply qd|apply qa|apply qe|skip)
      |with_reducible first|refine And.intro ?_ ?_|intro _
     all_goals try exact clz
    |false=>
     simp only [Bool.true_and,Bool.false_and,Bool.true_or,Bool.false_or]at hR
     rw [hR]
     simp (disch:=omega) only [List.replicate,strs,qu,k2,n1,n2,n3,n4,n5,n6,e1,e2,e3,e4,e5,e6,go_sem]
     repeat' first
      |((first|apply qc|apply qb);exact rvk;simp only [go_sem];first|exact VLe.refl _|apply qd|apply qa|apply qe|skip)
      |with_reducible first|refine And.intro ?_ ?_|intro _
     all_goals try exact clz
   ·skip
    cases q6 with
    |true=>
     simp only [Bool.true_and,Bool.false_and,Bool.true_or,Bool.false_or]at hR
     rw [hR]
     simp (disch:=omega) only [List.replicate,strs,qu,k2,n1,n2,n3,n4,n5,n6,e1,e2,e3,e4,e5,e6,go_sem]
     repeat' first
      |((first|apply qc|apply qb);exact rvk;simp only [go_sem];first|exact VLe.refl _|apply qd|apply qa|apply qe|skip)
      |with_reducible first|refine And.intro ?_ ?_|intro _
     all_goals try exact clz
    |false=>
     simp only [Bool.true_and,Bool.false_and,Bool.true_or,Bool.false_or]at hR
     rw [hR]
     simp (disch:=omega) only [List.replicate,strs,qu,k2,n1,n2,n3,n4,n5,n6,e1,e2,e3,e4,e5,e6,go_sem]
     repeat' first
      |((first|apply qc|apply qb);exact rvk;simp only [go_sem];first|exact VLe.refl _|apply qd|apply qa|apply qe|skip)
      |with_reducible first|refine And.intro ?_ ?_|intro _
     all_goals try exact clz
 ·skip
  cases q3 with
  |true=>
   simp only [Bool.true_and,Bool.false_and,Bool.true_or,Bool.false_or]at hR
   rw [hR]
   simp (disch:=omega) only [List.replicate,strs,qu,k2,n1,n2,n3,n4,n5,n6,e1,e2,e3,e4,e5,e6,go_sem]
   repeat' first
    |((first|apply qc|apply qb);exact rvk;simp only [go_sem];first|exact VLe.refl _|apply qd|apply qa|apply qe|skip)
    |with_reducible first|refine And.intro ?_ ?_|intro _
   all_goals try exact clz
  |false=>
   rcases b4 with ⟨rfl,rfl⟩|⟨rfl,rfl⟩|⟨rfl,rfl⟩|⟨rfl,rfl⟩
   ·skip
    simp only [Bool.true_and,Bool.false_and,Bool.true_or,Bool.false_or]at hR
    rw [hR]
    simp (disch:=omega) only [List.replicate,strs,qu,k2,n1,n2,n3,n4,n5,n6,e1,e2,e3,e4,e5,e6,go_sem]
    repeat' first
     |((first|apply qc|apply qb);exact rvk;simp only [go_sem];first|exact VLe.refl _|apply qd|apply qa|apply qe|skip)
     |with_reducible first|refine And.intro ?_ ?_|intro _
    all_goals try exact clz
   ·skip
    cases q6 with
    |true=>
     simp only [Bool.true_and,Bool.false_and,Bool.true_or,Bool.false_or]at hR
     rw [hR]
     simp (disch:=omega) only [List.replicate,strs,qu,k2,n1,n2,n3,n4,n5,n6,e1,e2,e3,e4,e5,e6,go_sem]
     repeat' first
      |((first|apply qc|apply qb);exact rvk;simp only [go_sem];first|exact VLe.refl _|apply qd|apply qa|apply qe|skip)
      |with_reducible first|refine And.intro ?_ ?_|intro _
     all_goals try exact clz
    |false=>
     simp only [Bool.true_and,Bool.false_and,Bool.true_or,Bool.false_or]at hR
     rw [hR]
     simp (disch:=omega) only [List.replicate,strs,qu,k2,n1,n2,n3,n4,n5,n6,e1,e2,e3,e4,e5,e6,go_sem]
     repeat' first
      |((first|apply qc|apply qb);exact rvk;simp only [go_sem];first|exact VLe.refl _|apply qd|apply qa|apply qe|skip)
      |with_reducible first|refine And.intro ?_ ?_|intro _
     all_goals try exact clz
   ·skip
    cases q6 with
    |true=>
     simp only [Bool.true_and,Bool.false_and,Bool.true_or,Bool.false_or]at hR
     rw [hR]
     simp (disch:=omega) only [List.replicate,strs,qu,k2,n1,n2,n3,n4,n5,n6,e1,e2,e3,e4,e5,e6,go_sem]
     repeat' first
      |((first|apply qc|apply qb);exact rvk;simp only [go_sem];first|exact VLe.refl _|apply qd|apply qa|apply qe|skip)
      |with_reducible first|refine And.intro ?_ ?_|intro _
     all_goals try exact clz
    |false=>
     simp only [Bool.true_and,Bool.false_and,Bool.true_or,Bool.false_or]at hR
     rw [hR]
     simp (disch:=omega) only [List.replicate,strs,qu,k2,n1,n2,n3,n4,n5,n6,e1,e2,e3,e4,e5,e6,go_sem]
     repeat' first
      |((first|apply qc|apply qb);exact rvk;simp only [go_sem];first|exact VLe.refl _|apply qd|apply qa|apply qe|skip)
      |with_reducible first|refine And.intro ?_ ?_|intro _
     all_goals try exact clz
   ·skip
    cases q6 with
    |true=>
     simp only [Bool.true_and,Bool.false_and,Bool.true_or,Bool.false_or]at hR
     rw [hR]
     simp (disch:=omega) only [List.replicate,strs,qu,k2,n1,n2,n3,n4,n5,n6,e1,e2,e3,e4,e5,e6,go_sem]
     repeat' first
      |((first|apply qc|apply qb);exact rvk;simp only [go_sem];first|exact VLe.refl _|apply qd|apply qa|apply qe|skip)
      |with_reducible first|refine And.intro ?_ ?_|intro _
     all_goals try exact clz
    |false=>
     simp only [Bool.true_and,Bool.false_and,Bool.true_or,Bool.false_or]at hR
     rw [hR]
     simp (disch:=omega) only [List.replicate,strs,qu,k2,n1,n2,n3,n4,n5,n6,e1,e2,e3,e4,e5,e6,go_sem]
     repeat' first
      |((first|apply qc|apply qb);exact rvk;simp only [go_sem];first|exact VLe.refl _|apply qd|apply qa|apply qe|skip)
      |with_reducible first|refine And.intro ?_ ?_|intro _
     all_goals try exact clz
 ·skip
  cases q3 with
  |true=>
   simp only [Bool.true_and,Bool.false_and,Bool.true_or,Bool.false_or]at hR
   rw [hR]
   simp (disch:=omega) only [List.replicate,strs,qu,k2,n1,n2,n3,n4,n5,n6,e1,e2,e3,e4,e5,e6,go_sem]
   repeat' first
    |((first|apply qc|apply qb);exact rvk;simp only [go_sem];first|exact VLe.refl _|apply qd|apply qa|apply qe|skip)
    |with_reducible first|refine And.intro ?_ ?_|intro _
   all_goals try exact clz
  |false=>
   rcases b4 with ⟨rfl,rfl⟩|⟨rfl,rfl⟩|⟨rfl,rfl⟩|⟨rfl,rfl⟩
   ·skip
    simp only [Bool.true_and,Bool.false_and,Bool.true_or,Bool.false_or]at hR
    rw [hR]
    simp (disch:=omega) only [List.replicate,strs,qu,k2,n1,n2,n3,n4,n5,n6,e1,e2,e3,e4,e5,e6,go_sem]
    repeat' first
     |((first|apply qc|apply qb);exact rvk;simp only [go_sem];first|exact VLe.refl _|apply qd|apply qa|apply qe|skip)
     |with_reducible first|refine And.intro ?_ ?_|intro _
    all_goals try exact clz
   ·skip
    cases q6 with
    |true=>
     simp only [Bool.true_and,Bool.false_and,Bool.true_or,Bool.false_or]at hR
     rw [hR]
     simp (disch:=omega) only [List.replicate,strs,qu,k2,n1,n2,n3,n4,n5,n6,e1,e2,e3,e4,e5,e6,go_sem]
     repeat' first
      |((first|apply qc|apply qb);exact rvk;simp only [go_sem];first|exact VLe.refl _|apply qd|apply qa|apply qe|skip)
      |with_reducible first|refine And.intro ?_ ?_|intro _
     all_goals try exact clz
    |false=>
     simp only [Bool.true_and,Bool.false_and,Bool.true_or,Bool.false_or]at hR
     rw [hR]
     simp (disch:=omega) only [List.replicate,strs,qu,k2,n1,n2,n3,n4,n5,n6,e1,e2,e3,e4,e5,e6,go_sem]
     repeat' first
      |((first|apply qc|apply qb);exact rvk;simp only [go_sem];first|exact VLe.refl _|apply qd|apply qa|apply qe|skip)
      |with_reducible first|refine And.intro ?_ ?_|intro _
     all_goals try exact clz
   ·skip
    cases q6 with
    |true=>
     simp only [Bool.true_and,Bool.false_and,Bool.true_or,Bool.false_or]at hR
     rw [hR]
     simp (disch:=omega) only [List.replicate,strs,qu,k2,n1,n2,n3,n4,n5,n6,e1,e2,e3,e4,e5,e6,go_sem]
     repeat' first
      |((first|apply qc|apply qb);exact rvk;simp only [go_sem];first|exact VLe.refl _|apply qd|apply qa|apply qe|skip)
      |with_reducible first|refine And.intro ?_ ?_|intro _
     all_goals try exact clz
    |false=>
     simp only [Bool.true_and,Bool.false_and,Bool.true_or,Bool.false_or]at hR
     rw [hR]
     simp (disch:=omega) only [List.replicate,strs,qu,k2,n1,n2,n3,n4,n5,n6,e1,e2,e3,e4,e5,e6,go_sem]
     repeat' first
      |((first|apply qc|apply qb);exact rvk;simp only [go_sem];first|exact VLe.refl _|apply qd|apply qa|apply qe|skip)
      |with_reducible first|refine And.intro ?_ ?_|intro _
     all_goals try exact clz
   ·skip
    cases q6 with
    |true=>
     simp only [Bool.true_and,Bool.false_and,Bool.true_or,Bool.false_or]at hR
     rw [hR]
     simp (disch:=omega) only [List.replicate,strs,qu,k2,n1,n2,n3,n4,n5,n6,e1,e2,e3,e4,e5,e6,go_sem]
     repeat' first
      |((first|apply qc|apply qb);exact rvk;simp only [go_sem];first|exact VLe.refl _|apply qd|apply qa|apply qe|skip)
      |with_reducible first|refine And.intro ?_ ?_|intro _
     all_goals try exact clz
    |false=>
     simp only [Bool.true_and,Bool.false_and,Bool.true_or,Bool.false_or]at hR
     rw [hR]
     simp (disch:=omega) only [List.replicate,strs,qu,k2,n1,n2,n3,n4,n5,n6,e1,e2,e3,e4,e5,e6,go_sem]
     repeat' first
      |((first|apply qc|apply qb);exact rvk;simp only [go_sem];first|exact VLe.refl _|apply qd|apply qa|apply qe|skip)
      |with_reducible first|refine And.intro ?_ ?_|intro _
     all_goals try exact clz
def zx (names:List Str) (gs:List Gr) (t:List Str) (l:List En):List AV:= [strs names,qu gs,strs t,qy l]
structure CB (names:List Str) (gs:List Gr) (t:List Str) (l:List En):Prop where
 hn:names.length≤9223372036854775807
 hg:gs.length≤9223372036854775807
 ht:t.length≤9223372036854775807
 hl:l.length≤9223372036854775807
 he: ∀i,EnB (l.getD i default)
def qeH (names:List Str) (gs:List Gr) (t:List Str) (l:List En):Bool:=zS (fun i=>decide (70<(t.getD i []).length)) t.length||((qpW names gs||decide (24<t.length))||qtl l)
theorem qAB (names:List Str) (gs:List Gr) (t:List Str) (l:List En) (h:List AObj) (hb:CB names gs t l):qm Tryz.prog 41 [strs names,qu gs,strs t,qy l] h (.bool (qeH names gs t l)) h:=by
 have c72:=fun h=>qAz names gs h hb.hn hb.hg
 have c73:=fun h=>qAA l h hb.he hb.hl
 have ht:=hb.ht
 obtain ⟨R,hR⟩: ∃R,R=qeH names gs t l:=⟨_,rfl⟩
 rw [←hR]
 unfold qeH at hR
 refine acO qx8 ?_
 simp (disch:=omega) only [qzo,List.replicate,go_sem]
 repeat' first
  |((first|apply qc|apply qb);exact rvk;simp only [go_sem];first|exact VLe.refl _|apply qd|apply qa|apply qe|skip)
  |with_reducible first|refine And.intro ?_ ?_|intro _
 all_goals try exact clz
 refine qn (T:=fun i:Nat=>qI 34 [(0,strs names),(1,qu gs),(2,strs t),(3,qy l),(9,.int .i64 i)]) (H:=fun _=>h) (inv:=fun i=>i≤t.length∧ ∀j,j<i→(fun i=>decide (70<(t.getD i []).length)) j=false) (m:=fun i=>t.length-i) 0 ⟨Nat.zero_le _,fun j hj=>by omega⟩ (Wk.temps ?_) ?_
 ·(simp only [List.replicate,go_sem,qj,qh,qg,qi];try (repeat' first|(with_reducible refine And.intro ?_ ?_)|(apply qd;omega)|(apply qa;rfl)|exact VLe.refl _))
 rintro i ⟨i1,i2⟩ K hK
 by_cases hi:i<t.length
 ·have k1:((i:Int)<t.length)=True:=eq_true (by omega)
  by_cases g:70<(t.getD i []).length
  ·have hV:R=true:=by rw [hR,qW.2 ⟨i,hi,decide_eq_true g⟩];rfl
   obtain ⟨s,hs⟩: ∃s,s=t.getD i []:=⟨_,rfl⟩
   have es:=hs.symm
   rw [es]at g
   have k2:((70:Int)<s.length)=True:=eq_true (by omega)
   rw [hV]
   simp (disch:=omega) only [List.replicate,strs,k1,k2,es,go_sem]
   repeat' first
    |((first|apply qc|apply qb);exact rvk;simp only [go_sem];first|exact VLe.refl _|apply qd|apply qa|apply qe|skip)
    |with_reducible first|refine And.intro ?_ ?_|intro _
   all_goals try exact clz
  ·have i3:=kM i2 (decide_eq_false g)
   obtain ⟨s,hs⟩: ∃s,s=t.getD i []:=⟨_,rfl⟩
   have es:=hs.symm
   rw [es]at g
   have k2:((70:Int)<s.length)=False:=eq_false (by omega)
   simp (disch:=omega) only [List.replicate,strs,k1,k2,es,go_sem]
   repeat' first
    |((first|apply qc|apply qb);exact rvk;simp only [go_sem];first|exact VLe.refl _|apply qd|apply qa|apply qe|skip)
    |with_reducible first|refine And.intro ?_ ?_|intro _
   all_goals try exact clz
   refine hK _ _ (i+1) ⟨hi,i3⟩ (by omega) (Wk.temps ?_)
   (simp only [strs,List.replicate,go_sem,qj,qh,qg,qi];try (repeat' first|(with_reducible refine And.intro ?_ ?_)|(apply qd;omega)|(apply qa;rfl)|exact VLe.refl _))
 have k1:((i:Int)<t.length)=False:=eq_false (by omega)
 rw [qD.2 (fun j hj=>i2 j (by omega)),Bool.false_or]at hR
 have zl: ∀g,valL g .len [strs t]= .int .i64 t.length:=fun _=>rfl
 have zo: ∀g,okL g .len [strs t]=True:=fun _=>eq_true trivial
 cases g1:qpW names gs with
 |true=>
  rw [g1]at hR
  simp only [g1]at c72
  rw [hR]
  simp (disch:=omega) only [List.replicate,zl,zo,k1,go_sem]
  repeat' first
   |(refine qo (.bool true) ?_;simp (disch:=omega) only [zl,zo,k1,go_sem])
   |((first|refine cA (c72 _) ?_ ?_|refine cG (fun e=>c72 _) ?_ ?_|refine cU (fun _=>c72 _) ?_ ?_);(next=>exact flk);simp (disch:=omega) only [zl,zo,k1,go_sem])
   |((first|apply qc|apply qb);exact rvk;simp only [go_sem];first|exact VLe.refl _|apply qd|apply qa|apply qe|skip)
   |with_reducible first|refine And.intro ?_ ?_|intro _
  all_goals try exact clz
 |false=>
  rw [g1,Bool.false_or]at hR
  simp only [g1]at c72
  by_cases g2:24<t.length
  ·have k2:((24:Int)<t.length)=True:=eq_true (by omega)
   rw [decide_eq_true g2]at hR
   rw [hR]
   simp (disch:=omega) only [List.replicate,zl,zo,k1,go_sem]
   repeat' first
    |(refine qo (.bool true) ?_;simp (disch:=omega) only [zl,zo,k1,k2,go_sem])
    |((first|refine cA (c72 _) ?_ ?_|refine cG (fun e=>c72 _) ?_ ?_|refine cU (fun _=>c72 _) ?_ ?_);(next=>exact flk);simp (disch:=omega) only [zl,zo,k1,k2,go_sem])
    |((first|apply qc|apply qb);exact rvk;simp only [go_sem];first|exact VLe.refl _|apply qd|apply qa|apply qe|skip)
    |with_reducible first|refine And.intro ?_ ?_|intro _
   all_goals try exact clz
  ·have k2:((24:Int)<t.length)=False:=eq_false (by omega)
   rw [decide_eq_false g2,Bool.false_or]at hR
   rw [←hR]at c73
   simp (disch:=omega) only [List.replicate,zl,zo,k1,go_sem]
   repeat' first
    |((first|refine cA (c72 _) ?_ ?_|refine cG (fun e=>c72 _) ?_ ?_|refine cA (c73 _) ?_ ?_|refine cG (fun e=>c73 _) ?_ ?_|refine cU (fun _=>c72 _) ?_ ?_|refine cU (fun _=>c73 _) ?_ ?_);(next=>exact flk);simp (disch:=omega) only [zl,zo,k1,k2,go_sem])
    |((first|apply qc|apply qb);exact rvk;simp only [go_sem];first|exact VLe.refl _|apply qd|apply qa|apply qe|skip)
    |with_reducible first|refine And.intro ?_ ?_|intro _
   all_goals try exact clz
theorem qAE (names:List Str) (gs:List Gr) (t:List Str) (l:List En) (h:List AObj) (hb:CB names gs t l):qm Tryz.prog 10 [.agg (zx names gs t l)] h (.bool (qeH names gs t l)) h:=by
 have c41:=fun h=>qAB names gs t l h hb
 refine acO qx1 ?_
 simp (disch:=omega) only [qzj,List.replicate,zx,go_sem]
 repeat' first
  |((first|refine cA (c41 _) ?_ ?_|refine cG (fun e=>c41 _) ?_ ?_|refine cU (fun _=>c41 _) ?_ ?_);(next=>exact flk);simp (disch:=omega) only [zx,go_sem])
  |((first|apply qc|apply qb);exact rvk;simp only [go_sem];first|exact VLe.refl _|apply qd|apply qa|apply qe|skip)
  |with_reducible first|refine And.intro ?_ ?_|intro _
 all_goals try exact clz
theorem qkn {ws:List Str} {n:Nat} (h:gwB ws n=false):ws.length≤n∧ ∀i,(ws.getD i []).length≤20:=by
 unfold gwB at h
 rw [Bool.or_eq_false_iff,decide_eq_false_iff_not,qD]at h
 refine ⟨by omega,fun i=> ?_⟩
 by_cases hi:i<ws.length
 ·have:=of_decide_eq_false (h.1 i hi)
  omega
 ·rw [gdqA,List.getElem?_eq_none (by omega)]
  exact Nat.zero_le _
theorem qvE {e:En} (h:geB e=false):e.vars.length≤6∧e.sup.length≤8∧ ∀i,((e.vars.getD i default).words.length≤8∧ ∀j,((e.vars.getD i default).words.getD j []).length≤20)∧(e.vars.getD i default).sigla.length≤8:=by
 unfold geB at h
 rw [Bool.or_eq_false_iff,Bool.or_eq_false_iff,decide_eq_false_iff_not,qD]at h
 refine ⟨by omega,(qkn h.1.2).1,fun i=> ?_⟩
 by_cases hi:i<e.vars.length
 ·have:=h.2 i hi
  simp only [Bool.or_eq_false_iff]at this
  exact ⟨qkn this.1,(qkn this.2).1⟩
 ·rw [gdqA,List.getElem?_eq_none (by omega)]
  exact ⟨⟨Nat.zero_le _,fun j=>Nat.zero_le _⟩,Nat.zero_le _⟩
theorem qrx {l:List En} (h:qtl l=false):l.length≤10∧ ∀i,geB (l.getD i default)=false:=by
 unfold qtl at h
 rw [Bool.or_eq_false_iff,decide_eq_false_iff_not,qD]at h
 refine ⟨by omega,fun i=> ?_⟩
 by_cases hi:i<l.length
 ·exact h.2 i hi
 ·rw [gdqA,List.getElem?_eq_none (by omega)]
  rfl
theorem qrw {names:List Str} {gs:List Gr} (h:qpW names gs=false):names.length≤34∧gs.length≤18∧(∀i,(names.getD i []).length≤20)∧ ∀i,(gs.getD i default).name.length≤20∧(gs.getD i default).mem.length≤40:=by
 unfold qpW at h
 simp only [Bool.or_eq_false_iff,decide_eq_false_iff_not,qD]at h
 obtain ⟨h1,h2,⟨⟨_,h3⟩,_⟩,h4⟩:=h
 refine ⟨by omega,by omega,fun i=> ?_,fun i=> ?_⟩
 ·by_cases hi:i<names.length
  ·have:=h1 i hi
   omega
  ·rw [gdqA,List.getElem?_eq_none (by omega)]
   exact Nat.zero_le _
 ·by_cases hi:i<gs.length
  ·have:=h2 i hi
   unfold grB at this
   simp only [Bool.or_eq_false_iff,decide_eq_false_iff_not]at this
   omega
  ·rw [gdqA,List.getElem?_eq_none (by omega)]
   exact ⟨Nat.zero_le _,Nat.zero_le _⟩
theorem qdb {names:List Str} {gs:List Gr} {t:List Str} {l:List En} (h:qeH names gs t l=false):CSz names gs t l:=by
 unfold qeH at h
 simp only [Bool.or_eq_false_iff,decide_eq_false_iff_not,qD]at h
 obtain ⟨h1,⟨h2,h3⟩,h4⟩:=h
 obtain ⟨a1,a2,a3,a4⟩:=qrw h2
 obtain ⟨b1,b2⟩:=qrx h4
 have b3:=fun i=>qvE (b2 i)
 have ht: ∀i,(t.getD i []).length≤70:=fun i=>by
  by_cases hi:i<t.length
  ·have:=h1 i hi
   omega
  ·rw [gdqA,List.getElem?_eq_none (by omega)]
   exact Nat.zero_le _
 refine ⟨⟨by omega,by omega,fun i=>by have:=a3 i;omega,fun i=>by have:=(a4 i).1;omega,fun i=>by have:=(a4 i).2;omega⟩,⟨by omega,fun j=>by have:=ht j;omega⟩,by omega,b1,by omega,fun i=>by have:=(a4 i).2;omega,fun i=>⟨by have:=(b3 i).2.1;omega,by have:=(b3 i).1;omega,fun j=>⟨by have:=((b3 i).2.2 j).1.1;omega,fun k=>by have:=((b3 i).2.2 j).1.2 k;omega⟩,fun j=>by have:=((b3 i).2.2 j).2;omega⟩,
  fun i=>by have:=(b3 i).1;omega,fun i j=>by have:=((b3 i).2.2 j).2;omega,fun i j=>by have:=((b3 i).2.2 j).1.1;omega,fun i=>by have:=(b3 i).2.1;omega⟩
end RC
end
section
open Go Go.Proofs AF
def qrG:List Nat:= [93,74,79,120,147,148,161,170,63,105,131,64,31,32,57,58,29,30]
def qzq:C:=
 ((C.ops [O1 2 (.box 0 71) 0,ON 4 (.nilo 1 1 9) []]).seq ((C.ops [O1 9 (.fldA 2) 2,LD 10 9,⟨some 11,none,.build [.nl,i6 0,.nl] [(0,1)],[.t 10]⟩,⟨some 5,none,.alloc 2 102
 [.nl,i6 0,.nl],[]⟩,ST 3 5 11]).seq ((C.wk.seq (C.ops [O1 12 (.mkfn (Fn.func 74) 1) 5,⟨some 6,none,.alloc 3 103 [.nilfn],[]⟩,ST 1 6 12])).seq (((C.ops [O1 13 (.load (some
 5)) 2,MV 14 1,O2 15 (.call 75 true) 13 14]).seq (C.block 0 (C.range (.t 15) [16,17] ((C.ops [⟨some 7,none,.alloc 4 49 [i6 0,i6 0,i6 0,.bool false,.nl,.nl],[]⟩,ST 6 7
 16]).seq (C.ops [MV 8 17])) (C.block 1 ((C.ops [LD 18 6,O1 19 (.fldA 1) 7,LD 20 19,O2 21 .callv 18 20]).seq ((C.ops [O1 22 (.fldA 2) 5,LD 23 22,MV 24 8,O2 25 (.app 5 1 9 16)
 23 24,O1 26 (.fldA 2) 5,ST 1 26 25]).seq (C.ops [O1 27 (.fldA 2) 7,LD 28 27,O1 29 (.fldA 1) 5,ST 1 29 28]))))))).seq ((C.ops [LD 30 6,O1 31 (.fldA 2) 2,LD 32 31,O1 33 .len
 32,O2 34 .callv 30 33]).seq ((C.ops [O1 35 (.fldA 2) 5,LD 36 35,MV 4 36]).seq
 C.ret))))))
theorem qya:qJ Tryz.prog 44 37 6 [RV.tmp 4] qzq:=fi Tryz.f44 [2,4,5,6,7,25] qrG [2] (by kernel_rfl) (by kernel_rfl) (by kernel_rfl) (by kernel_rfl)
end
section
open Go Go.Proofs AF HY LN
namespace AF
theorem qdQ {P:Program} {f:FuncId} {first cap args:List AV} {d:Option Nat} {nx:Nx} {t:List AV} {h h':List AObj} {r:AV} (hc:qm P f (first++args++cap) h r h') (hn:nx (qG t d r) h'):qaW P (.fn (.func f) first cap::args) d nx t h:=⟨r,h',hc,hn⟩
theorem qat {v w c n:Nat} {ty:TypeId} {cs ms:List AV} (hc:c=cs.length) (hn:n=ms.length):qdH (some (zk v ty cs)) ty w c n ms=zk (w+1) ty (cs++ms):=by
 subst hc;subst hn
 unfold zk
 by_cases h:cs= []
 ·subst h
  rw [if_pos rfl,List.nil_append]
  by_cases g:ms= []
  ·subst g;rfl
  ·rw [if_neg g]
   unfold qdH
   simp [g]
 ·rw [if_neg h,if_neg (by simp [h])]
  simp [qdH]
theorem qhh {h:List AObj} {k ko:Nat} {o o':AObj} (hk:k<h.length):qA k (qE k (qE ko h o) o')=some o':=jc (by rw [qV];exact hk)
theorem ki {v:Nat} {ty:TypeId} {cs:List AV} {n:Nat} (h: ∀c∈cs,zE n c=true):qai n (zk v ty cs):=by
 unfold zk
 split
 ·trivial
 ·exact h
theorem qk7 {v w:Nat} {ty:TypeId} {cs:List AV}:qge (some (zk v ty cs)) w=(v==w):=by unfold zk;split<;>rfl
theorem qhz {v:Nat} {ty:TypeId} {cs:List AV}:(qeT (some (zk v ty cs)) v).getD []=cs:=by
 unfold zk
 split
 ·rename_i e;rw [e];rfl
 ·rw [qb2,if_pos rfl];rfl
end AF
namespace RC
theorem qe3 (e:En) (n:Nat): ∀c∈enC e,zE n c=true:=by
 intro c hc
 simp only [enC,List.mem_cons,List.not_mem_nil,or_false]at hc
 rcases hc with rfl|rfl|rfl|rfl|rfl|rfl<;>rfl
set_option maxHeartbeats 8000000
theorem qhN (L:List Str):(strs L).solid=true:=rfl
theorem qgY (L:List Str):(strs L).cells= [strs L]:=rfl
theorem qeN {k v z p n:Nat} (L:List Str):qas (.osl k v z p n) (strs L)=true:=rfl
attribute [go_sem] qhN qgY qeN
theorem qdu (L:List Str) (n:Nat): ∀c∈jH L,zE n c=true:=by
 intro c hc
 unfold jH at hc
 obtain ⟨x,_,rfl⟩:=List.mem_map.1 hc
 rfl
theorem qqQ {k ko vk v m:Nat} {a:Int} {h:List AObj} {ty:TypeId} {t L:List Str} (hkl:k<h.length) (hjl:ko<h.length): ∀o∈qE k (qE ko h (zk v 9 (jH L))) (.mem vk ty [strs t,.int .i64 a,.osl ko v 1 0 m]),o∈h∨qai h.length o:=by
 intro o ho
 rcases qaJ ho with h1|rfl
 ·rcases qaJ h1 with h2|rfl
  ·exact .inl h2
  ·exact .inr (ki (qdu L _))
 ·right
  intro c hc
  simp only [List.mem_cons,List.not_mem_nil,or_false]at hc
  rcases hc with rfl|rfl|rfl
  ·rfl
  ·rfl
  ·simpa [zE] using hjl
theorem qzO (t out:List Str) (a to k ko vk vo:Nat) (ty:TypeId) (h:List AObj) (hne:ko≠k) (hk:qA k h=some (.mem vk ty [strs t,.int .i64 a,.osl ko vo 1 0 out.length])) (hj:qA ko h=some (zk vo 9 (jH out))) (h1:a≤to) (h2:to≤t.length) (hb:out.length+t.length≤1000000000000):
  qm Tryz.prog 74 [.op k vk 0,.int .i64 to] h (.tup []) (qE k (qE ko h (zk (vo+1) 9 (jH (out++j8 t a to)))) (.mem vk ty [strs t,.int .i64 to,.osl ko (vo+1) 1 0 (out++j8 t a to).length])):=by
 have hkl:=zN hk
 have hjl:=zN hj
 have hne':k≠ko:=fun e=>hne e.symm
 have q1:((a:Int)≤to)=True:=eq_true (by omega)
 have q2:((to:Int)≤t.length)=True:=eq_true (by omega)
 have q3:(0≤(a:Int))=True:=eq_true (by omega)
 have rt:((to:Int)-a).toNat=to-a:=by omega
 have eS:=fun h=>qfu h h1 h2
 have eC:=zY (j8 t a to)
 have eL:=qbV h1 h2
 have eO:=zY out
 have eA:qdH (some (zk vo 9 (jH out))) 9 vo out.length (to-a) (jH (j8 t a to))=zk (vo+1) 9 (jH (out++j8 t a to)):=by
  rw [qbU];exact qat eO.symm (by omega)
 have hk1: ∀l,qA k (h++l)=some (.mem vk ty [strs t,.int .i64 a,.osl ko vo 1 0 out.length]):=fun l=>by rw [jx hkl,hk]
 have hj1: ∀l,qA ko (h++l)=some (zk vo 9 (jH out)):=fun l=>by rw [jx hjl,hj]
 refine acO qym ?_
 simp (disch:=omega) only [qzB,List.replicate,qcm,jc,qhh,eA,hk1,hj1,qeU,qea,qb2,qhn,hk,hj,q1,q2,q3,rt,Int.toNat_natCast,strs,eS,qk7,qhz,qbk,qrz,qrA,qsz,qsA,go_sem]
 repeat' first
  |((first|apply qc|apply qb);exact rvk;simp only [go_sem];first|exact VLe.refl _|apply qd|apply qa|apply qe|skip)
  |with_reducible first|refine And.intro ?_ ?_|intro _
 all_goals try exact clz
 have eLn:(out++j8 t a to).length=out.length+(to-a):=by rw [List.length_append,eL]
 rw [eLn]
 exact qkf trivial (by simp only [qV]) (qqQ hkl hjl) ⟨rfl,rfl⟩ (VLe.refl _)
theorem qgy {v:Nat} {L:List Str} {g:AV→AV} {n:Nat} (hg: ∀s,g (.str s)= .str s) (hn:n=L.length):VLe (qex (some (zk v 9 (jH L))) v 1 0 n g) (strs L):=by
 subst hn
 by_cases h:L= []
 ·subst h
  show VLe (qex (some (.emp v)) v 1 0 0 g) _
  rw [slOf_emp,if_pos rfl]
  exact jn
 ·have e0:zk v 9 (jH L)= .mem v 9 (jH L):=jA (fun e=>h (qo4.1 e))
  rw [e0,slOf_mem,if_pos ⟨rfl,by rw [zY];omega⟩]
  simp only [Nat.zero_add,Nat.mul_one]
  exact qo5 g hg rfl
theorem qz4 (names:List Str) (gs:List Gr) (t:List Str) (L:List En) (src:Int) (h:List AObj) (hl:L.length≤10) (hv: ∀i,(L.getD i default).vars.length≤1000) (hw: ∀i j,((L.getD i default).vars.getD j default).words.length≤1000) (ht:t.length≤1000)
  (ok:qw8 t (L.filter (qar names gs src))):
  qm Tryz.prog 44 [.agg (edL names gs t L),.int .i64 src] h (strs (qpi names gs t src (L.filter (qar names gs src)) 0)) h:=by
 have c75:=fun h=>ofP names gs t L src h
 have hle:=List.length_filter_le (qar names gs src) L
 have hall:=qpj names gs t src (L.filter (qar names gs src))
 have hat:=fun i=>qsL (names:=names) (gs:=gs) (src:=src) ok i
 have hbnd:=fun i=>qsN (names:=names) (gs:=gs) (src:=src) ok i
 have hrg:=ok.rg
 have hlen: ∀i,i≤(L.filter (qar names gs src)).length→(qcr names gs t src ((L.filter (qar names gs src)).take i)).1.length≤i*(t.length+1000):=qpk (fun i hi k=>by
  have hm:=(List.mem_filter.1 (jw hi)).1
  obtain ⟨j,hj,e⟩:=List.getElem_of_mem hm
  have:=hw j k
  rw [gdqA (l:=L),qR hj]at this
  rw [←e]
  exact this)
 have hlen: ∀i,i≤(L.filter (qar names gs src)).length→(qcr names gs t src ((L.filter (qar names gs src)).take i)).1.length≤20000:=fun i hi=>by
  have h1:=hlen i hi
  have h2:i*(t.length+1000)≤10*2000:=Nat.mul_le_mul (by omega) (by omega)
  omega
 have hst:=fun {i} hi=>qaP (names:=names) (gs:=gs) (t:=t) (src:=src) (L:=L.filter (qar names gs src)) (i:=i) hi
 have hwl: ∀i,i<(L.filter (qar names gs src)).length→(qij names gs ((L.filter (qar names gs src)).getD i default) src).length≤1000:=fun i hi=>by
  have hm:=(List.mem_filter.1 (jw hi)).1
  obtain ⟨j,hj,e⟩:=List.getElem_of_mem hm
  have:=fun k=>hw j k
  rw [gdqA (l:=L),qR hj]at this
  rw [←e]
  exact qmA this
 obtain ⟨F,hF⟩: ∃F,F=L.filter (qar names gs src):=⟨_,rfl⟩
 rw [←hF]at hall hle
 simp only [←hF]at hat hbnd hrg hlen hst hwl
 rw [←hF,←hall]
 unfold edL at c75
 refine acO qya ?_
 simp (disch:=omega) only [qzq,List.replicate,edL,go_sem]
 repeat' first
  |((first|apply qc|apply qb);exact rvk;simp only [go_sem];first|exact VLe.refl _|apply qd|apply qa|apply qe|skip)
  |with_reducible first|refine And.intro ?_ ?_|intro _
 all_goals try exact clz
 refine ⟨_,_,Wk.ownNil (j:=h.length+2) (i:=2) (k:=h.length+5) (ve:=0) (v:=1) (ty:=102) (cs:= [strs t,.int .i64 0,.nl]) (sz:=1) (by simp only [go_sem]) rfl (by simp only [go_sem]),?_⟩
 simp (disch:=omega) only [List.set_cons_succ,List.set_cons_zero,go_sem]
 repeat' first
  |((first|refine cA (c75 _) ?_ ?_|refine cG (fun e=>c75 _) ?_ ?_|refine cU (fun _=>c75 _) ?_ ?_);(next=>exact flk);simp (disch:=omega) only [go_sem])
  |((first|apply qc|apply qb);exact rvk;simp only [go_sem];first|exact VLe.refl _|apply qd|apply qa|apply qe|skip)
  |with_reducible first|refine And.intro ?_ ?_|intro _
 all_goals try exact clz
 refine kj (xs:=xsE names gs L src) (itO names gs t L src (by omega) (fun i=>by have:=hv i;omega)) (qfS names gs L src)
  (S:=fun i hh=> ∃v O,qH [O] 0=true∧(∀n,qai n O)∧hh=h++ [.mem 1 71 (edL names gs t L),.emp 1,.mem 1 102 [strs t,.int .i64 (qcr names gs t src (F.take i)).2,.osl (h.length+5) v 1 0 (qcr names gs t src (F.take i)).1.length],.mem 1 103 [.fn (.func 74) [.op (h.length+2) 1 0] []],O,zk v 9 (jH (qcr names gs t src (F.take i)).1)]) (E:=fun _ _=>False) ?_ (fun _ _ h=>h.elim) ?_ ?_ ?_ ?_ (fun _ _ h=>h.elim)
 ·rintro i hh ⟨v,O,o1,o2,rfl⟩
  refine LowI.app rfl (fun o ho=> ?_)
  simp only [List.mem_cons,List.not_mem_nil,or_false]at ho
  rcases ho with rfl|rfl|rfl|rfl|rfl|rfl
  ·left;simp [edL]
  ·left;simp
  ·right;constructor<;>(intro c hc;simp only [List.mem_cons,List.not_mem_nil,or_false]at hc;rcases hc with rfl|rfl|rfl<;>first|rfl|(simp [zE];try omega))
  ·left;simp
  ·right;exact ⟨o2 _,o2 _⟩
  ·right;exact ⟨ki (qdu _ _),ki (qdu _ _)⟩
 ·exact ⟨0,.emp 0,rfl,fun _=>trivial,rfl⟩
 ·simp [zE,zE.lowVs,edL,qbP,qdh,qdg,qfc]
  try omega
 ·rintro i hh tl LI TS hi ⟨v,O,o1,o2,rfl⟩ hq K K2 hK hN hR hX
  have o1': ∀m,qH (O::m) 0=true:=fun _=>o1
  rw [qfR names gs L src hi]
  rw [qbg,←hF]at hi
  rw [←hF]
  have hs:=hst hi
  have ha:=hat i hi
  have hb:=hbnd i (by omega)
  have hl1:=hlen i (by omega)
  have hl2:=hlen (i+1) (by omega)
  have hr:=hrg i hi
  have hw1:=hwl i hi
  obtain ⟨e,he⟩: ∃e,e=F.getD i default:=⟨_,rfl⟩
  rw [←he]at hs ha hr hw1 ⊢
  obtain ⟨f,hf⟩: ∃f:Nat,e.frm=(f:Int):=⟨e.frm.toNat,by omega⟩
  obtain ⟨g,hg⟩: ∃g:Nat,e.to=(g:Int):=⟨e.to.toNat,by omega⟩
  rw [hf]at ha hr
  rw [hg]at hr
  rw [hf,hg]at hs
  simp only [Int.toNat_natCast]at hs
  rw [hs]at hl2
  obtain ⟨out,hout⟩: ∃out,out=(qcr names gs t src (F.take i)).1:=⟨_,rfl⟩
  obtain ⟨a,haa⟩: ∃a,a=(qcr names gs t src (F.take i)).2:=⟨_,rfl⟩
  obtain ⟨own,hown⟩: ∃own,own=qij names gs e src:=⟨_,rfl⟩
  rw [←hown]at hs hl2 hw1 ⊢
  rw [←hout,←haa]at hs hl2 ⊢
  rw [←hout]at hl1
  rw [←haa]at ha hb
  simp only [qba]
  simp (disch:=omega) only [List.append_assoc,o1',enC,hf,hg,go_sem]
  refine hK _ _ (h++ [.mem 1 71 (edL names gs t L),.emp 1,.mem 1 102 [strs t,.int .i64 a,.osl (h.length+5) v 1 0 out.length],.mem 1 103 [.fn (.func 74) [.op (h.length+2) 1 0] []],.mem (qv (some O)+1) 49 (enC e),zk v 9 (jH out)]) (by simp [enC,hf,hg]) (by simp) ?_
  obtain ⟨w,hw⟩: ∃w,w=qv (some O)+1:=⟨_,rfl⟩
  rw [←hw]
  simp only [List.length_append]at hl2
  have eN:(out++j8 t a f).length=out.length+(j8 t a f).length:=List.length_append
  have hfl:=qbV (t:=t) (f:=a) (g:=f) (by omega) (by omega)
  simp (disch:=omega) only [List.append_assoc,enC,hf,hg,go_sem]
  repeat' first
   |((first|apply qc|apply qb);exact rvk;simp only [go_sem];first|exact VLe.refl _|apply qd|apply qa|apply qe|skip)
   |with_reducible first|refine And.intro ?_ ?_|intro _
  all_goals try exact clz
  refine qdQ (qzO t out a f (h.length+2) (h.length+5) 1 v 102 _ (by omega) (by simp only [go_sem]) (by simp only [go_sem]) (by omega) (by omega) (by omega)) ?_
  have eA:=qat (v:=v+1) (w:=v+1) (ty:=9) (cs:=jH (out++j8 t a f)) (ms:=jH own) (zY _).symm (zY _).symm
  rw [←qbU]at eA
  have eS:=fun h=>qgB h own
  have eC:=zY own
  have eD:=zY (out++j8 t a f)
  simp (disch:=omega) only [Nat.mul_one,eS,eA,eC,eD,go_sem]
  repeat' first
   |((first|apply qc|apply qb);exact rvk;simp only [go_sem];first|exact VLe.refl _|apply qd|apply qa|apply qe|skip)
   |with_reducible first|refine And.intro ?_ ?_|intro _
  all_goals try exact clz
  refine hN _ _ (h++ [.mem 1 71 (edL names gs t L),.emp 1,.mem 1 102 [strs t,.int .i64 g,.osl (h.length+5) (v+1+1) 1 0 ((out++j8 t a f).length+own.length)],.mem 1 103 [.fn (.func 74) [.op (h.length+2) 1 0] []],.mem w 49 (enC e),zk (v+1+1) 9 (jH (out++j8 t a f++own))]) ?_ (by simp) ⟨v+1+1,.mem w 49 (enC e),rfl,fun n=>qe3 e n,?_⟩
  ·simp [enC,hf,hg]
  ·rw [hs]
   simp [Nat.add_assoc]
 ·rintro hh ⟨v,O,o1,o2,rfl⟩
  rw [qbg,←hF,List.take_length]
  have hl1:=hlen F.length (Nat.le_refl _)
  have hb:=hbnd F.length (Nat.le_refl _)
  rw [List.take_length]at hl1 hb
  obtain ⟨out,hout⟩: ∃out,out=(qcr names gs t src F).1:=⟨_,rfl⟩
  obtain ⟨a,haa⟩: ∃a,a=(qcr names gs t src F).2:=⟨_,rfl⟩
  rw [←hout]at hl1
  rw [←haa]at hb
  rw [←hout,←haa]
  have zl: ∀g,valL g .len [strs t]= .int .i64 t.length:=fun _=>rfl
  have zo: ∀g,okL g .len [strs t]=True:=fun _=>eq_true trivial
  simp (disch:=omega) only [edL,zl,zo,go_sem]
  repeat' first
   |((first|apply qc|apply qb);exact rvk;simp only [go_sem];first|exact VLe.refl _|apply qd|apply qa|apply qe|skip)
   |with_reducible first|refine And.intro ?_ ?_|intro _
  all_goals try exact clz
  refine qdQ (qzO t out a t.length (h.length+2) (h.length+5) 1 v 102 _ (by omega) (by simp only [go_sem]) (by simp only [go_sem]) (by omega) (by omega) (by omega)) ?_
  simp (disch:=omega) only [go_sem]
  repeat' first
   |((first|apply qc|apply qb);exact rvk;simp only [go_sem];first|exact VLe.refl _|apply qd|apply qa|apply qe|skip)
   |with_reducible first|refine And.intro ?_ ?_|intro _
  all_goals try exact clz
  exact qgy (fun _=>rfl) rfl
end RC
end
section
open Go Go.Proofs AF
def qrH:List Nat:= [93,74,79,120,147,148,161,170,63,105,131,64,31,32,57,58,29,30]
def qxB:C:=
 ((C.ops [⟨some 8,none,.alloc 0 71 [.nl,.nl,.nl,.nl,.nl],[]⟩,⟨some 9,none,.alloc 1 29 [i6 0],[]⟩]).seq ((C.ops [MV 24 0,MV 25 1,MV 26 2,⟨some 27,none,.build [.nl,
 .nl,.nl,.nl,.nl] [(0,1),(1,1),(2,1)],[.t 24,.t 25,.t 26]⟩,⟨some 10,none,.alloc 2 71 [.nl,.nl,.nl,.nl,.nl],[]⟩,ST 5 10 27]).seq (((C.ops [MV 28 0,MV 29 1,O2 30
 (.call 59 true) 28 29,BC 31 .neq 30 (i6 0)]).seq (C.cond (.t 31) ((C.ops [O1 32 (.load (some 5)) 10,ST 5 8 32,⟨none,none,.store 1,[.t 9,.c (i6 1)]⟩]).seq C.ret) C.skip)).seq
 (((C.ops [MV 33 3,O1 34 .len 33,BC 35 .gtr 34 (i6 4096)]).seq (C.cond (.t 35) ((C.ops [O1 36 (.load (some 5)) 10,ST 5 8 36,⟨none,none,.store 1,[.t 9,.c (i6 4)]⟩]).seq
 C.ret) C.skip)).seq (((C.ops [MV 37 3,O1 38 .len 37,MC 39 (i6 0)]).seq (C.block 0 ((C.ops [BI 40 .lss 39 38]).seq ((C.cond (.t 40) C.skip (C.exit 0)).seq ((C.block 1 ((C.ops [O2
 41 (.idxA 6) 37 39,O1 42 (.load (some 6)) 41,⟨some 12,none,.alloc 3 49 [i6 0,i6 0,i6 0,.bool false,.nl,.nl],[]⟩,ST 6 12 42]).seq ((C.ops [MV 43 0,MV 44 1,MV 45 2,O1
 46 (.load (some 6)) 12,ON 47 (.call 78 true) [.t 43,.t 44,.t 45,.t 46],MV 13 47]).seq ((C.ops [MV 48 13,BC 49 .neq 48 (i6 0)]).seq (C.cond (.t 49) ((C.ops [O1 50 (.load (some
 5)) 10,MV 51 13,ST 5 8 50,ST 1 9 51]).seq C.ret) C.skip))))).seq (C.ops [BC 52 .add 39 (i6 1),MV 39 52])))).loop)).seq ((C.ops [MV 53 3,O1 54 (.call 31 false) 53,O1 55 (.fldA
 3) 10,ST 1 55 54]).seq ((C.ops [O1 56 (.fldA 3) 10,LD 57 56,OC 58 (.call 79 false) 57 (.fn (Fn.func 80) [] [])]).seq (((C.wk.seq (C.ops [O1 59 (.fldA 3) 10,LD 60 59,O1 61 .len
 60,MC 62 (i6 0)])).seq (C.block 2 ((C.ops [BI 63 .lss 62 61]).seq ((C.cond (.t 63) C.skip (C.exit 2)).seq ((C.block 3 ((C.ops [O2 64 (.idxA 6) 60 62,O1 65 (.load (some 6)) 64,
 ⟨some 15,none,.alloc 4 49 [i6 0,i6 0,i6 0,.bool false,.nl,.nl],[]⟩,ST 6 15 65]).seq ((C.ops [ON 16 (.nilo 5 1 37) []]).seq (((C.ops [O1 66 (.fldA 5) 15,LD 67 66,O1 68
 .len 67,MC 69 (i6 0)]).seq (C.block 4 ((C.ops [BI 70 .lss 69 68]).seq ((C.cond (.t 70) C.skip (C.exit 4)).seq ((C.block 5 ((C.ops [O2 71 (.idxA 2) 67 69,O1 72 (.load (some 2))
 71,⟨some 18,none,.alloc 6 51 [.nl,.nl],[]⟩,ST 2 18 72]).seq ((C.ops [MV 74 0,MV 75 1,O1 76 (.fldA 1) 18,LD 77 76,ON 78 (.call 62 true) [.t 74,.t 75,.t 77],MV 73 78,O1
 79 (.ext 0) 73,O1 80 (.ext 1) 73,MV 19 79,MV 20 80]).seq (((C.ops [MV 81 20,BC 82 .neq 81 (i6 0)]).seq (C.cond (.t 82) ((C.ops [O1 83 (.load (some 5)) 10,MV 84 20,ST 5 8 83,
 ST 1 9 84]).seq C.ret) C.skip)).seq (C.ops [MV 85 16,MV 86 19,⟨some 87,none,.bslc 7 1 1 37 [.nl] [(0,1)],[.t 86]⟩,O2 88 (.app 8 1 37 24) 85 87,MV 16 88]))))).seq (C.ops [BC
 89 .add 69 (i6 1),MV 69 89])))).loop)).seq (C.ops [O1 90 (.fldA 4) 10,LD 91 90,MV 92 16,⟨some 93,none,.bslc 9 1 1 91 [.nl] [(0,1)],[.t 92]⟩,O2 94 (.app 10 1 91 24) 91 93,
 O1 95 (.fldA 4) 10,ST 1 95 94]))))).seq (C.ops [BC 96 .add 62 (i6 1),MV 62 96])))).loop)).seq (((C.wk.seq (C.ops [MV 97 0,O1 98 .len 97,MC 99 (i6 0)])).seq (C.block 6 ((C.ops
 [BI 100 .lss 99 98]).seq ((C.cond (.t 100) C.skip (C.exit 6)).seq ((C.block 7 ((C.ops [MV 101 99,MV 21 101]).seq ((C.ops [⟨some 102,none,.build [i6 0,i6 0,i6 0,.bool false,
 .nl,.nl] [(1,1),(2,1)],[.c (i6 (-1)),.c (i6 (-1))]⟩,⟨some 22,none,.alloc 11 49 [i6 0,i6 0,i6 0,.bool false,.nl,.nl],[]⟩,ST 6 22 102]).seq ((C.ops [O1 103 (.load
 (some 5)) 10,MV 104 21,O2 105 (.call 75 true) 103 104]).seq (C.block 8 (C.range (.t 105) [106,107] (C.ops [⟨some 23,none,.alloc 12 49 [i6 0,i6 0,i6 0,.bool false,.nl,
 .nl],[]⟩,ST 6 23 106]) (C.block 9 (((C.ops [O1 108 (.fldA 1) 23,LD 109 108,O1 110 (.fldA 2) 22,LD 111 110,BI 112 .lss 109 111,MV 113 112,P1 114 113 false (.fldA 1) 23,P1
 115 113 false (.load none) 114,P1 116 113 false (.fldA 1) 22,P1 117 113 false (.load none) 116,P2 118 113 false (.bin .eql) 115 117,MG 119 113 false 118,P1 120 119 true (.fldA
 2) 23,P1 121 119 true (.load none) 120,P1 122 119 true (.fldA 2) 22,P1 123 119 true (.load none) 122,P2 124 119 true (.bin .eql) 121 123,QF 125 113 false 119 124,PT 126 113
 125]).seq (C.cond (.t 126) ((C.ops [O1 127 (.load (some 5)) 10,ST 5 8 127,⟨none,none,.store 1,[.t 9,.c (i6 17)]⟩]).seq C.ret) C.skip)).seq (C.ops [O1 128 (.load (some 6)) 23,
 ST 6 22 128]))))))))).seq (C.ops [BC 129 .add 99 (i6 1),MV 99 129])))).loop)).seq ((C.ops [O1 130 (.load (some 5)) 10,ST 5 8 130,⟨none,none,.store 1,[.t 9,.c (i6 0)]⟩]).seq
 C.ret))))))))))
theorem qvp:qJ Tryz.prog 48 131 13 [RV.cell 8 (some 5),RV.cell 9 none] qxB:=fi Tryz.f48 [8,9,10,12,15,16,18,87,88,93,94,22,23] qrH [15,29] (by kernel_rfl) (by kernel_rfl) (by kernel_rfl) (by kernel_rfl)
end
section
open Go Go.Proofs AF HY LN
namespace AF
theorem Wk.fzCell {t:List AV} {h:List AObj} {j k i v:Nat} {ty:TypeId} {cs:List AV} {c c':AV} (hj:qA j h=some (.mem v ty cs)) (hi:cs[i]? =some c) (hs:qH h k=true) (hne:j≠k) (hc:VLe (frz (fun b=> [k].contains b) h 8 c) c'):
  Wk t h t (qE j (qE k h (.emp (qv (qA k h)+1))) (.mem v ty (cs.set i c'))):=by
 intro N w σ a H
 have hs':jF [k] h=true:=by simp [jF,hs]
 obtain ⟨σ',g1,g2,g3,g4⟩:=qcb [k] H.hr hs'
 have hn:j∉ [k]:=by simp [hne]
 have frzv: ∀c x,VR w σ c x→VR w σ' (frz (fun b=> [k].contains b) h 8 c) x:=fun c x hx=>
  qga H.hr (fun b hb=>(g4 b hb).elim fun j ⟨o,h1,h2,h3⟩=>⟨j,o,by simpa using h1,h2,h3⟩) (fun j o hj ho=>g3 j o (by simpa using hj) ho) 8 hx
 have hjl:j<σ.length:=by rw [H.hr.len];exact zN hj
 have ho:=qR hjl
 obtain ⟨m1,m2,b,arr,m3,m4,m5,m6,m7,m8⟩:=H.hr.obj j _ _ hj ho
 have q:=g1.recell (cs':=cs.set i c') ((qn4 hn).trans hj) (g3 j _ hn ho) m3 m4 m5 (by simpa using m6) (fun n x hn hx=>m7 n x (by simpa using hn) hx) (fun n d x hd hx=>by
  rw [List.getElem?_set]at hd
  split at hd
  ·rename_i e
   subst e
   split at hd
   ·cases hd;exact hc _ _ _ (frzv _ x (m8 i _ x hi hx))
   ·cases hd
  ·exact (m8 n d x hd hx).ext g2)
 exact ⟨σ',⟨q,H.sz,fun n d x hd hx=>(H.tm n d x hd hx).ext g2,qay g2 H.df⟩,g2⟩
theorem qaB {h:List AObj} {k ve sz off n:Nat}:frz (fun b=> [k].contains b) h 8 (.osl k ve sz off n)=qex (qA k h) ve sz off n (rei (fun b=> [k].contains b) h 7):=by
 rw [frz_osl,if_pos (by simp),rei_osl,if_pos (by simp)]
theorem qwl {f:Nat→AV} {m j:Nat} (h:j<m):((((List.range m).map f).drop j).take 1)= [f j]:=by
 rw [←List.map_drop,List.drop_eq_getElem_cons (by simpa using h),List.map_cons,List.take_succ_cons,List.take_zero]
 simp
theorem qbT {v m n:Nat} {ty:TypeId} {f:Nat→AV} {g:AV→AV} (hg: ∀k,g (f k)=f k) (hn:n=m):VLe (qex (some (zk v ty ((List.range m).map f))) v 1 0 n g) (.sl m fun k=> [f k]):=by
 subst hn
 by_cases h:n=0
 ·subst h
  show VLe (qex (some (.emp v)) v 1 0 0 g) _
  rw [slOf_emp,if_pos rfl]
  exact jn
 ·have e0:zk v ty ((List.range n).map f)= .mem v ty ((List.range n).map f):=jA (by simpa using h)
  rw [e0,slOf_mem,if_pos ⟨rfl,by simp⟩]
  refine VLe.sl_eq rfl (fun i hi=> ?_)
  simp only [Nat.zero_add,Nat.mul_one]
  rw [qwl hi,List.map_cons,List.map_nil,hg]
end AF
namespace RC
set_option maxHeartbeats 8000000
theorem qhL (L:List Gr):(qu L).solid=true:=rfl
theorem qgW (L:List Gr):(qu L).cells= [qu L]:=rfl
theorem qhK (L:List En):(qy L).solid=true:=rfl
theorem qgV (L:List En):(qy L).cells= [qy L]:=rfl
theorem qlO (names:List Str) (gs:List Gr) (e:En):(stV names gs e).solid=true:=rfl
theorem qjA (names:List Str) (gs:List Gr) (e:En):(stV names gs e).cells= [stV names gs e]:=rfl
theorem qlM (names:List Str) (gs:List Gr) (L:List En):(msV names gs L).solid=true:=rfl
theorem qjy (names:List Str) (gs:List Gr) (L:List En):(msV names gs L).cells= [msV names gs L]:=rfl
theorem qfo (L:List Int):(ql L).solid=true:=rfl
theorem qeW (L:List Int):(ql L).cells= [ql L]:=rfl
attribute [go_sem] qhL qgW qhK qgV qlO qjA qlM qjy qfo qeW
theorem qAJ (h:List AObj):qm Tryz.prog 147 [qy [],.int .i64 0,.int .i64 0,.fn (.func 80) [] []] h (.tup []) h:=by
 refine acO qpR ?_
 simp (disch:=omega) only [qqE,List.replicate,go_sem]
 repeat' first
  |((first|apply qc|apply qb);exact rvk;simp only [go_sem];first|exact VLe.refl _|apply qd|apply qa|apply qe|skip)
  |with_reducible first|refine And.intro ?_ ?_|intro _
 all_goals try exact clz
 refine qn (T:=fun _:Unit=>qI 53 [(0,qy []),(1,.int .i64 0),(2,.int .i64 0),(3,.fn (.func 80) [] []),(8,.int .i64 1)]) (H:=fun _=>h) (inv:=fun _=>True) (m:=fun _=>0) () trivial (Wk.temps ?_) ?_
 ·(simp only [List.replicate,go_sem,qj,qh,qg,qi];try (repeat' first|(with_reducible refine And.intro ?_ ?_)|(apply qd;omega)|(apply qa;rfl)|exact VLe.refl _))
 rintro _ _ K hK
 have q:((1:Int)<0)=False:=eq_false (by omega)
 simp (disch:=omega) only [List.replicate,q,go_sem]
 repeat' first
  |((first|apply qc|apply qb);exact rvk;simp only [go_sem];first|exact VLe.refl _|apply qd|apply qa|apply qe|skip)
  |with_reducible first|refine And.intro ?_ ?_|intro _
 all_goals try exact clz
theorem qA3 (h:List AObj):qm Tryz.prog 120 [qy [],.int .i64 0,.fn (.func 80) [] []] h (.tup []) h:=by
 have c147:=fun h=>qAJ h
 have q1:((20:Int)≤0)=False:=eq_false (by omega)
 have q2:((20:Int)<0)=False:=eq_false (by omega)
 refine acO qpN ?_
 simp (disch:=omega) only [qqA,List.replicate,go_sem]
 repeat' first
  |((first|apply qc|apply qb);exact rvk;simp only [go_sem];first|exact VLe.refl _|apply qd|apply qa|apply qe|skip)
  |with_reducible first|refine And.intro ?_ ?_|intro _
 all_goals try exact clz
 refine qn (T:=fun _:Unit=>qI 63 [(0,qy []),(1,.int .i64 0),(2,.fn (.func 80) [] []),(6,.int .i64 20),(7,.int .i64 0),(8,.int .i64 20)]) (H:=fun _=>h) (inv:=fun _=>True) (m:=fun _=>0) () trivial (Wk.temps ?_) ?_
 ·(simp only [List.replicate,go_sem,qj,qh,qg,qi];try (repeat' first|(with_reducible refine And.intro ?_ ?_)|(apply qd;omega)|(apply qa;rfl)|exact VLe.refl _))
 rintro _ _ K hK
 simp (disch:=omega) only [List.replicate,q1,go_sem]
 repeat' first
  |((first|apply qc|apply qb);exact rvk;simp only [go_sem];first|exact VLe.refl _|apply qd|apply qa|apply qe|skip)
  |with_reducible first|refine And.intro ?_ ?_|intro _
 all_goals try exact clz
 refine zq (c147 _) (by exact flk) ?_
 simp (disch:=omega) only [go_sem]
 repeat' first
  |((first|apply qc|apply qb);exact rvk;simp only [go_sem];first|exact VLe.refl _|apply qd|apply qa|apply qe|skip)
  |with_reducible first|refine And.intro ?_ ?_|intro _
 all_goals try exact clz
 refine qn (T:=fun _:Unit=>qI 63 [(0,qy []),(1,.int .i64 0),(2,.fn (.func 80) [] []),(6,.int .i64 20)]) (H:=fun _=>h) (inv:=fun _=>True) (m:=fun _=>0) () trivial (Wk.temps ?_) ?_
 ·(simp only [List.replicate,go_sem,qj,qh,qg,qi];try (repeat' first|(with_reducible refine And.intro ?_ ?_)|(apply qd;omega)|(apply qa;rfl)|exact VLe.refl _))
 rintro _ _ K2 hK2
 simp (disch:=omega) only [List.replicate,q2,go_sem]
 repeat' first
  |((first|apply qc|apply qb);exact rvk;simp only [go_sem];first|exact VLe.refl _|apply qd|apply qa|apply qe|skip)
  |with_reducible first|refine And.intro ?_ ?_|intro _
 all_goals try exact clz
theorem qA1 (h:List AObj):qm Tryz.prog 79 [qy [],.fn (.func 80) [] []] h (.tup []) h:=by
 have c120:=fun h=>qA3 h
 have zl: ∀g,valL g .len [qy []]= .int .i64 0:=fun _=>rfl
 have zo: ∀g,okL g .len [qy []]=True:=fun _=>eq_true trivial
 refine acO qvx ?_
 simp (disch:=omega) only [qxI,List.replicate,zl,zo,go_sem]
 repeat' first
  |((first|apply qc|apply qb);exact rvk;simp only [go_sem];first|exact VLe.refl _|apply qd|apply qa|apply qe|skip)
  |with_reducible first|refine And.intro ?_ ?_|intro _
 all_goals try exact clz
 refine zq (c120 _) (by exact flk) ?_
 simp (disch:=omega) only [go_sem]
 repeat' first
  |((first|apply qc|apply qb);exact rvk;simp only [go_sem];first|exact VLe.refl _|apply qd|apply qa|apply qe|skip)
  |with_reducible first|refine And.intro ?_ ?_|intro _
 all_goals try exact clz
def stC (names:List Str) (gs:List Gr) (e:En) (j:Nat):List AV:=(List.range j).map fun k=>ql (zg names gs (e.vars.getD k default).sigla)
theorem qo2 (names:List Str) (gs:List Gr) (e:En) (j:Nat):stC names gs e j++ [ql (zg names gs (e.vars.getD j default).sigla)]=stC names gs e (j+1):=by unfold stC;rw [List.range_succ,List.map_append];rfl
theorem qsI (names:List Str) (gs:List Gr) (e:En) (j:Nat):(stC names gs e j).length=j:=by simp [stC]
def msC (names:List Str) (gs:List Gr) (L:List En) (i:Nat):List AV:=(List.range i).map fun k=>stV names gs (L.getD k default)
theorem qoa (names:List Str) (gs:List Gr) (L:List En) (i:Nat):msC names gs L i++ [stV names gs (L.getD i default)]=msC names gs L (i+1):=by unfold msC;rw [List.range_succ,List.map_append];rfl
theorem qrR (names:List Str) (gs:List Gr) (L:List En) (i:Nat):(msC names gs L i).length=i:=by simp [msC]
theorem qp3 (names:List Str) (gs:List Gr) (L:List En) (i:Nat) (c:AV):msC names gs L i++ [c]≠ []:=by simp
theorem qgx {v n:Nat} {ty:TypeId} {L:List En} {fz:Nat→Bool} {h:List AObj} {d:Nat} (hn:n=L.length):VLe (qex (some (.mem v ty (zP L))) v 6 0 n (rei fz h (d+1))) (qy L):=by
 subst hn
 rw [slOf_mem,if_pos ⟨rfl,by rw [kc];omega⟩]
 refine VLe.sl_eq rfl (fun i hi=> ?_)
 simp only [Nat.zero_add]
 rw [qc8 hi]
 rfl
def rdV (names:List Str) (gs:List Gr) (t:List Str) (l:List En):AV:=if rdE names gs t l=0 then .agg (edL names gs t (zX l)) else .agg [.undef,.undef,.undef,.undef,.undef]
theorem qcN {names:List Str} {gs:List Gr} {t:List Str} {l:List En} (h:rdE names gs t l=0):rdV names gs t l= .agg (edL names gs t (zX l)):=if_pos h
theorem qbr {names:List Str} {gs:List Gr} {t:List Str} {l:List En} (h:rdE names gs t l≠0):rdV names gs t l= .agg [.undef,.undef,.undef,.undef,.undef]:=if_neg h
def qdf (F:List En):Nat→List AV
 |0=> [.int .i64 0,.int .i64 (-1),.int .i64 (-1),.bool false,.nl,.nl]
 |i+1=>enC (F.getD i default)
theorem qaG (F:List En) (i n:Nat): ∀c∈qdf F i,zE n c=true:=by
 intro c hc
 cases i with
 |zero=>
  simp only [qdf,List.mem_cons,List.not_mem_nil,or_false]at hc
  rcases hc with rfl|rfl|rfl|rfl|rfl|rfl<;>rfl
 |succ i=>
  simp only [qdf,enC,List.mem_cons,List.not_mem_nil,or_false]at hc
  rcases hc with rfl|rfl|rfl|rfl|rfl|rfl<;>rfl
structure RSt where
 i:Nat
 v:Nat
 O4:AObj
 O5:AObj
 O6:AObj
 O7:AObj
 O9:AObj
def NL5:List AV:= [.nl,.nl,.nl,.nl,.nl]
set_option maxHeartbeats 16000000 in
theorem qyO (names:List Str) (gs:List Gr) (t:List Str) (l:List En) (h:List AObj) (hc:CSz names gs t l) (hp:ku SG h):
  qm Tryz.prog 48 [strs names,qu gs,strs t,qy l] h (.tup [rdV names gs t l,.int .i64 (rdE names gs t l)]) h:=by
 have c59:=fun h=>sgP names gs h hc.hz
 have c78:=fun i l'=>qAj names gs t (l.getD i default) (h++l') hc.hz hc.ht (hc.he i) (hp.app l')
 have hln:=hc.ln
 have hnn:=hc.nn
 have qxl: ∀(a b c d e:AV) (n:Int),VLe (.tup [.agg [a,b,c,d,e],.int .i64 n]) (.tup [.agg [.undef,.undef,.undef,.undef,.undef],.int .i64 n]):=fun a b c d e n=>by
  have u: ∀a,VLe a .undef:=fun a w σ x _=> .imm .undef
  exact qT ⟨VLe.agg ⟨u _,u _,u _,u _,u _,trivial⟩,VLe.refl _,trivial⟩
 by_cases g0:sgE names gs=0
 case neg=>
  have hR:rdE names gs t l=1:=by unfold rdE;rw [if_pos g0]
  rw [qbr (by rw [hR];decide),hR]
  have k0:(sgE names gs=0)=False:=eq_false g0
  refine acO qvp ?_
  simp (disch:=omega) only [qxB,List.replicate,k0,go_sem]
  repeat' first
   |((first|refine cA (c59 _) ?_ ?_|refine cG (fun e=>c59 _) ?_ ?_|refine cU (fun _=>c59 _) ?_ ?_);(next=>exact flk);simp (disch:=omega) only [k0,go_sem])
   |((first|apply qc|apply qb);exact rvk;simp only [go_sem];first|exact VLe.refl _|apply qd|apply qa|apply qe|skip)
   |with_reducible first|refine And.intro ?_ ?_|intro _
  all_goals try exact clz
  exact qxl _ _ _ _ _ _
 rw [g0]at c59
 have hR:rdE names gs t l=if qab (fun i=>kX names gs t (l.getD i default)) 0 l.length≠0 then qab (fun i=>kX names gs t (l.getD i default)) 0 l.length else if zL names gs l=true then 17 else 0:=by
  unfold rdE
  rw [if_neg (fun hc=>hc g0),if_neg (by omega)]
 have k1:((4096:Int)<l.length)=False:=eq_false (by omega)
 refine acO qvp ?_
 unfold qxB
 refine jE (jE (jE (jE (jE (jE (jE (qsx (fun tt hh=> ∃O3 O4 O5 O6 O7 O8 O9 O10,(∀i,i<l.length→kX names gs t (l.getD i default)=0)∧Wk tt hh (qI 131 [(0,strs names),(8,.op h.length 1 0),(9,.op (h.length+1) 1 0),(10,.op (h.length+2) 1 0)])
  (h++ [.mem 1 71 NL5,.mem 1 29 [.int .i64 0],.mem 1 71 (edL names gs t (zX l)),O3,O4,O5,O6,O7,O8,O9,O10,.emp 0,.emp 0])) ?hx ?hy)))))))
 case hx=>
  intro KK hKK
  simp (disch:=omega) only [List.replicate,qy,k1,go_sem]
  repeat' first
   |((first|refine cA (c59 _) ?_ ?_|refine cG (fun e=>c59 _) ?_ ?_|refine cU (fun _=>c59 _) ?_ ?_);(next=>exact flk);simp (disch:=omega) only [qy,k1,go_sem])
   |((first|apply qc|apply qb);exact rvk;simp only [go_sem];first|exact VLe.refl _|apply qd|apply qa|apply qe|skip)
   |with_reducible first|refine And.intro ?_ ?_|intro _
  all_goals try exact clz
  refine qn (T:=fun i:Nat×AObj=>qI 131 [(0,strs names),(1,qu gs),(2,strs t),(3,qy l),(8,.op h.length 1 0),(9,.op (h.length+1) 1 0),(10,.op (h.length+2) 1 0),(37,qy l),(38,.int .i64 l.length),(39,.int .i64 i.1)])
   (H:=fun i=>h++ [.mem 1 71 NL5,.mem 1 29 [.int .i64 0],.mem 1 71 [strs names,qu gs,strs t,.nl,.nl],i.2,.emp 0,.emp 0,.emp 0,.emp 0,.emp 0,.emp 0,.emp 0,.emp 0,.emp 0])
   (inv:=fun i=>i.1≤l.length∧(∀j,j<i.1→kX names gs t (l.getD j default)=0)∧qH [i.2] 0=true) (m:=fun i=>l.length-i.1) (0,.emp 0) ⟨Nat.zero_le _,fun j hj=>by omega,rfl⟩ (Wk.temps ?_) ?_
  ·(simp only [qy,List.replicate,go_sem,qj,qh,qg,qi];try (repeat' first|(with_reducible refine And.intro ?_ ?_)|(apply qd;omega)|(apply qa;rfl)|exact VLe.refl _))
  rintro ⟨i,O⟩ ⟨i1,i2,i3⟩ K hK
  simp only at i1 i2 i3 hK
  have i3': ∀m,qH (O::m) 0=true:=fun _=>i3
  by_cases hi:i<l.length
  ·have k2:((i:Int)<l.length)=True:=eq_true (by omega)
   have hE:=qP (f:=fun i=>kX names gs t (l.getD i default)) hi i2
   have c78:=c78 i
   obtain ⟨x,hx⟩: ∃x,x=l.getD i default:=⟨_,rfl⟩
   have ex:=hx.symm
   simp only [ex]at hE c78
   simp only [enC]at c78
   by_cases g1:kX names gs t x=0
   ·rw [g1]at c78
    simp (disch:=omega) only [List.replicate,qy,enC,NL5,k2,ex,i3',go_sem]
    repeat' first
     |((first|refine cA (c78 _) ?_ ?_|refine cG (fun e=>c78 _) ?_ ?_|refine cU (fun _=>c78 _) ?_ ?_);(next=>exact flk);simp (disch:=omega) only [qy,enC,NL5,k2,ex,i3',go_sem])
     |((first|apply qc|apply qb);exact rvk;simp only [go_sem];first|exact VLe.refl _|apply qd|apply qa|apply qe|skip)
     |with_reducible first|refine And.intro ?_ ?_|intro _
    all_goals try exact clz
    refine hK _ _ (i+1,.mem (qv (some O)+1) 49 (enC x)) ⟨hi,fun j hj=> ?_,rfl⟩ (by simp only;omega) (Wk.temps ?_)
    ·by_cases e:j=i
     ·subst e;rw [ex];exact g1
     ·exact i2 j (by simp only at hj;omega)
    ·(simp only [qy,List.replicate,go_sem,qj,qh,qg,qi];try (repeat' first|(with_reducible refine And.intro ?_ ?_)|(apply qd;omega)|(apply qa;rfl)|exact VLe.refl _))
   ·have k3:(kX names gs t x=0)=False:=eq_false g1
    have hR2:rdE names gs t l=kX names gs t x:=by rw [hR,if_pos (by rw [hE g1];exact g1),hE g1]
    rw [qbr (by rw [hR2];exact g1),hR2]
    simp (disch:=omega) only [List.replicate,qy,enC,NL5,k2,ex,i3',go_sem]
    repeat' first
     |((first|refine cA (c78 _) ?_ ?_|refine cG (fun e=>c78 _) ?_ ?_|refine cU (fun _=>c78 _) ?_ ?_);(next=>exact flk);simp (disch:=omega) only [qy,enC,NL5,k2,ex,i3',k3,go_sem])
     |((first|apply qc|apply qb);exact rvk;simp only [go_sem];first|exact VLe.refl _|apply qd|apply qa|apply qe|skip)
     |with_reducible first|refine And.intro ?_ ?_|intro _
    all_goals try exact clz
    exact qxl _ _ _ _ _ _
  have hi2: ∀i,i<l.length→kX names gs t (l.getD i default)=0:=fun j hj=>i2 j (by omega)
  have k2:((i:Int)<l.length)=False:=eq_false (by omega)
  by_cases l0:l= []
  ·subst l0
   have c31:=fun h=>qAo h
   have c79:=fun h=>qA1 h
   have zl: ∀g,valL g .len [qy []]= .int .i64 0:=fun _=>rfl
   have zo: ∀g,okL g .len [qy []]=True:=fun _=>eq_true trivial
   simp (disch:=omega) only [List.replicate,NL5,k2,i3',zl,zo,go_sem]
   repeat' first
    |((first|apply qc|apply qb);exact rvk;simp only [go_sem];first|exact VLe.refl _|apply qd|apply qa|apply qe|skip)
    |with_reducible first|refine And.intro ?_ ?_|intro _
   all_goals try exact clz
   refine zq (c31 _) (by exact flk) ?_
   simp (disch:=omega) only [zl,zo,go_sem]
   repeat' first
    |((first|apply qc|apply qb);exact rvk;simp only [go_sem];first|exact VLe.refl _|apply qd|apply qa|apply qe|skip)
    |with_reducible first|refine And.intro ?_ ?_|intro _
   all_goals try exact clz
   refine zq (c79 _) (by exact flk) ?_
   simp (disch:=omega) only [zl,zo,go_sem]
   repeat' first
    |((first|apply qc|apply qb);exact rvk;simp only [go_sem];first|exact VLe.refl _|apply qd|apply qa|apply qe|skip)
    |with_reducible first|refine And.intro ?_ ?_|intro _
   all_goals try exact clz
   refine ⟨_,_,Wk.refl _ _,?_⟩
   simp (disch:=omega) only [zl,zo,go_sem]
   repeat' first
    |((first|apply qc|apply qb);exact rvk;simp only [go_sem];first|exact VLe.refl _|apply qd|apply qa|apply qe|skip)
    |with_reducible first|refine And.intro ?_ ?_|intro _
   all_goals try exact clz
   refine qn (T:=fun _:Unit=>qI 131 [(0,strs names),(8,.op h.length 1 0),(9,.op (h.length+1) 1 0),(10,.op (h.length+2) 1 0),(61,.int .i64 0),(62,.int .i64 0)])
    (H:=fun _=>h++ [.mem 1 71 NL5,.mem 1 29 [.int .i64 0],.mem 1 71 [strs names,qu gs,strs t,qy [],.nl],O,.emp 0,.emp 0,.emp 0,.emp 0,.emp 0,.emp 0,.emp 0,.emp 0,.emp 0])
    (inv:=fun _=>True) (m:=fun _=>0) () trivial (Wk.temps ?_) ?_
   ·(simp only [List.replicate,go_sem,qj,qh,qg,qi];try (repeat' first|(with_reducible refine And.intro ?_ ?_)|(apply qd;omega)|(apply qa;rfl)|exact VLe.refl _))
   rintro _ _ K2 hK2
   have k3:((0:Int)<0)=False:=eq_false (by omega)
   simp (disch:=omega) only [List.replicate,k3,go_sem]
   repeat' first
    |((first|apply qc|apply qb);exact rvk;simp only [go_sem];first|exact VLe.refl _|apply qd|apply qa|apply qe|skip)
    |with_reducible first|refine And.intro ?_ ?_|intro _
   all_goals try exact clz
   refine hKK _ _ ⟨O,.emp 0,.emp 0,.emp 0,.emp 0,.emp 0,.emp 0,.emp 0,hi2,Wk.trans (Wk.cells (j:=h.length+2) (v:=1) (ty:=71) (cs:= [strs names,qu gs,strs t,qy [],.nl]) (cs':=edL names gs t (zX [])) ?w1 ?w2) ?w3⟩
   case w1=>simp only [go_sem]
   case w2=>exact ⟨VLe.refl _,VLe.refl _,VLe.refl _,VLe.refl _,jn,trivial⟩
   case w3=>
    simp only [go_sem]
    refine Wk.temps ?_
    (simp only [List.replicate,qy,go_sem,qj,qh,qg,qi];try (repeat' first|(with_reducible refine And.intro ?_ ?_)|(apply qd;omega)|(apply qa;rfl)|exact VLe.refl _))
  ·have hpos:=List.length_pos_iff.2 l0
   simp (disch:=omega) only [List.replicate,NL5,k2,i3',go_sem]
   repeat' first
    |((first|apply qc|apply qb);exact rvk;simp only [go_sem];first|exact VLe.refl _|apply qd|apply qa|apply qe|skip)
    |with_reducible first|refine And.intro ?_ ?_|intro _
   all_goals try exact clz
   refine zq (qAn l _ (h.length+3) (by simp only [go_sem,i3']) l0 (by omega)) (by exact flk) ?_
   simp (disch:=omega) only [NL5,go_sem]
   repeat' first
    |((first|apply qc|apply qb);exact rvk;simp only [go_sem];first|exact VLe.refl _|apply qd|apply qa|apply qe|skip)
    |with_reducible first|refine And.intro ?_ ?_|intro _
   all_goals try exact clz
   obtain ⟨w,hw⟩: ∃w,w=qv (some O)+1:=⟨_,rfl⟩
   simp only [←hw]
   refine zq (qA0 l (h.length+3) w 49 _ (by simp only [go_sem]) (by omega) hpos) (by exact flk) ?_
   simp (disch:=omega) only [go_sem]
   repeat' first
    |((first|apply qc|apply qb);exact rvk;simp only [go_sem];first|exact VLe.refl _|apply qd|apply qa|apply qe|skip)
    |with_reducible first|refine And.intro ?_ ?_|intro _
   all_goals try exact clz
   have hLn:=kU l
   have hLm: ∀i,i<(zX l).length→ ∃j,j<l.length∧(zX l).getD i default=l.getD j default:=fun i hi=>by
    obtain ⟨j,hj,e⟩:=List.getElem_of_mem ((zO l).subset (jw hi))
    exact ⟨j,hj,by rw [←e,gdqA,qR hj];rfl⟩
   obtain ⟨L,hL⟩: ∃L,L=zX l:=⟨_,rfl⟩
   rw [←hL]at hLn
   simp only [←hL]at hLm hKK ⊢
   rw [←hLn]
   refine ⟨_,_,Wk.trans (Wk.fzCell (j:=h.length+2) (k:=h.length+3) (i:=3) (v:=1) (ty:=71) (cs:= [strs names,qu gs,strs t,.osl (h.length+3) w 6 0 L.length,.nl]) (c:= .osl (h.length+3) w 6 0 L.length) (c':=qy L) ?w1 rfl ?w2 (by omega) ?w3)
    (Wk.ownNil (j:=h.length+2) (i:=4) (k:=h.length+10) (v:=1) (ty:=71) (cs:= [strs names,qu gs,strs t,qy L,.nl]) (ve:=0) (sz:=1) ?w4 rfl ?w5),?_⟩
   case w1=>simp only [go_sem]
   case w2=>simp only [go_sem]
   case w3=>
    rw [qaB,getO_app]
    exact qgx rfl
   case w4=>simp only [go_sem,List.set_cons_succ,List.set_cons_zero]
   case w5=>simp only [go_sem]
   have zl: ∀g,valL g .len [qy L]= .int .i64 L.length:=fun _=>rfl
   have zo: ∀g,okL g .len [qy L]=True:=fun _=>eq_true trivial
   simp (disch:=omega) only [List.set_cons_succ,List.set_cons_zero,zl,zo,go_sem]
   repeat' first
    |((first|apply qc|apply qb);exact rvk;simp only [go_sem];first|exact VLe.refl _|apply qd|apply qa|apply qe|skip)
    |with_reducible first|refine And.intro ?_ ?_|intro _
   all_goals try exact clz
   refine qn (T:=fun s:RSt=>qI 131 [(0,strs names),(1,qu gs),(8,.op h.length 1 0),(9,.op (h.length+1) 1 0),(10,.op (h.length+2) 1 0),(60,qy L),(61,.int .i64 L.length),(62,.int .i64 s.i)])
    (H:=fun s=>h++ [.mem 1 71 NL5,.mem 1 29 [.int .i64 0],.mem 1 71 [strs names,qu gs,strs t,qy L,.osl (h.length+10) s.v 1 0 s.i],.emp (w+1),s.O4,s.O5,s.O6,s.O7,.emp 0,s.O9,zk s.v 91 (msC names gs L s.i),.emp 0,.emp 0])
    (inv:=fun s=>s.i≤L.length∧qH [s.O4] 0=true∧qH [s.O5] 0=true∧qH [s.O6] 0=true∧qH [s.O7] 0=true∧qH [s.O9] 0=true) (m:=fun s=>L.length-s.i) ⟨0,0,.emp 0,.emp 0,.emp 0,.emp 0,.emp 0⟩ ⟨Nat.zero_le _,rfl,rfl,rfl,rfl,rfl⟩ (Wk.temps ?_) ?_
   ·(simp only [List.replicate,go_sem,qj,qh,qg,qi];try (repeat' first|(with_reducible refine And.intro ?_ ?_)|(apply qd;omega)|(apply qa;rfl)|exact VLe.refl _))
   rintro ⟨i,v,O4,O5,O6,O7,O9⟩ ⟨i1,p4,p5,p6,p7,p9⟩ K2 hK2
   simp only at i1 p4 p5 p6 p7 p9 hK2
   have p4': ∀m,qH (O4::m) 0=true:=fun _=>p4
   have p5': ∀m,qH (O5::m) 0=true:=fun _=>p5
   have p6': ∀m,qH (O6::m) 0=true:=fun _=>p6
   have p7': ∀m,qH (O7::m) 0=true:=fun _=>p7
   have p9': ∀m,qH (O9::m) 0=true:=fun _=>p9
   by_cases hi:i<L.length
   ·have k3:((i:Int)<L.length)=True:=eq_true (by omega)
    obtain ⟨jl,jl1,jl2⟩:=hLm i hi
    have hck:=jh.1 (hi2 jl jl1)
    have hvl:=hc.vl jl
    have hsgl:=hc.sg jl
    have hms:=qoa names gs L i
    have hml:=qrR names gs L i
    rw [←jl2]at hck hvl
    simp only [←jl2]at hsgl
    obtain ⟨x,hx⟩: ∃x,x=L.getD i default:=⟨_,rfl⟩
    have ex:=hx.symm
    rw [ex]at hck hvl hms
    simp only [ex]at hsgl
    have zv: ∀g,valL g .len [qB x.vars]= .int .i64 x.vars.length:=fun _=>rfl
    have zw: ∀g,okL g .len [qB x.vars]=True:=fun _=>eq_true trivial
    simp (disch:=omega) only [List.replicate,qy,enC,NL5,k3,ex,p4',p5',zv,zw,go_sem]
    repeat' first
     |((first|apply qc|apply qb);exact rvk;simp only [go_sem];first|exact VLe.refl _|apply qd|apply qa|apply qe|skip)
     |with_reducible first|refine And.intro ?_ ?_|intro _
    all_goals try exact clz
    refine qn (T:=fun s:RSt=>qI 131 [(0,strs names),(1,qu gs),(8,.op h.length 1 0),(9,.op (h.length+1) 1 0),(10,.op (h.length+2) 1 0),(16,.osl (h.length+5) s.v 1 0 s.i),(60,qy L),(61,.int .i64 L.length),(62,.int .i64 i),(67,qB x.vars),(68,.int .i64 x.vars.length),(69,.int .i64 s.i)])
     (H:=fun s=>h++ [.mem 1 71 NL5,.mem 1 29 [.int .i64 0],.mem 1 71 [strs names,qu gs,strs t,qy L,.osl (h.length+10) v 1 0 i],.emp (w+1),.mem (qv (some O4)+1) 49 (enC x),zk s.v 37 (stC names gs x s.i),s.O6,s.O7,.emp 0,O9,zk v 91 (msC names gs L i),.emp 0,.emp 0])
     (inv:=fun s=>s.i≤x.vars.length∧qH [s.O6] 0=true∧qH [s.O7] 0=true) (m:=fun s=>x.vars.length-s.i) ⟨0,qv (some O5)+1,.emp 0,.emp 0,O6,O7,.emp 0⟩ ⟨Nat.zero_le _,p6,p7⟩ (Wk.temps ?_) ?_
    ·(simp only [List.replicate,qy,go_sem,qj,qh,qg,qi];try (repeat' first|(with_reducible refine And.intro ?_ ?_)|(apply qd;omega)|(apply qa;rfl)|exact VLe.refl _))
    rintro ⟨j,u,Q4,Q5,Q6,Q7,Q9⟩ ⟨j1,q6,q7⟩ K3 hK3
    simp only at j1 q6 q7 hK3
    have q6': ∀m,qH (Q6::m) 0=true:=fun _=>q6
    have q7': ∀m,qH (Q7::m) 0=true:=fun _=>q7
    have hsj:=qo2 names gs x j
    have hsl:=qsI names gs x j
    by_cases hj:j<x.vars.length
    ·have k4:((j:Int)<x.vars.length)=True:=eq_true (by omega)
     have c62:=fun h=>qx0 names gs (x.vars.getD j default).sigla h hc.hz (by have:=hsgl j;omega)
     rw [hck.ev j hj]at c62
     obtain ⟨va,hva⟩: ∃va,va=x.vars.getD j default:=⟨_,rfl⟩
     have eva:=hva.symm
     simp only [eva]at c62 hsj
     have eT:List.take j (stC names gs x j)=stC names gs x j:=List.take_of_length_le (by omega)
     simp (disch:=omega) only [List.replicate,qB,vaC,k4,eva,q6',q7',Nat.mul_one,go_sem]
     repeat' first
      |((first|refine cA (c62 _) ?_ ?_|refine cG (fun e=>c62 _) ?_ ?_|refine cU (fun _=>c62 _) ?_ ?_);(next=>exact flk);simp (disch:=omega) only [qB,vaC,k4,eva,q6',q7',hsl,eT,Nat.mul_one,go_sem])
      |((first|apply qc|apply qb);exact rvk;simp only [go_sem];first|exact VLe.refl _|apply qd|apply qa|apply qe|skip)
      |with_reducible first|refine And.intro ?_ ?_|intro _
     all_goals try exact clz
     refine hK3 _ _ ⟨j+1,u+1,.emp 0,.emp 0,.mem (qv (some Q6)+1) 51 [strs va.words,strs va.sigla],.mem (qv (some Q7)+1) 37 [ql (zg names gs va.sigla)],.emp 0⟩ ⟨hj,rfl,rfl⟩ (by simp only;omega) ?_
     simp only
     rw [←hsj]
     refine Wk.temps ?_
     (simp only [List.replicate,qB,qy,go_sem,qj,qh,qg,qi];try (repeat' first|(with_reducible refine And.intro ?_ ?_)|(apply qd;omega)|(apply qa;rfl)|exact VLe.refl _))
    ·obtain rfl:j=x.vars.length:=by omega
     have k4:((x.vars.length:Int)<x.vars.length)=False:=eq_false (by omega)
     have eT:List.take i (msC names gs L i)=msC names gs L i:=List.take_of_length_le (by omega)
     simp (disch:=omega) only [List.replicate,k4,p9',Nat.mul_one,go_sem]
     repeat' first
      |((first|apply qc|apply qb);exact rvk;simp only [go_sem];first|exact VLe.refl _|apply qd|apply qa|apply qe|skip)
      |with_reducible first|refine And.intro ?_ ?_|intro _
     all_goals try exact clz
     rw [eT,jA (qp3 _ _ _ _ _)]
     refine hK2 _ _ ⟨i+1,v+1,.mem (qv (some O4)+1) 49 (enC x),.emp (u+1),Q6,Q7,.mem (qv (some O9)+1) 91 (.osl (h.length+5) u 1 0 x.vars.length::List.drop 1 (zr [AV.nl] 1))⟩ ⟨hi,rfl,rfl,q6,q7,rfl⟩ (by simp only;omega)
      (Wk.trans (Wk.fzCell (j:=h.length+10) (k:=h.length+5) (i:=i) (v:=v+1) (ty:=91) (cs:=msC names gs L i++ [.osl (h.length+5) u 1 0 x.vars.length]) (c:= .osl (h.length+5) u 1 0 x.vars.length) (c':=stV names gs x) ?w6 ?w7 ?w8 (by omega) ?w9) ?w10)
     case w6=>simp only [go_sem]
     case w7=>rw [List.getElem?_append_right (by omega),hml,Nat.sub_self];rfl
     case w8=>simp only [go_sem]
     case w9=>
      rw [qaB,getO_app]
      exact qbT (fun _=>rfl) rfl
     case w10=>
      have eset:(msC names gs L i++ [AV.osl (h.length+5) u 1 0 x.vars.length]).set i (stV names gs x)=msC names gs L (i+1):=by
       rw [List.set_append_right _ _ (by omega),hml,Nat.sub_self,List.set_cons_zero,hms]
      have eown:zk (v+1) 91 (msC names gs L (i+1))= .mem (v+1) 91 (msC names gs L (i+1)):=jA (by rw [←hms];exact qp3 _ _ _ _ _)
      simp only [go_sem,eset,eown]
      refine Wk.temps ?_
      (simp only [List.replicate,qy,go_sem,qj,qh,qg,qi];try (repeat' first|(with_reducible refine And.intro ?_ ?_)|(apply qd;omega)|(apply qa;rfl)|exact VLe.refl _))
   ·obtain rfl:i=L.length:=by omega
    have k3:((L.length:Int)<L.length)=False:=eq_false (by omega)
    simp (disch:=omega) only [List.replicate,k3,go_sem]
    repeat' first
     |((first|apply qc|apply qb);exact rvk;simp only [go_sem];first|exact VLe.refl _|apply qd|apply qa|apply qe|skip)
     |with_reducible first|refine And.intro ?_ ?_|intro _
    all_goals try exact clz
    refine hKK _ _ ⟨.emp (w+1),O4,O5,O6,O7,.emp 0,O9,.emp (v+1),hi2,Wk.trans (Wk.fzCell (j:=h.length+2) (k:=h.length+10) (i:=4) (v:=1) (ty:=71) (cs:= [strs names,qu gs,strs t,qy L,.osl (h.length+10) v 1 0 L.length]) (c:= .osl (h.length+10) v 1 0 L.length) (c':=msV names gs L) ?w11 rfl ?w12 (by omega) ?w13) ?w14⟩
    case w11=>simp only [go_sem]
    case w12=>simp only [go_sem]
    case w13=>
     rw [qaB,getO_app]
     exact qbT (fun _=>rfl) rfl
    case w14=>
     simp only [go_sem,List.set_cons_succ,List.set_cons_zero]
     refine Wk.temps ?_
     (simp only [List.replicate,qy,go_sem,qj,qh,qg,qi];try (repeat' first|(with_reducible refine And.intro ?_ ?_)|(apply qd;omega)|(apply qa;rfl)|exact VLe.refl _))
 case hy=>
  rintro tt hh ⟨O3,O4,O5,O6,O7,O8,O9,O10,hi2,hw⟩
  have hn0:=qC (f:=fun i=>kX names gs t (l.getD i default)) (fun j (hj:j<l.length)=>hi2 j hj)
  rw [if_neg (fun hc=>hc hn0)]at hR
  simp (disch:=omega) only [go_sem]
  refine ⟨_,_,hw,?_⟩
  have vl: ∀i,((zX l).getD i default).vars.length≤1000000000:=fun i=>by
   by_cases hi:i<(zX l).length
   ·obtain ⟨j,hj,e⟩:=List.getElem_of_mem ((zO l).subset (jw hi))
    have:=hc.vl j
    rw [gdqA (l:=l),qR hj]at this
    rw [←e]
    have e2:(some l[j]).getD default=l[j]:=rfl
    rw [e2]at this
    omega
   ·rw [gdqA,List.getElem?_eq_none (by omega)]
    exact Nat.zero_le _
  have hLn:=kU l
  have hfr: ∀(s:Nat) i,i<(ofE names gs l (s:Int)).length→0≤((ofE names gs l (s:Int)).getD i default).frm:=fun s i hi=>by
   have hm:=qkN (jw hi)
   obtain ⟨j,hj,e⟩:=List.getElem_of_mem hm
   have:=(jh.1 (hi2 j hj)).rng.1
   rw [gdqA (l:=l),qR hj]at this
   rw [←e]
   exact this
  have zl: ∀g,valL g .len [strs names]= .int .i64 names.length:=fun _=>rfl
  have zo: ∀g,okL g .len [strs names]=True:=fun _=>eq_true trivial
  simp (disch:=omega) only [List.replicate,zl,zo,go_sem]
  repeat' first
   |((first|apply qc|apply qb);exact rvk;simp only [go_sem];first|exact VLe.refl _|apply qd|apply qa|apply qe|skip)
   |with_reducible first|refine And.intro ?_ ?_|intro _
  all_goals try exact clz
  refine qn (T:=fun s:Nat×AObj×AObj=>qI 131 [(8,.op h.length 1 0),(9,.op (h.length+1) 1 0),(10,.op (h.length+2) 1 0),(98,.int .i64 names.length),(99,.int .i64 s.1)])
   (H:=fun s=>h++ [.mem 1 71 NL5,.mem 1 29 [.int .i64 0],.mem 1 71 (edL names gs t (zX l)),O3,O4,O5,O6,O7,O8,O9,O10,s.2.1,s.2.2])
   (inv:=fun s=>s.1≤names.length∧(∀j,j<s.1→zQ (ofE names gs l (j:Int))=false)∧qH [s.2.1] 0=true∧qH [s.2.2] 0=true∧ ∀n,qai n s.2.2) (m:=fun s=>names.length-s.1) (0,.emp 0,.emp 0) ⟨Nat.zero_le _,fun j hj=>by omega,rfl,rfl,fun _=>trivial⟩ ?_ ?_
  ·refine Wk.temps ?_
   (simp only [List.replicate,go_sem,qj,qh,qg,qi];try (repeat' first|(with_reducible refine And.intro ?_ ?_)|(apply qd;omega)|(apply qa;rfl)|exact VLe.refl _))
  rintro ⟨s,O11,O12⟩ ⟨s1,s2,s3,s4,s5⟩ K hK
  simp only at s1 s2 s3 s4 s5 hK
  have s3': ∀m,qH (O11::m) 0=true:=fun _=>s3
  have s4': ∀m,qH (O12::m) 0=true:=fun _=>s4
  by_cases hs:s<names.length
  ·have k2:((s:Int)<names.length)=True:=eq_true (by omega)
   have c75:=fun h=>ofP names gs t (zX l) (s:Int) h
   have hcl:=qb3 (ofE names gs l (s:Int))
   have hfr:=hfr s
   have hxl:=qbg names gs (zX l) (s:Int)
   have hxg:=fun {i} hi=>qfR names gs (zX l) (s:Int) (i:=i) hi
   have hF0:(zX l).filter (qar names gs (s:Int))=ofE names gs l (s:Int):=rfl
   rw [hF0]at hxl
   simp only [hF0]at hxg
   obtain ⟨F,hF⟩: ∃F,F=ofE names gs l (s:Int):=⟨_,rfl⟩
   rw [←hF]at hcl hfr hxl
   simp only [←hF]at hxg
   obtain ⟨w,hw⟩: ∃w,qv (some O11)+1=w:=⟨_,rfl⟩
   unfold edL at c75
   simp (disch:=omega) only [List.replicate,edL,k2,s3',s4',zl,zo,hw,go_sem]
   repeat' first
    |((first|refine cA (c75 _) ?_ ?_|refine cG (fun e=>c75 _) ?_ ?_|refine cU (fun _=>c75 _) ?_ ?_);(next=>exact flk);simp (disch:=omega) only [edL,k2,s3',s4',zl,zo,hw,go_sem])
    |((first|apply qc|apply qb);exact rvk;simp only [go_sem];first|exact VLe.refl _|apply qd|apply qa|apply qe|skip)
    |with_reducible first|refine And.intro ?_ ?_|intro _
   all_goals try exact clz
   refine kj (xs:=xsE names gs (zX l) (s:Int)) (itO names gs t (zX l) (s:Int) (by omega) vl) (qfS names gs (zX l) (s:Int))
    (S:=fun i hh=> ∃O,qH [O] 0=true∧(∀n,qai n O)∧(∀j,j+1<i→jb (F.getD j default) (F.getD (j+1) default)=false)∧hh=h++ [.mem 1 71 NL5,.mem 1 29 [.int .i64 0],.mem 1 71 (edL names gs t (zX l)),O3,O4,O5,O6,O7,O8,O9,O10,.mem w 49 (qdf F i),O])
    (E:=fun e hh=>e= .ret∧rdE names gs t l=17∧ ∃O i,(∀n,qai n O)∧hh=h++ [.mem 1 71 (edL names gs t (zX l)),.mem 1 29 [.int .i64 17],.mem 1 71 (edL names gs t (zX l)),O3,O4,O5,O6,O7,O8,O9,O10,.mem w 49 (qdf F i),O]) ?_ ?_ ?_ ?_ ?_ ?_ ?_
   ·rintro i hh ⟨O,o1,o2,o3,rfl⟩
    refine LowI.app rfl (fun o ho=> ?_)
    simp only [List.mem_cons,List.not_mem_nil,or_false]at ho
    rcases ho with rfl|rfl|rfl|rfl|rfl|rfl|rfl|rfl|rfl|rfl|rfl|rfl|rfl
    ·left;simp [NL5]
    ·left;simp
    ·left;simp [edL]
    all_goals first
     |(left;simp;done)
     |(right;exact ⟨o2 _,o2 _⟩)
     |(right;exact ⟨qaG _ _ _,qaG _ _ _⟩)
   ·rintro e hh ⟨rfl,_,O,i,o2,rfl⟩
    refine LowI.app rfl (fun o ho=> ?_)
    simp only [List.mem_cons,List.not_mem_nil,or_false]at ho
    rcases ho with rfl|rfl|rfl|rfl|rfl|rfl|rfl|rfl|rfl|rfl|rfl|rfl|rfl
    ·left;simp [edL]
    ·right;constructor<;>(intro c hc;simp only [List.mem_cons,List.not_mem_nil,or_false]at hc;subst hc;rfl)
    ·left;simp [edL]
    all_goals first
     |(left;simp;done)
     |(right;exact ⟨o2 _,o2 _⟩)
     |(right;exact ⟨qaG _ _ _,qaG _ _ _⟩)
   ·exact ⟨O12,s4,s5,fun j hj=>by omega,rfl⟩
   ·simp [zE,zE.lowVs,qbP,qdh,qdg,qfc]
    try omega
   ·rintro i hh tl LI TS hi ⟨O,o1,o2,o3,rfl⟩ hq K3 K4 hK3 hN hRt hX
    have o1': ∀m,qH (O::m) 0=true:=fun _=>o1
    rw [hxg hi]
    rw [hxl]at hi
    have hb:=hfr i hi
    obtain ⟨B,hB⟩: ∃B,B=F.getD i default:=⟨_,rfl⟩
    have eB:=hB.symm
    rw [eB]at hb
    simp only [qba,eB]
    obtain ⟨u,hu⟩: ∃u,qv (some O)+1=u:=⟨_,rfl⟩
    simp (disch:=omega) only [List.append_assoc,o1',enC,hu,go_sem]
    refine hK3 _ _ (h++ [.mem 1 71 NL5,.mem 1 29 [.int .i64 0],.mem 1 71 (edL names gs t (zX l)),O3,O4,O5,O6,O7,O8,O9,O10,.mem w 49 (qdf F i),.mem u 49 (enC B)]) (by simp [enC]) (by simp) ?_
    have hcf: ∀A,jb A B=(decide (B.frm<A.to)||decide (A.frm=B.frm)&&decide (A.to=B.to)):=fun _=>rfl
    have next: ∀X,X=h++ [.mem 1 71 NL5,.mem 1 29 [.int .i64 0],.mem 1 71 (edL names gs t (zX l)),O3,O4,O5,O6,O7,O8,O9,O10,.mem w 49 (enC B),.mem u 49 (enC B)]++ .lp .busy TS LI::tl→
      (∀j,j+1<i+1→jb (F.getD j default) (F.getD (j+1) default)=false)→ ∀t3,K4 .normal t3 X:=by
     intro X hXe hcc t3
     refine hN _ _ _ hXe (by simp) ⟨.mem u 49 (enC B),rfl,fun n=>qe3 B n,hcc,?_⟩
     show _=h++ [_,_,_,_,_,_,_,_,_,_,_,.mem w 49 (enC (F.getD i default)),_]
     rw [eB]
    cases i with
    |zero=>
     have r1:(B.frm< -1)=False:=eq_false (by omega)
     have r2:(B.frm= -1)=False:=eq_false (by omega)
     simp (disch:=omega) only [List.append_assoc,qdf,enC,r1,r2,go_sem]
     repeat' first
      |((first|apply qc|apply qb);exact rvk;simp only [go_sem];first|exact VLe.refl _|apply qd|apply qa|apply qe|skip)
      |with_reducible first|refine And.intro ?_ ?_|intro _
     all_goals try exact clz
     refine next _ ?_ (fun j hj=>by omega) _
     simp [enC]
    |succ i=>
     have o4:jb (F.getD i default) B=false→ ∀j,j+1<i+1+1→jb (F.getD j default) (F.getD (j+1) default)=false:=by
      intro hcc j hj
      by_cases e:j=i
      ·subst e;rw [eB];exact hcc
      ·exact o3 j (by omega)
     have o5:jb (F.getD i default) B=true→rdE names gs t l=17:=by
      intro hcc
      rw [hR,if_pos]
      unfold zL
      rw [qW]
      refine ⟨s,hs,?_⟩
      rw [←hF,hcl]
      exact ⟨i,hi,by rw [eB];exact hcc⟩
     have eS:qdf F (i+1)=enC (F.getD i default):=rfl
     obtain ⟨A,hA⟩: ∃A,A=F.getD i default:=⟨_,rfl⟩
     rw [←hA]at o4 o5 eS
     rw [eS]
     have hcfA:=hcf A
     have bad:jb A B=true→ ∀X,X=h++ [.mem 1 71 (edL names gs t (zX l)),.mem 1 29 [.int .i64 17],.mem 1 71 (edL names gs t (zX l)),O3,O4,O5,O6,O7,O8,O9,O10,.mem w 49 (enC A),.mem u 49 (enC B)]++ .lp .busy TS LI::tl→ ∀t3,K4 .ret t3 X:=by
      intro hcc X hXe t3
      refine hRt _ _ _ hXe (by simp) ⟨rfl,o5 hcc,.mem u 49 (enC B),i+1,fun n=>qe3 B n,?_⟩
      rw [eS]
     by_cases b1:B.frm<A.to
     ·have r1:(B.frm<A.to)=True:=eq_true b1
      simp (disch:=omega) only [List.append_assoc,enC,edL,NL5,r1,go_sem]
      repeat' first
       |((first|apply qc|apply qb);exact rvk;simp only [go_sem];first|exact VLe.refl _|apply qd|apply qa|apply qe|skip)
       |with_reducible first|refine And.intro ?_ ?_|intro _
      all_goals try exact clz
      refine bad (by rw [hcfA,decide_eq_true b1];rfl) _ ?_ _
      simp [enC,edL]
     have r1:(B.frm<A.to)=False:=eq_false b1
     by_cases b2:A.frm=B.frm
     ·have r2:(B.frm=A.frm)=True:=eq_true b2.symm
      by_cases b3:A.to=B.to
      ·have r3:(B.to=A.to)=True:=eq_true b3.symm
       simp (disch:=omega) only [List.append_assoc,enC,edL,NL5,r1,r2,r3,go_sem]
       repeat' first
        |((first|apply qc|apply qb);exact rvk;simp only [go_sem];first|exact VLe.refl _|apply qd|apply qa|apply qe|skip)
        |with_reducible first|refine And.intro ?_ ?_|intro _
       all_goals try exact clz
       refine bad (by rw [hcfA,decide_eq_true b2,decide_eq_true b3,Bool.and_true,Bool.or_true]) _ ?_ _
       simp [enC,edL]
      ·have r3:(B.to=A.to)=False:=eq_false (fun e=>b3 e.symm)
       simp (disch:=omega) only [List.append_assoc,enC,r1,r2,r3,go_sem]
       repeat' first
        |((first|apply qc|apply qb);exact rvk;simp only [go_sem];first|exact VLe.refl _|apply qd|apply qa|apply qe|skip)
        |with_reducible first|refine And.intro ?_ ?_|intro _
       all_goals try exact clz
       refine next _ ?_ (o4 (by rw [hcfA,decide_eq_false b1,decide_eq_false b3,Bool.and_false,Bool.or_false])) _
       simp [enC]
     ·have r2:(B.frm=A.frm)=False:=eq_false (fun e=>b2 e.symm)
      simp (disch:=omega) only [List.append_assoc,enC,r1,r2,go_sem]
      repeat' first
       |((first|apply qc|apply qb);exact rvk;simp only [go_sem];first|exact VLe.refl _|apply qd|apply qa|apply qe|skip)
       |with_reducible first|refine And.intro ?_ ?_|intro _
      all_goals try exact clz
      refine next _ ?_ (o4 (by rw [hcfA,decide_eq_false b1,decide_eq_false b2,Bool.false_and,Bool.or_false])) _
      simp [enC]
   ·rintro hh ⟨O,o1,o2,o3,rfl⟩
    rw [hxl]at o3 ⊢
    simp (disch:=omega) only [go_sem]
    repeat' first
     |((first|apply qc|apply qb);exact rvk;simp only [go_sem];first|exact VLe.refl _|apply qd|apply qa|apply qe|skip)
     |with_reducible first|refine And.intro ?_ ?_|intro _
    all_goals try exact clz
    refine hK _ _ (s+1,.mem w 49 (qdf F F.length),O) ⟨hs,fun j hj=> ?_,rfl,o1,o2⟩ (by simp only;omega) (Wk.temps ?_)
    ·by_cases e:j=s
     ·subst e
      rw [←hF]
      cases e:zQ F with
      |false=>rfl
      |true=>
       obtain ⟨m,m1,m2⟩:=hcl.1 e
       rw [o3 m m1]at m2;cases m2
     ·exact s2 j (by simp only at hj;omega)
    ·(simp only [List.replicate,edL,go_sem,qj,qh,qg,qi];try (repeat' first|(with_reducible refine And.intro ?_ ?_)|(apply qd;omega)|(apply qa;rfl)|exact VLe.refl _))
   ·rintro e hh ⟨rfl,h17,O,i,o2,rfl⟩
    rw [qbr (by rw [h17];decide),h17]
    simp (disch:=omega) only [edL,go_sem]
    repeat' first
     |((first|apply qc|apply qb);exact rvk;simp only [go_sem];first|exact VLe.refl _|apply qd|apply qa|apply qe|skip)
     |with_reducible first|refine And.intro ?_ ?_|intro _
    all_goals try exact clz
    exact qxl _ _ _ _ _ _
  ·have k2:((s:Int)<names.length)=False:=eq_false (by omega)
   have hz:zL names gs l=false:=qD.2 fun j hj=>s2 j (by omega)
   rw [if_neg (by rw [hz];simp)]at hR
   rw [qcN hR,hR]
   simp (disch:=omega) only [List.replicate,k2,edL,NL5,go_sem]
   repeat' first
    |((first|apply qc|apply qb);exact rvk;simp only [go_sem];first|exact VLe.refl _|apply qd|apply qa|apply qe|skip)
    |with_reducible first|refine And.intro ?_ ?_|intro _
   all_goals try exact clz
end RC
end
