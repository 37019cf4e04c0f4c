import Derived.Test.YtgoandblgcjleaaGreatDoorK9
import Derived.Test.YtgoandblgcjleaaGreatDoorK2
import Derived.Test.YtgoandblgcjleaaGreatDoorK4
import Derived.Test.YtgoandblgcjleaaGreatDoorK7
import Derived.Test.YtgoandblgcjleaaGreatDoorProg
import Derived.Test.YtgoandblgcjleaaGreatDoorK8
set_option linter.all false
set_option linter.unusedSimpArgs false
set_option linter.unusedVariables false
set_option linter.unusedSectionVars false
set_option maxRecDepth 100000
section
open Go Go.Proofs AF HY LN
namespace AF
theorem qad {P:Program} {f:FuncId} {cap:List AV} {xs:List (List AV)} (hf:qsM P f cap xs) {ps:List Nat} {b:Nat} {x y:C} {Q:Ex→Nx} {ts:List AV} {h:List AObj} (hps: ∀a∈xs,a.length=ps.length)
  (S:Nat→List AObj→Prop) (E:Ex→List AObj→Prop) (hS: ∀i hh,S i hh→LowI h hh) (hE: ∀s hh,E s hh→LowI h hh)
  (start:S 0 h) (hts: ∀c∈ts,zQ (h.length+1) c=true)
  (body: ∀i hh tl L TS,(hi:i<xs.length)→S i hh→hh.length=h.length→ ∀(K:Nx) (K2:Ex→Nx),
   (∀t2 X hm,X=hm++ .lp .ready TS L::tl→hm.length=h.length→qP P b y K2 t2 (hm++ .lp .busy TS L::tl)→K t2 X)→
   (∀t3 X hh',X=hh'++ .lp .busy TS L::tl→hh'.length=h.length→S (i+1) hh'→K2 .normal t3 X)→
   (∀t3 X hh',X=hh'++ .lp .busy TS L::tl→hh'.length=h.length→E .ret hh'→K2 .ret t3 X)→
   (∀id t3 X hh',X=hh'++ .lp .busy TS L::tl→hh'.length=h.length→E (.exit id) hh'→K2 (.exit id) t3 X)→
   qP P b x (Ex.andThen K (fun _ _ _=>False)) (qbj ts ps (xs[i])) (hh++ .lp .ready TS L::tl))
  (done: ∀hh,S xs.length hh→Q .normal ts hh) (doneE: ∀e hh,E e hh→match e with
   | .normal=>False
   |e=>Q e ts hh):
  qdM P (.fn (.func f) [] cap) ps (qP P b x) (qP P b y) Q ts h:=by
 intro L hy
 show jj _ _ _ _ _
 have key:=hf h ts L S (fun s hh=>match s with
  | .ret=>E .ret hh
  | .exit id=>E (.exit id) hh
  |_=>False) hS
  (by
   intro s hh hs
   cases s with
   |ret=>exact hE _ _ hs
   |exit id=>exact hE _ _ hs
   |ready=>exact hs.elim
   |busy=>exact hs.elim)
  (by
   intro i hh tl hi i4
   have hlen:=(hS _ _ i4).1
   refine hy h.length ts _ _ _ (jN hlen) (hps _ (List.getElem_mem hi)) ?_
   refine kx (Q:=Ex.andThen (fun t2 h2=> ∃hm,hm.length=h.length∧h2=hm++ .lp .ready ts L::tl∧
    qP P b y (fun e t3 h3=> ∃hh',h3=hh'++ .lp .busy ts L::tl∧hh'.length=h.length∧match e with
     | .normal=>S (i+1) hh'
     | .ret=>E .ret hh'
     | .exit id=>E (.exit id) hh') t2 (hm++ .lp .busy ts L::tl)) (fun _ _ _=>False)) ?_
    (body i hh tl L ts hi i4 hlen _ _ (fun t2 X hm e1 e2 e3=>⟨hm,e2,e1,e3⟩) (fun t3 X hh' e1 e2 e3=>⟨hh',e1,e2,e3⟩) (fun t3 X hh' e1 e2 e3=>⟨hh',e1,e2,e3⟩) (fun id t3 X hh' e1 e2 e3=>⟨hh',e1,e2,e3⟩))
   intro e t2 h2 hq
   cases e with
   |ret=>exact hq.elim
   |exit id=>exact hq.elim
   |normal=>
    obtain ⟨hm,hml,rfl,h3⟩:=hq
    refine ⟨rfl,⟨ts,jN hml⟩,fun ts' hts'=> ?_⟩
    rw [jN hml]at hts'
    cases hts'
    rw [qbc hml]
    refine kx ?_ h3
    rintro e t3 h3' ⟨hh',rfl,g1,g2⟩
    refine ⟨ts,jN g1,?_⟩
    cases e with
    |normal=>exact ⟨hh',.inl ⟨rfl,g2,qbc g1⟩⟩
    |ret=>exact ⟨hh',.inr ⟨.ret,rfl,g2,qbc g1⟩⟩
    |exit id=>exact ⟨hh',.inr ⟨.exit id,rfl,g2,qbc g1⟩⟩)
  start hts
 refine key.le (qaF.refl _) ?_
 rintro v h' ⟨hh,⟨g1,rfl⟩|⟨s,g1,rfl⟩⟩
 ·have hl:=hS _ _ g1
  exact ⟨v,VLe.refl _,hh,.ready,ts,L,rfl,hl.1,fun o ho=>(hl.2 o ho).imp (fun h=>h) And.left,done hh g1⟩
 ·cases s with
  |ready=>exact g1.elim
  |busy=>exact g1.elim
  |ret=>
   have hl:=hE _ _ g1
   exact ⟨v,VLe.refl _,hh,.ret,ts,L,rfl,hl.1,fun o ho=>(hl.2 o ho).imp (fun h=>h) And.left,doneE _ _ g1⟩
  |exit id=>
   have hl:=hE _ _ g1
   exact ⟨v,VLe.refl _,hh,.exit id,ts,L,rfl,hl.1,fun o ho=>(hl.2 o ho).imp (fun h=>h) And.left,doneE _ _ g1⟩
end AF
namespace RC
set_option maxHeartbeats 4000000
theorem qcI (n:Nat) (L:List Str):zQ n (strs L)=true:=rfl
end RC
end
section
open Go Go.Proofs AF HY LN
namespace AF
theorem Wk.ownNil {t:List AV} {h:List AObj} {j v i k ve sz:Nat} {ty:TypeId} {cs:List AV} (hj:qy j h=some (.mem v ty cs)) (hi:cs[i]? =some .nl) (hk:qy k h=some (.emp ve)):
  Wk t h t (qG j h (.mem v ty (cs.set i (.osl k ve sz 0 0)))):=by
 intro N w σ a H
 have hjl:j<σ.length:=by rw [H.hr.len];exact j0 hj
 have hkl:k<σ.length:=by rw [H.hr.len];exact j0 hk
 have ho:=zM hjl
 have hok:=zM hkl
 obtain ⟨e1,e2⟩:=H.hr.obj k _ _ hk hok
 obtain ⟨m1,m2,b,arr,m3,m4,m5,m6,m7,m8⟩:=H.hr.obj j _ _ hj ho
 have q:=H.hr.recell (cs':=cs.set i (.osl k ve sz 0 0)) hj ho m3 m4 m5 (by simpa using m6) (fun n x hn hx=>m7 n x (by simpa using hn) hx) (fun n c x hn hx=>by
  rw [List.getElem?_set]at hn
  split at hn
  ·rename_i e
   subst e
   split at hn
   ·cases hn
    have hv:=m8 i _ x hi hx
    cases hv with
    |imm hv=>
     cases hv
     exact .osl _ hok ⟨none,0,0,rfl⟩ (Nat.le_of_eq e1.symm) (fun _=> .inl ⟨e2,rfl,rfl,rfl⟩)
   ·cases hn
  ·exact m8 n c x hn hx)
 exact ⟨σ,⟨q,H.sz,H.tm,H.df⟩,Ext.refl _ _⟩
end AF
namespace RC
set_option maxHeartbeats 4000000
structure qzh (t:List Str) (L:List En):Prop where
 rg: ∀i,i<L.length→0≤(L.getD i default).frm∧(L.getD i default).frm≤(L.getD i default).to∧(L.getD i default).to≤t.length
 nx: ∀i,i+1<L.length→(L.getD i default).to≤(L.getD (i+1) default).frm
theorem qrv {names:List Str} {gs:List Gr} {l:List En} {src:Int} {e:En} (h:e∈ofE names gs l src):e∈l:=(qk6 l).subset (List.mem_filter.1 h).1
theorem qjw {L:List En} {i:Nat} (hi:i<L.length):L.getD i default∈L:=by
 rw [gdqA,zM hi]
 exact List.getElem_mem hi
theorem qyL.tx {names:List Str} {gs:List Gr} {t:List Str} {l:List En} (h:qyL names gs t l) {s:Nat} (hs:s<names.length):qzh t (ofE names gs l (s:Int)):=
 ⟨fun i hi=>(qqv.1 (h.ck _ (qrv (qjw hi)))).rng,fun i hi=>qmz (qbW h.cl hs) hi⟩
end RC
end
section
open Go Go.Proofs AF HY LN
namespace RC
set_option maxHeartbeats 4000000
structure CSz (names:List Str) (gs:List Gr) (t:List Str) (l:List En):Prop where
 hz:Szs names gs
 ht:TSz t
 tn:t.length≤1000
 ln:l.length≤10
 nn:names.length≤1000
 gm: ∀i,(gs.getD i default).mem.length≤1000
 he: ∀i,ESz (l.getD i default)
 vl: ∀i,(l.getD i default).vars.length≤1000
 sg: ∀i j,((l.getD i default).vars.getD j default).sigla.length≤1000
 wl: ∀i j,((l.getD i default).vars.getD j default).words.length≤1000
 sp: ∀i,(l.getD i default).sup.length≤1000
def qsh (L:List (List Str)):AV:= .sl L.length fun i=> [strs (L.getD i [])]
theorem qgh (L:List (List Str)):(qsh L).flag=true:=rfl
theorem qeS (L:List (List Str)):(qsh L).strip=qsh L:=rfl
attribute [go_sem] qgh qeS
theorem jF (L:List Str):(jc L).length=L.length:=by simp [jc]
theorem qbv (L M:List Str):jc (L++M)=jc L++jc M:=by simp [jc]
theorem qoy {L:List Str}:jc L= []↔L= []:=by simp [jc]
theorem qoA {L:List Str} {n:Nat} (g:AV→AV) (hg: ∀s,g (.str s)= .str s) (hn:n=L.length):VLe (.sl n fun i=>(((jc L).drop i).take 1).map g) (strs L):=by
 subst hn
 refine VLe.sl_eq rfl (fun i hi=> ?_)
 unfold jc
 rw [←List.map_drop,List.drop_eq_getElem_cons hi,List.map_cons,List.take_succ_cons,List.take_zero,List.map_cons,List.map_nil,hg,gdqA,zM hi]
 rfl
theorem qm8 {α β:Type} (f:α→β) (L:List α):L.flatMap (fun i=> [f i])=L.map f:=by
 induction L with
 |nil=>rfl
 |cons a L ih=>rw [List.flatMap_cons,ih];rfl
theorem qk5 (h:List AObj) {t:List Str} {a b:Nat} (h1:a≤b) (h2:b≤t.length):qo h (.sl (b-a) fun i=> [.str (t.getD (a+i) [])])=some (b-a,jc (qbw t a b)):=by
 show some (b-a,(List.range (b-a)).flatMap fun i=> [AV.str (t.getD (a+i) [])])=_
 rw [qm8 (fun i=>AV.str (t.getD (a+i) []))]
 congr 2
 unfold jc qbw
 apply List.ext_getElem
 ·simp;omega
 ·intro i g1 g2
  have hi:i<b-a:=by simpa using g1
  have hl:a+i<t.length:=by omega
  simp [gdqA,hl]
theorem qox (h:List AObj) (t:List Str):qo h (strs t)=some (t.length,jc t):=by
 have:=qk5 h (t:=t) (a:=0) (b:=t.length) (Nat.zero_le _) (Nat.le_refl _)
 simp only [Nat.sub_zero,Nat.zero_add]at this
 have e:qbw t 0 t.length=t:=by simp [qbw]
 rw [e]at this
 exact this
end RC
end
section
open Go Go.Proofs AF HY LN
namespace RC
set_option maxHeartbeats 8000000
def gwB (ws:List Str) (n:Nat):Bool:=zr (fun i=>decide (20<(ws.getD i []).length)) ws.length||decide (n<ws.length)
structure EnB (e:En):Prop where
 v:e.vars.length≤9223372036854775807
 s:e.sup.length≤9223372036854775807
 w: ∀i,(e.vars.getD i default).words.length≤9223372036854775807
 g: ∀i,(e.vars.getD i default).sigla.length≤9223372036854775807
end RC
end
section
open Go Go.Proofs AF HY LN
namespace RC
set_option maxHeartbeats 8000000
def grB (g:Gr):Bool:=decide (20<g.name.length)||decide (40<g.mem.length)
def qra (names:List Str) (gs:List Gr):Bool:=
 zr (fun i=>decide (20<(names.getD i []).length)) names.length||(zr (fun i=>grB (gs.getD i default)) gs.length||
  (((decide (8<names.length)&&decide (names.length≤32))||decide (34<names.length))||(decide (5<gs.length)&&decide (gs.length≤16))||decide (18<gs.length)))
structure CB (names:List Str) (gs:List Gr) (t:List Str) (l:List En):Prop where
 hn:names.length≤9223372036854775807
 hg:gs.length≤9223372036854775807
 ht:t.length≤9223372036854775807
 hl:l.length≤9223372036854775807
 he: ∀i,EnB (l.getD i default)
theorem qpE {ws:List Str} {n:Nat} (h:gwB ws n=false):ws.length≤n∧ ∀i,(ws.getD i []).length≤20:=by
 unfold gwB at h
 rw [Bool.or_eq_false_iff,decide_eq_false_iff_not,qq]at h
 refine ⟨by omega,fun i=> ?_⟩
 by_cases hi:i<ws.length
 ·have:=of_decide_eq_false (h.1 i hi)
  omega
 ·rw [gdqA,List.getElem?_eq_none (by omega)]
  exact Nat.zero_le _
theorem qrb {names:List Str} {gs:List Gr} (h:qra names gs=false):names.length≤34∧gs.length≤18∧(∀i,(names.getD i []).length≤20)∧ ∀i,(gs.getD i default).name.length≤20∧(gs.getD i default).mem.length≤40:=by
 unfold qra at h
 simp only [Bool.or_eq_false_iff,decide_eq_false_iff_not,qq]at h
 obtain ⟨h1,h2,⟨⟨_,h3⟩,_⟩,h4⟩:=h
 refine ⟨by omega,by omega,fun i=> ?_,fun i=> ?_⟩
 ·by_cases hi:i<names.length
  ·have:=h1 i hi
   omega
  ·rw [gdqA,List.getElem?_eq_none (by omega)]
   exact Nat.zero_le _
 ·by_cases hi:i<gs.length
  ·have:=h2 i hi
   unfold grB at this
   simp only [Bool.or_eq_false_iff,decide_eq_false_iff_not]at this
   omega
  ·rw [gdqA,List.getElem?_eq_none (by omega)]
   exact ⟨Nat.zero_le _,Nat.zero_le _⟩
end RC
end
section
open Go Go.Proofs AF HY LN
namespace AF
theorem kM {v:Nat} {ty:TypeId} {cs:List AV} {n:Nat} (h: ∀c∈cs,zQ n c=true):kf n (zC v ty cs):=by
 unfold zC
 split
 ·trivial
 ·exact h
end AF
namespace RC
set_option maxHeartbeats 8000000
theorem qgT (L:List Str):(strs L).solid=true:=rfl
theorem qf1 (L:List Str):(strs L).cells= [strs L]:=rfl
theorem qd7 {k v z p n:Nat} (L:List Str):qa0 (.osl k v z p n) (strs L)=true:=rfl
attribute [go_sem] qgT qf1 qd7
theorem qcT {v:Nat} {L:List Str} {g:AV→AV} {n:Nat} (hg: ∀s,g (.str s)= .str s) (hn:n=L.length):VLe (qc7 (some (zC v 9 (jc L))) v 1 0 n g) (strs L):=by
 subst hn
 by_cases h:L= []
 ·subst h
  show VLe (qc7 (some (.emp v)) v 1 0 0 g) _
  rw [slOf_emp,if_pos rfl]
  exact kj
 ·have e0:zC v 9 (jc L)= .mem v 9 (jc L):=zS (fun e=>h (qoy.1 e))
  rw [e0,slOf_mem,if_pos ⟨rfl,by rw [jF];omega⟩]
  simp only [Nat.zero_add,Nat.mul_one]
  exact qoA g hg rfl
end RC
end
section
open Go Go.Proofs AF HY LN
namespace AF
theorem Wk.fzCell {t:List AV} {h:List AObj} {j k i v:Nat} {ty:TypeId} {cs:List AV} {c c':AV} (hj:qy j h=some (.mem v ty cs)) (hi:cs[i]? =some c) (hs:qE h k=true) (hne:j≠k) (hc:VLe (frz (fun b=> [k].contains b) h 8 c) c'):
  Wk t h t (qG j (qG k h (.emp (qr (qy k h)+1))) (.mem v ty (cs.set i c'))):=by
 intro N w σ a H
 have hs':j8 [k] h=true:=by simp [j8,hs]
 obtain ⟨σ',g1,g2,g3,g4⟩:=qbM [k] H.hr hs'
 have hn:j∉ [k]:=by simp [hne]
 have frzv: ∀c x,VR w σ c x→VR w σ' (frz (fun b=> [k].contains b) h 8 c) x:=fun c x hx=>
  qfg H.hr (fun b hb=>(g4 b hb).elim fun j ⟨o,h1,h2,h3⟩=>⟨j,o,by simpa using h1,h2,h3⟩) (fun j o hj ho=>g3 j o (by simpa using hj) ho) 8 hx
 have hjl:j<σ.length:=by rw [H.hr.len];exact j0 hj
 have ho:=zM hjl
 obtain ⟨m1,m2,b,arr,m3,m4,m5,m6,m7,m8⟩:=H.hr.obj j _ _ hj ho
 have q:=g1.recell (cs':=cs.set i c') ((qno hn).trans hj) (g3 j _ hn ho) m3 m4 m5 (by simpa using m6) (fun n x hn hx=>m7 n x (by simpa using hn) hx) (fun n d x hd hx=>by
  rw [List.getElem?_set]at hd
  split at hd
  ·rename_i e
   subst e
   split at hd
   ·cases hd;exact hc _ _ _ (frzv _ x (m8 i _ x hi hx))
   ·cases hd
  ·exact (m8 n d x hd hx).ext g2)
 exact ⟨σ',⟨q,H.sz,fun n d x hd hx=>(H.tm n d x hd hx).ext g2,kX g2 H.df⟩,g2⟩
theorem qbn {h:List AObj} {k ve sz off n:Nat}:frz (fun b=> [k].contains b) h 8 (.osl k ve sz off n)=qc7 (qy k h) ve sz off n (rei (fun b=> [k].contains b) h 7):=by
 rw [frz_osl,if_pos (by simp),rei_osl,if_pos (by simp)]
end AF
namespace RC
set_option maxHeartbeats 8000000
theorem qgR (L:List Gr):(zj L).solid=true:=rfl
theorem qfZ (L:List Gr):(zj L).cells= [zj L]:=rfl
theorem qgQ (L:List En):(qbh L).solid=true:=rfl
theorem qfY (L:List En):(qbh L).cells= [qbh L]:=rfl
theorem qkZ (names:List Str) (gs:List Gr) (e:En):(stV names gs e).solid=true:=rfl
theorem qiM (names:List Str) (gs:List Gr) (e:En):(stV names gs e).cells= [stV names gs e]:=rfl
theorem qkX (names:List Str) (gs:List Gr) (L:List En):(msV names gs L).solid=true:=rfl
theorem qiK (names:List Str) (gs:List Gr) (L:List En):(msV names gs L).cells= [msV names gs L]:=rfl
theorem qeF (L:List Int):(qp L).solid=true:=rfl
theorem qee (L:List Int):(qp L).cells= [qp L]:=rfl
attribute [go_sem] qgR qfZ qgQ qfY qkZ qiM qkX qiK qeF qee
theorem qom {v n:Nat} {ty:TypeId} {L:List En} {fz:Nat→Bool} {h:List AObj} {d:Nat} (hn:n=L.length):VLe (qc7 (some (.mem v ty (qaE L))) v 6 0 n (rei fz h (d+1))) (qbh L):=by
 subst hn
 rw [slOf_mem,if_pos ⟨rfl,by rw [qfa];omega⟩]
 refine VLe.sl_eq rfl (fun i hi=> ?_)
 simp only [Nat.zero_add]
 rw [qmR hi]
 rfl
structure RSt where
 i:Nat
 v:Nat
 O4:AObj
 O5:AObj
 O6:AObj
 O7:AObj
 O9:AObj
end RC
end
section
open Go Go.Proofs AF HY LN
namespace RC
set_option maxHeartbeats 8000000
section
variable (names : List Str) (gs : List Gr) (t : List Str) (l : List En) (src : Int) (h : List AObj)
theorem qbu {v n:Nat} {L:List Int} {g:AV→AV} (hg: ∀s,g (.int .i64 s)= .int .i64 s) (hn:n=L.length):VLe (qc7 (some (zC v 3 (qC L))) v 1 0 n g) (qp L):=by
 subst hn
 by_cases h:L= []
 ·subst h
  show VLe (qc7 (some (.emp v)) v 1 0 0 g) _
  rw [slOf_emp,if_pos rfl]
  exact kj
 ·have e0:zC v 3 (qC L)= .mem v 3 (qC L):=zS (fun e=>h (qdx.1 e))
  rw [e0,slOf_mem,if_pos ⟨rfl,by rw [zf];omega⟩]
  simp only [Nat.zero_add,Nat.mul_one]
  exact qdy g hg rfl
end
end RC
end
section
open Go Go.Proofs AF HY LN
namespace RC
set_option maxHeartbeats 8000000
end RC
end
section
open Go Go.Proofs AF HY LN
namespace RC
set_option maxHeartbeats 8000000
section
variable (names : List Str) (gs : List Gr) (t : List Str) (l : List En) (src : Int) (h : List AObj)
end
end RC
end
section
open Go Go.Proofs AF HY LN
namespace RC
set_option maxHeartbeats 8000000
end RC
end
section
open Go Go.Proofs AF HY LN
namespace RC
set_option maxHeartbeats 8000000
end RC
end
section
open Go Go.Proofs AF HY LN
namespace RC
set_option maxHeartbeats 8000000
end RC
end
section
open Go Go.Proofs AF HY LN
namespace RC
set_option maxHeartbeats 8000000
end RC
namespace RC
set_option maxHeartbeats 8000000
end RC
end
section
open Go Go.Proofs AF HY LN
namespace AF
structure qsN (E:AV) (n:Nat) (cs:List AV):Prop where
 fl:E.flag=true
 st:E.strip=E
 vl: ∀g,valL g .len [E]= .int .i64 n
 ok: ∀g,okL g .len [E]=True
 sc: ∀g,qo g E=some (n,cs)
 ap: ∀k v z p m,qa0 (.osl k v z p m) E=true
theorem qsN.sl (n:Nat) (f:Nat→List AV):qsN (.sl n f) n ((List.range n).flatMap f):=⟨rfl,rfl,fun _=>rfl,fun _=>eq_true trivial,fun _=>rfl,fun _ _ _ _ _=>rfl⟩
structure Src (h:List AObj) (e:AV) (n:Nat) (cs:List AV):Prop where
 flag:e.flag=true
 strip:e.strip=e
 lenOk: ∀X,okL (h++X) .len [e]=True
 len: ∀X,valL (h++X) .len [e]= .int .i64 n
 cells: ∀X,qo (h++X) e=some (n,cs)
 apart: ∀k v z p m,h.length≤k→qa0 (.osl k v z p m) e=true
theorem qzG {P:Program} {f:FuncId} {args:List AV} {h h':List AObj} {r:AV} (ks:List Nat) (hs:j8 ks h=true) (hc:ACalls P f (args.map (frz (fun k=>ks.contains k) h 8)) (qcH ks h) r h'):ACalls P f args h r h':=by
 refine ⟨hc.1,fun w σ xs H hv=> ?_⟩
 obtain ⟨σ',g1,g2,g3,g4⟩:=qbM ks H hs
 refine (hc.2 w σ' xs g1 ⟨by rw [hv.1];simp,fun i c x hcc hx=> ?_⟩).mono ?_
 ·rw [List.getElem?_map,Option.map_eq_some_iff]at hcc
  obtain ⟨c0,hcc,rfl⟩:=hcc
  exact qfg H (fun b hb=>(g4 b hb).elim fun j ⟨o,h1,h2,h3⟩=>⟨j,o,by simpa using h1,h2,h3⟩) (fun j o hj ho=>g3 j o (by simpa using hj) ho) 8 (hv.2 i c0 x hcc hx)
 ·rintro e w' ⟨v,σ2,rfl,k1,k2,k3⟩
  exact ⟨v,σ2,rfl,k1,k2,g2.trans k3⟩
end AF
namespace RC
set_option maxHeartbeats 8000000
theorem qsN.strs (L:List Str):qsN (strs L) L.length (jc L):=⟨rfl,rfl,fun _=>rfl,fun _=>eq_true trivial,fun g=>qox g L,fun _ _ _ _ _=>rfl⟩
theorem qsN.sub {t:List Str} {a b:Nat} (h1:a≤b) (h2:b≤t.length):qsN (.sl (b-a) fun i=> [.str (t.getD (a+i) [])]) (qbw t a b).length (jc (qbw t a b)):=by
 rw [qfG h1 h2]
 exact ⟨rfl,rfl,fun _=>rfl,fun _=>eq_true trivial,fun g=>qk5 g h1 h2,fun _ _ _ _ _=>rfl⟩
end RC
end
section
open Go Go.Proofs AF HY LN
namespace RC
set_option maxHeartbeats 8000000
end RC
end
section
open Go Go.Proofs AF HY LN
namespace RC
set_option maxHeartbeats 16000000
end RC
end
section
open Go Go.Proofs AF HY LN
namespace RC
set_option maxHeartbeats 8000000
def anN (a b:Nat):Nat:=a&&&(2^64-1-b)
theorem qo6 (a b:Nat):anN a b≤a:=Nat.and_le_left
theorem qe6 {a b:Nat} (ha:a<2^64) (hb:b<2^64):qd6 .u64 (a:Int) (b:Int)=((anN a b:Nat):Int):=by
 have hab:=qo6 a b
 unfold qd6
 rw [show IntKind.bits IntKind.u64=64 from rfl,jP,jP,BitVec.toNat_and,BitVec.toNat_not,BitVec.toNat_ofNat,BitVec.toNat_ofNat,Nat.mod_eq_of_lt ha,Nat.mod_eq_of_lt hb]
 exact qaC (Int.natCast_nonneg _) (by unfold anN at hab;omega)
def qnV (n:Nat):Nat:=(zA n.testBit 64).length
theorem qy5 (n:Nat) (h:List AObj) (hn:n<256):ACalls Tryz.prog 199 [.int .u64 (n:Int)] h (.int .i64 (qnV n)) h:=by
 refine acO quG ?_
 simp (disch:=omega) only [qto,List.replicate,go_sem]
 repeat' first
  |((first|apply qd|apply qb);exact rvk;simp only [go_sem];first|exact VLe.refl _|apply qe|apply qa|apply qf|skip)
  |with_reducible first|apply And.intro|intro _
 all_goals try exact clz
 clear h
 revert n
 decide+kernel
def qlZ (names:List Str) (gs:List Gr) (set:List Int):Int:=if sgE names gs=0 then qgM names.length set else 1
theorem qz4 (names:List Str) (gs:List Gr) (set:List Int) (h:List AObj) (hz:Szs names gs) (hs:set.length≤1000000000):ACalls Tryz.prog 196 [strs names,zj gs,qp set] h (.int .i64 (qlZ names gs set)) h:=by
 have c59:=fun h=>sgP names gs h hz
 have c92:=fun h=>qy6 set names.length h hs
 have zl: ∀g,valL g .len [strs names]= .int .i64 names.length:=fun _=>rfl
 have zo: ∀g,okL g .len [strs names]=True:=fun _=>eq_true trivial
 unfold qlZ
 by_cases g:sgE names gs=0
 ·rw [if_pos g]
  simp only [g]at c59
  refine acO qpq ?_
  simp (disch:=omega) only [qqg,List.replicate,zl,zo,go_sem]
  repeat' first
   |((first|refine cA (c59 _) ?_ ?_|refine cG (fun e=>c59 _) ?_ ?_|refine cA (c92 _) ?_ ?_|refine cG (fun e=>c92 _) ?_ ?_|refine cU (fun _=>c59 _) ?_ ?_|refine cU (fun _=>c92 _) ?_ ?_);(next=>exact flk);simp (disch:=omega) only [zl,zo,go_sem])
   |((first|apply qd|apply qb);exact rvk;simp only [go_sem];first|exact VLe.refl _|apply qe|apply qa|apply qf|skip)
   |with_reducible first|apply And.intro|intro _
  all_goals try exact clz
 ·rw [if_neg g]
  have k:(sgE names gs=0)=False:=eq_false g
  refine acO qpq ?_
  simp (disch:=omega) only [qqg,List.replicate,zl,zo,k,go_sem]
  repeat' first
   |((first|refine cA (c59 _) ?_ ?_|refine cG (fun e=>c59 _) ?_ ?_|refine cA (c92 _) ?_ ?_|refine cG (fun e=>c92 _) ?_ ?_|refine cU (fun _=>c59 _) ?_ ?_|refine cU (fun _=>c92 _) ?_ ?_);(next=>exact flk);simp (disch:=omega) only [zl,zo,k,go_sem])
   |((first|apply qd|apply qb);exact rvk;simp only [go_sem];first|exact VLe.refl _|apply qe|apply qa|apply qf|skip)
   |with_reducible first|apply And.intro|intro _
  all_goals try exact clz
theorem qrf {names:List Str} {gs:List Gr} (h:sgE names gs=0) (i:Nat):inB 64 (gs.getD i default).mem:=by
 have h:=qfC h
 by_cases hi:i<gs.length
 ·intro j hj
  have:=(qeE (qjx h hi)).1 j hj
  have:=h.n32
  omega
 ·rw [gdqA,List.getElem?_eq_none (by omega)]
  intro j hj
  exact absurd hj (by simp [show (default:Gr).mem= []from rfl])
def qo3 (gs:List Gr) (all:Nat) (i:Nat):Bool:=decide (anN (qci (gs.getD i default).mem) all=0)
def qd5 (gs:List Gr) (all:Nat):List Int:=zA (qo3 gs all) gs.length
theorem qAh (gs:List Gr) (all:Nat) (h:List AObj) (hg:gs.length≤1000000) (hm: ∀i,inB 64 (gs.getD i default).mem) (hl: ∀i,(gs.getD i default).mem.length≤1000000000) (ha:all<2^64):ACalls Tryz.prog 197 [zj gs,.int .u64 (all:Int)] h (qp (qd5 gs all)) h:=by
 unfold qd5
 have zl: ∀g,valL g .len [zj gs]= .int .i64 gs.length:=fun _=>rfl
 have zo: ∀g,okL g .len [zj gs]=True:=fun _=>eq_true trivial
 refine acO quE ?_
 simp (disch:=omega) only [qtm,List.replicate,zl,zo,go_sem]
 repeat' first
  |((first|apply qd|apply qb);exact rvk;simp only [go_sem];first|exact VLe.refl _|apply qe|apply qa|apply qf|skip)
  |with_reducible first|apply And.intro|intro _
 all_goals try exact clz
 refine qv (T:=fun i:Nat×Nat×AObj×AObj=>qQ 27 [(1,.int .u64 (all:Int)),(5,.osl (h.length+1) i.2.1 1 0 (zA (qo3 gs all) i.1).length),(8,zj gs),(9,.int .i64 gs.length),(10,.int .i64 i.1)])
  (H:=fun i=>h++ [.emp 1,zC i.2.1 3 (qC (zA (qo3 gs all) i.1)),i.2.2.1,i.2.2.2,.emp 0])
  (inv:=fun i=>i.1≤gs.length∧qE [i.2.2.1] 0=true∧qE [i.2.2.2] 0=true) (m:=fun i=>gs.length-i.1) (0,1,.emp 0,.emp 0) ⟨Nat.zero_le _,rfl,rfl⟩ (Wk.temps ?_) ?_
 ·(simp only [zA,List.range_zero,List.filter_nil,List.length_nil,List.replicate,go_sem,qk,qi,qg,qj];try (repeat' first|(with_reducible apply And.intro)|(apply qe;omega)|(apply qa;rfl)|exact VLe.refl _))
 rintro ⟨i,v,O2,O3⟩ ⟨i1,i2,i3⟩ K hK
 simp only at i1 i2 i3 hK
 have i2': ∀m,qE (O2::m) 0=true:=fun _=>i2
 have i3': ∀m,qE (O3::m) 0=true:=fun _=>i3
 have hst:=zY (qo3 gs all) i
 have hln:=jA (qo3 gs all) i
 obtain ⟨L,hL⟩: ∃L,L=zA (qo3 gs all) i:=⟨_,rfl⟩
 rw [←hL]at hst hln
 have eL:=hL.symm
 have eC:=zf L
 by_cases hi:i<gs.length
 ·have k1:((i:Int)<gs.length)=True:=eq_true (by omega)
  have c96:=fun h=>qx4 (gs.getD i default).mem h (hl i) (hm i)
  have hlt:=qfn (hm i)
  have hB:qo3 gs all i=decide (anN (qci (gs.getD i default).mem) all=0):=rfl
  obtain ⟨gr,hgr⟩: ∃gr,gr=gs.getD i default:=⟨_,rfl⟩
  have egr:=hgr.symm
  simp only [egr]at c96 hB
  rw [egr]at hlt
  have hd:=qe6 hlt ha
  obtain ⟨q,hq⟩: ∃q,q=anN (qci gr.mem) all:=⟨_,rfl⟩
  rw [←hq]at hd hB
  have eTk:List.take L.length (qC L)=qC L:=List.take_of_length_le (by omega)
  by_cases g0:q=0
  ·have k2:((q:Int)=0)=True:=eq_true (by omega)
   rw [if_pos (by rw [hB];exact decide_eq_true g0)]at hst
   simp (disch:=omega) only [List.replicate,zj,grC,k1,i2',i3',eL,egr,Nat.mul_one,go_sem]
   repeat' first
    |((first|refine cA (c96 _) ?_ ?_|refine cG (fun e=>c96 _) ?_ ?_|refine cU (fun _=>c96 _) ?_ ?_);(next=>exact flk);simp (disch:=omega) only [zj,grC,k1,k2,i2',i3',eL,egr,hd,eC,eTk,Nat.mul_one,go_sem])
    |((first|apply qd|apply qb);exact rvk;simp only [go_sem];first|exact VLe.refl _|apply qe|apply qa|apply qf|skip)
    |with_reducible first|apply And.intro|intro _
   all_goals try exact clz
   have eA:qC L++ [AV.int .i64 (i:Int)]=qC (zA (qo3 gs all) (i+1)):=by rw [hst,zX];rfl
   rw [eA]
   refine hK _ _ (i+1,v+1,.mem (qr (some O2)+1) 167 (grC gr),.mem (qr (some O3)+1) 3 [.int .i64 (i:Int)]) ⟨hi,rfl,rfl⟩ (by simp only;omega) ?_
   simp only [hst,List.length_append,List.length_cons,List.length_nil]
   refine Wk.temps ?_
   (simp only [List.replicate,go_sem,qk,qi,qg,qj];try (repeat' first|(with_reducible apply And.intro)|(apply qe;omega)|(apply qa;rfl)|exact VLe.refl _))
  ·have k2:((q:Int)=0)=False:=eq_false (by omega)
   rw [if_neg (by rw [hB];simpa using g0),List.append_nil]at hst
   simp (disch:=omega) only [List.replicate,zj,grC,k1,i2',eL,egr,go_sem]
   repeat' first
    |((first|refine cA (c96 _) ?_ ?_|refine cG (fun e=>c96 _) ?_ ?_|refine cU (fun _=>c96 _) ?_ ?_);(next=>exact flk);simp (disch:=omega) only [zj,grC,k1,k2,i2',eL,egr,hd,go_sem])
    |((first|apply qd|apply qb);exact rvk;simp only [go_sem];first|exact VLe.refl _|apply qe|apply qa|apply qf|skip)
    |with_reducible first|apply And.intro|intro _
   all_goals try exact clz
   refine hK _ _ (i+1,v,.mem (qr (some O2)+1) 167 (grC gr),O3) ⟨hi,rfl,i3⟩ (by simp only;omega) ?_
   simp only [hst]
   refine Wk.temps ?_
   (simp only [List.replicate,go_sem,qk,qi,qg,qj];try (repeat' first|(with_reducible apply And.intro)|(apply qe;omega)|(apply qa;rfl)|exact VLe.refl _))
 ·obtain rfl:i=gs.length:=by omega
  have k1:((gs.length:Int)<gs.length)=False:=eq_false (by omega)
  rw [eL]
  simp (disch:=omega) only [List.replicate,k1,eL,go_sem]
  repeat' first
   |((first|apply qd|apply qb);exact rvk;simp only [go_sem];first|exact VLe.refl _|apply qe|apply qa|apply qf|skip)
   |with_reducible first|apply And.intro|intro _
  all_goals try exact clz
  exact qbu (fun _=>rfl) rfl
def qpd (a b:List Int):Int:=qaI (fun i=>qpc (a.getD i 0) (b.getD i 0)) 0 a.length
theorem qzx (a b:List Int) (h:List AObj) (hl:a.length=b.length) (ha:a.length≤1000000000):ACalls Tryz.prog 66 [qp a,qp b] h (.int .i64 (qpd a b)) h:=by
 obtain ⟨R,hR⟩: ∃R,R=qpd a b:=⟨_,rfl⟩
 rw [←hR]
 unfold qpd at hR
 have z1: ∀g,valL g .len [qp a]= .int .i64 a.length:=fun _=>rfl
 have z2: ∀g,okL g .len [qp a]=True:=fun _=>eq_true trivial
 have z3: ∀g,valL g .len [qp b]= .int .i64 a.length:=fun _=>by rw [hl];rfl
 have z4: ∀g,okL g .len [qp b]=True:=fun _=>eq_true trivial
 refine acO qxP ?_
 simp (disch:=omega) only [qyT,List.replicate,z1,z2,go_sem]
 repeat' first
  |((first|apply qd|apply qb);exact rvk;simp only [go_sem];first|exact VLe.refl _|apply qe|apply qa|apply qf|skip)
  |with_reducible first|apply And.intro|intro _
 all_goals try exact clz
 refine qv (T:=fun i:Nat=>qQ 36 [(0,qp a),(1,qp b),(9,qp a),(10,.int .i64 a.length),(11,.int .i64 i)]) (H:=fun _=>h) (inv:=fun i=>i≤a.length∧ ∀j,j<i→(fun i=>qpc (a.getD i 0) (b.getD i 0)) j=0) (m:=fun i=>a.length-i) 0 ⟨Nat.zero_le _,fun j hj=>by omega⟩ (Wk.temps ?_) ?_
 ·(simp only [List.replicate,go_sem,qk,qi,qg,qj];try (repeat' first|(with_reducible apply And.intro)|(apply qe;omega)|(apply qa;rfl)|exact VLe.refl _))
 rintro i ⟨i1,i2⟩ K hK
 by_cases hi:i<a.length
 ·have k1:((i:Int)<a.length)=True:=eq_true (by omega)
  have k2:((a.length:Int)≤i)=False:=eq_false (by omega)
  have k3:((i:Int)<b.length)=True:=eq_true (by omega)
  have hE:=je (f:=fun i=>qpc (a.getD i 0) (b.getD i 0)) hi i2
  have c122:=fun h=>qzy (a.getD i 0) (b.getD i 0) h
  have k4:((b.length:Int)≤i)=False:=eq_false (by omega)
  by_cases g:qpc (a.getD i 0) (b.getD i 0)=0
  ·simp only [g]at c122
   simp (disch:=omega) only [List.replicate,qp,k1,k2,k3,k4,go_sem]
   repeat' first
    |((first|refine cA (c122 _) ?_ ?_|refine cG (fun e=>c122 _) ?_ ?_|refine cU (fun _=>c122 _) ?_ ?_);(next=>exact flk);simp (disch:=omega) only [qp,k1,k2,k3,k4,go_sem])
    |((first|apply qd|apply qb);exact rvk;simp only [go_sem];first|exact VLe.refl _|apply qe|apply qa|apply qf|skip)
    |with_reducible first|apply And.intro|intro _
   all_goals try exact clz
   refine hK _ _ (i+1) ⟨hi,fun j hj=> ?_⟩ (by omega) (Wk.temps ?_)
   ·by_cases e:j=i
    ·subst e;exact g
    ·exact i2 j (by omega)
   ·(simp only [List.replicate,qp,go_sem,qk,qi,qg,qj];try (repeat' first|(with_reducible apply And.intro)|(apply qe;omega)|(apply qa;rfl)|exact VLe.refl _))
  ·have k5:(qpc (a.getD i 0) (b.getD i 0)=0)=False:=eq_false g
   rw [hR,hE g]
   simp (disch:=omega) only [List.replicate,qp,k1,k2,k3,k4,go_sem]
   repeat' first
    |((first|refine cA (c122 _) ?_ ?_|refine cG (fun e=>c122 _) ?_ ?_|refine cU (fun _=>c122 _) ?_ ?_);(next=>exact flk);simp (disch:=omega) only [qp,k1,k2,k3,k4,k5,go_sem])
    |((first|apply qd|apply qb);exact rvk;simp only [go_sem];first|exact VLe.refl _|apply qe|apply qa|apply qf|skip)
    |with_reducible first|apply And.intro|intro _
   all_goals try exact clz
 ·have k1:((i:Int)<a.length)=False:=eq_false (by omega)
  have hz:=zk (f:=fun i=>qpc (a.getD i 0) (b.getD i 0)) (n:=a.length) (fun j hj=>i2 j (by omega))
  rw [hR,hz]
  have k2:((a.length:Int)<a.length)=False:=eq_false (by omega)
  simp (disch:=omega) only [List.replicate,z1,z2,z3,z4,k1,go_sem]
  repeat' first
   |((first|apply qd|apply qb);exact rvk;simp only [go_sem];first|exact VLe.refl _|apply qe|apply qa|apply qf|skip)
   |with_reducible first|apply And.intro|intro _
  all_goals try exact clz
end RC
end
section
open Go Go.Proofs AF HY LN
namespace RC
set_option maxHeartbeats 8000000
def jv (ms:List Nat):AV:= .sl ms.length fun i=> [.int .u64 ((ms.getD i 0:Nat):Int)]
theorem qgi (L:List Nat):(jv L).flag=true:=rfl
theorem qeT (L:List Nat):(jv L).strip=jv L:=rfl
theorem qeI (L:List Nat):(jv L).solid=true:=rfl
theorem qeh (L:List Nat):(jv L).cells= [jv L]:=rfl
attribute [go_sem] qgi qeT qeI qeh
def qjL (ms:List Nat) (c:Nat):Nat→Nat
 |0=>0
 |i+1=>if c.testBit i=true then qjL ms c i|||ms.getD i 0 else qjL ms c i
theorem qjN (ms:List Nat) (c i:Nat):qjL ms c (i+1)=if c.testBit i=true then qjL ms c i|||ms.getD i 0 else qjL ms c i:=rfl
def chN (ms:List Nat) (c:Nat):Nat:=qjL ms c ms.length
theorem qjM {ms:List Nat} (hm: ∀i,ms.getD i 0<2^64) (c:Nat): ∀i,qjL ms c i<2^64:=by
 intro i
 induction i with
 |zero=>show (0:Nat)<2^64;decide
 |succ i ih=>
  unfold qjL
  split
  ·exact Nat.or_lt_two_pow ih (hm i)
  ·exact ih
theorem qt2 {ms:List Nat} (hm: ∀i,ms.getD i 0<2^64) (c:Nat):chN ms c<2^64:=qjM hm c _
def qlV (ms:List Nat):List (List AV):=(List.range (2^ms.length)).map fun c=> [.int .u64 ((c:Nat):Int),.int .u64 ((chN ms c:Nat):Int)]
theorem qcy (ms:List Nat):(qlV ms).length=2^ms.length:=by simp [qlV]
theorem qe8 {ms:List Nat} {i:Nat} (hi:i<(qlV ms).length):(qlV ms)[i]= [.int .u64 ((i:Nat):Int),.int .u64 ((chN ms i:Nat):Int)]:=by
 simp [qlV]
theorem qmA (ms:List Nat): ∀a∈qlV ms,a.length=2:=by
 intro a ha
 unfold qlV at ha
 obtain ⟨_,_,rfl⟩:=List.mem_map.1 ha
 rfl
theorem qzv (ms:List Nat) (h:List AObj):ACalls Tryz.prog 198 [jv ms] h (.fn (.func 245) [] [.ip [jv ms]]) h:=by
 refine acO quF ?_
 simp (disch:=omega) only [qtn,List.replicate,go_sem]
 repeat' first
  |((first|apply qd|apply qb);exact rvk;simp only [go_sem];first|exact VLe.refl _|apply qe|apply qa|apply qf|skip)
  |with_reducible first|apply And.intro|intro _
 all_goals try exact clz
set_option maxHeartbeats 16000000 in
theorem itC (ms:List Nat) (hl:ms.length≤16) (hm: ∀i,ms.getD i 0<2^64):qsM Tryz.prog 245 [.ip [jv ms]] (qlV ms):=by
 intro h ts LI S E hS hE body start hts
 have zl: ∀g,valL g .len [jv ms]= .int .i64 ms.length:=fun _=>rfl
 have zo: ∀g,okL g .len [jv ms]=True:=fun _=>eq_true trivial
 have hsh:=qkP (n:=ms.length) (by omega)
 have hp:2^ms.length≤2^16:=Nat.pow_le_pow_right (by omega) hl
 have hxl:=qcy ms
 obtain ⟨N,hN⟩: ∃N,N=2^ms.length:=⟨_,rfl⟩
 rw [←hN]at hsh hp hxl
 refine acQ quS ?_
 simp (disch:=omega) only [qtz,List.replicate,zl,zo,hsh,go_sem]
 repeat' first
  |((first|apply qd|apply qb);exact rvk;simp only [go_sem];first|exact VLe.refl _|apply qe|apply qa|apply qf|skip)
  |with_reducible first|apply And.intro|intro _
 all_goals try exact clz
 refine qv (T:=fun i:Nat×List AObj=>qQ 35 [(0,.yld h.length),(1,.ip [jv ms]),(9,.int .u64 ((N:Nat):Int)),(10,.int .u64 ((i.1:Nat):Int))])
  (H:=fun i=>i.2++ [.lp .ready ts LI])
  (inv:=fun i=>i.1≤N∧S i.1 i.2) (m:=fun i=>N-i.1) (0,h) ⟨Nat.zero_le _,start⟩ (Wk.temps ?_) ?_
 ·(simp only [List.replicate,go_sem,qk,qi,qg,qj];try (repeat' first|(with_reducible apply And.intro)|(apply qe;omega)|(apply qa;rfl)|exact VLe.refl _))
 rintro ⟨i,hh⟩ ⟨i1,i2⟩ K hK
 simp only at i1 i2 hK
 obtain ⟨hlen,hlow⟩:=hS _ _ i2
 have hb:(h++ [AObj.lp LS.ready ts LI]).length=(hh++ [AObj.lp LS.ready ts LI]).length:=by simp [hlen]
 rw [hb]
 by_cases hi:i<N
 ·have q0:((i:Int)<N)=True:=eq_true (by omega)
  have hix:i<(qlV ms).length:=by omega
  have hb':=body i hh [] hix i2
  rw [qe8 hix]at hb'
  simp (disch:=omega) only [List.replicate,q0,zl,zo,go_sem]
  repeat' first
   |((first|apply qd|apply qb);exact rvk;simp only [go_sem];first|exact VLe.refl _|apply qe|apply qa|apply qf|skip)
   |with_reducible first|apply And.intro|intro _
  all_goals try exact clz
  have hclt:i<2^64:=by omega
  have hml:=qjM hm i
  refine qv (T:=fun j:Nat=>qQ 35 [(0,.yld (hh++ [AObj.lp LS.ready ts LI]).length.pred),(1,.ip [jv ms]),(3,.int .u64 ((i:Nat):Int)),(4,.int .u64 ((qjL ms i j:Nat):Int)),(9,.int .u64 ((N:Nat):Int)),(10,.int .u64 ((i:Nat):Int)),(13,jv ms),(14,.int .i64 ms.length),(15,.int .i64 j)])
   (H:=fun _=>hh++ [.lp .ready ts LI]) (inv:=fun j=>j≤ms.length) (m:=fun j=>ms.length-j) 0 (Nat.zero_le _) (Wk.temps ?_) ?_
  ·have e2:(hh++ [AObj.lp LS.ready ts LI]).length.pred=h.length:=by simp [hlen]
   rw [e2]
   (simp only [List.replicate,qjL,go_sem,qk,qi,qg,qj];try (repeat' first|(with_reducible apply And.intro)|(apply qe;omega)|(apply qa;rfl)|exact VLe.refl _))
  have e2:(hh++ [AObj.lp LS.ready ts LI]).length.pred=h.length:=by simp [hlen]
  rw [e2]
  rintro j j1 K2 hK2
  by_cases hj:j<ms.length
  ·have q1:((j:Int)<ms.length)=True:=eq_true (by omega)
   have e1:=qim (a:=i) (n:=j) hclt (by omega)
   have eo:=qpM (hml j) (hm j)
   have hs:=qjN ms i j
   have q2:(0≤(j:Int))=True:=eq_true (by omega)
   cases g:i.testBit j with
   |true=>
    rw [g,if_pos rfl]at e1
    rw [g,if_pos rfl]at hs
    simp (disch:=omega) only [List.replicate,jv,q1,q2,e1,go_sem]
    repeat' first
     |((first|apply qd|apply qb);exact rvk;simp only [go_sem];first|exact VLe.refl _|apply qe|apply qa|apply qf|skip)
     |with_reducible first|apply And.intro|intro _
    all_goals try exact clz
    refine hK2 _ _ (j+1) hj (by omega) ?_
    simp only [hs]
    refine Wk.temps ?_
    (simp only [List.replicate,jv,go_sem,qk,qi,qg,qj];try (repeat' first|(with_reducible apply And.intro)|(apply qe;omega)|(apply qa;rfl)|exact VLe.refl _))
   |false=>
    rw [g,if_neg (by simp)]at e1
    rw [g,if_neg (by simp)]at hs
    simp (disch:=omega) only [List.replicate,jv,q1,q2,e1,go_sem]
    repeat' first
     |((first|apply qd|apply qb);exact rvk;simp only [go_sem];first|exact VLe.refl _|apply qe|apply qa|apply qf|skip)
     |with_reducible first|apply And.intro|intro _
    all_goals try exact clz
    refine hK2 _ _ (j+1) hj (by omega) ?_
    simp only [hs]
    refine Wk.temps ?_
    (simp only [List.replicate,jv,go_sem,qk,qi,qg,qj];try (repeat' first|(with_reducible apply And.intro)|(apply qe;omega)|(apply qa;rfl)|exact VLe.refl _))
  ·obtain rfl:j=ms.length:=by omega
   have q1:((ms.length:Int)<ms.length)=False:=eq_false (by omega)
   have hch:qjL ms i ms.length=chN ms i:=rfl
   rw [hch]
   simp (disch:=omega) only [List.replicate,q1,go_sem]
   repeat' first
    |((first|apply qd|apply qb);exact rvk;simp only [go_sem];first|exact VLe.refl _|apply qe|apply qa|apply qf|skip)
    |with_reducible first|apply And.intro|intro _
   all_goals try exact clz
   ·exact ⟨.ready,ts,LI,jN hlen⟩
   ·refine jJ.mono ?_ hb'
    rintro v h' ⟨hh',⟨rfl,hn,rfl⟩|⟨st,rfl,hs',rfl⟩⟩
    ·simp (disch:=omega) only [go_sem]
     repeat' first
      |((first|apply qd|apply qb);exact rvk;simp only [go_sem];first|exact VLe.refl _|apply qe|apply qa|apply qf|skip)
      |with_reducible first|apply And.intro|intro _
     all_goals try exact clz
     refine hK _ _ (i+1,hh') ⟨hi,hn⟩ (by simp only;omega) (Wk.temps ?_)
     (simp only [List.replicate,go_sem,qk,qi,qg,qj];try (repeat' first|(with_reducible apply And.intro)|(apply qe;omega)|(apply qa;rfl)|exact VLe.refl _))
     rw [qaC (by omega) (by omega)]
     exact qe (by omega)
    ·simp (disch:=omega) only [go_sem]
     obtain ⟨r1,r2⟩:=(hE _ _ hs').ret (L:=LI) st hts
     exact jM trivial r1 r2 ⟨_,.inr ⟨st,hs',rfl⟩⟩ (VLe.refl _)
 ·have e:i=N:=by omega
  subst e
  have q0:((i:Int)<i)=False:=eq_false (by omega)
  simp (disch:=omega) only [List.replicate,q0,go_sem]
  repeat' first
   |((first|apply qd|apply qb);exact rvk;simp only [go_sem];first|exact VLe.refl _|apply qe|apply qa|apply qf|skip)
   |with_reducible first|apply And.intro|intro _
  all_goals try exact clz
  obtain ⟨r1,r2⟩:=(hS _ _ i2).ret (L:=LI) .ready hts
  exact jM trivial r1 r2 ⟨hh,.inl ⟨by rw [hxl];exact i2,rfl⟩⟩ (VLe.refl _)
end RC
end
section
open Go Go.Proofs AF HY LN
namespace RC
set_option maxHeartbeats 8000000
def usM (gs:List Gr) (L:List Int):List Nat:=L.map fun i=>qci (gs.getD i.toNat default).mem
theorem qlq (gs:List Gr) (L:List Int):(usM gs L).length=L.length:=by simp [usM]
theorem qlp {gs:List Gr} {L:List Int} {i:Nat} (hi:i<L.length):(usM gs L).getD i 0=qci (gs.getD (L.getD i 0).toNat default).mem:=by
 unfold usM
 rw [gdqA,List.getElem?_map,zM hi,gdqA (l:=L),zM hi]
 rfl
theorem qwl {gs:List Gr} (hm: ∀i,inB 64 (gs.getD i default).mem) (L:List Int) (i:Nat):(usM gs L).getD i 0<2^64:=by
 by_cases hi:i<L.length
 ·rw [qlp hi];exact qfn (hm _)
 ·rw [gdqA,List.getElem?_eq_none (by rw [qlq];omega)]
  show (0:Nat)<2^64
  decide
def kN (gs:List Gr) (all:Nat) (L:List Int) (c:Nat):List Int:=
 (zA c.testBit 64).map (fun k=>L.getD k.toNat 0)++(zA (anN all (chN (usM gs L) c)).testBit 64).map (fun s=>(gs.length:Int)+s)
theorem qfq (gs:List Gr) (all:Nat) (L:List Int) (c:Nat):(kN gs all L c).length=qnV c+qnV (anN all (chN (usM gs L) c)):=by
 unfold kN qnV
 rw [List.length_append,List.length_map,List.length_map]
def qsO (a b:List Int):Bool:=decide (a.length<b.length)||decide (a.length=b.length)&&decide (qpd a b<0)
def bst (gs:List Gr) (all:Nat) (L:List Int):Nat→List Int
 |0=>kN gs all L 0
 |c+1=>if qsO (kN gs all L (c+1)) (bst gs all L c)=true then kN gs all L (c+1) else bst gs all L c
theorem qs8 (gs:List Gr) (all:Nat) (L:List Int): ∀c,∃k,k≤c∧bst gs all L c=kN gs all L k:=by
 intro c
 induction c with
 |zero=>exact ⟨0,Nat.le_refl _,rfl⟩
 |succ c ih=>
  obtain ⟨k,h1,h2⟩:=ih
  unfold bst
  split
  ·exact ⟨c+1,Nat.le_refl _,rfl⟩
  ·exact ⟨k,by omega,h2⟩
def qyO (gs:List Gr) (all:Nat):List Int:=bst gs all (qd5 gs all) (2^(qd5 gs all).length-1)
def qc6 (names:List Str) (gs:List Gr) (p:Int):Str:=if p<gs.length then (gs.getD p.toNat default).name else names.getD (p-gs.length).toNat []
def shR (names:List Str) (gs:List Gr) (set:List Int):List Str:=if qlZ names gs set=0 then (qyO gs (qci set)).map (qc6 names gs) else []
theorem qex {c n k:Nat} (hc:c<2^n) (hk:c.testBit k=true):k<n:=by
 by_cases h:k<n
 ·exact h
 ·rw [Nat.testBit_lt_two_pow (Nat.lt_of_lt_of_le hc (Nat.pow_le_pow_right (by omega) (by omega)))]at hk
  cases hk
theorem qat {p:Nat→Bool} {n:Nat} {x:Int} (h:x∈zA p n): ∃k:Nat,x=(k:Int)∧k<n∧p k=true:=by
 unfold zA at h
 obtain ⟨k,h1,rfl⟩:=List.mem_map.1 h
 obtain ⟨h2,h3⟩:=List.mem_filter.1 h1
 exact ⟨k,rfl,List.mem_range.1 h2,h3⟩
theorem qjP {set:List Int} {n:Nat} (hn:n≤64) (h:inB n set):qci set<2^n:=by
 have h64:inB 64 set:=fun i hi=>by have:=h i hi;omega
 refine Nat.lt_pow_two_of_testBit _ fun i hi=> ?_
 rw [qjQ h64]
 refine decide_eq_false fun hm=> ?_
 have:=qau h _ hm
 omega
theorem qo7 {a b n:Nat} (h:a<2^n):anN a b<2^n:=Nat.lt_of_le_of_lt (qo6 a b) h
theorem qlT {gs:List Gr} {all:Nat} {x:Int} (h:x∈qd5 gs all): ∃k:Nat,x=(k:Int)∧k<gs.length:=by
 obtain ⟨k,h1,h2,_⟩:=qat h
 exact ⟨k,h1,h2⟩
theorem qvS {names:List Str} {gs:List Gr} {set:List Int} {all:Nat} (hs:inB names.length set) (hn:names.length≤64) (ha:all=qci set) {c:Nat} (hc:c<2^(qd5 gs all).length) {p:Int} (hp:p∈kN gs all (qd5 gs all) c):0≤p∧p<gs.length+names.length:=by
 unfold kN at hp
 rcases List.mem_append.1 hp with hp|hp
 ·obtain ⟨k,h1,rfl⟩:=List.mem_map.1 hp
  obtain ⟨k',rfl,h2,h3⟩:=qat h1
  have hk:=qex hc h3
  have hm:(qd5 gs all).getD k' 0∈qd5 gs all:=by
   rw [gdqA,zM hk];exact List.getElem_mem hk
  obtain ⟨g,e,hg⟩:=qlT hm
  rw [Int.toNat_natCast,e]
  omega
 ·obtain ⟨k,h1,rfl⟩:=List.mem_map.1 hp
  obtain ⟨k',rfl,h2,h3⟩:=qat h1
  have:=qex (qo7 (b:=chN (usM gs (qd5 gs all)) c) (by rw [ha];exact qjP hn hs)) h3
  omega
end RC
end
section
open Go Go.Proofs AF
def qvD:List Nat:= [132,109,174,220,68]
def qqd:C:=
 ((C.ops [O1 4 (.box 0 44) 1,ON 6 (.nilo 1 1 9) [],MC 7 (i6 0)]).seq (((C.ops [MV 27 0,LD 28 4,MV 29 2,ON 30 (.call 196 true) [.t 27,.t 28,.t 29],MV 8 30]).seq ((C.ops [MV
 31 8,BC 32 .neq 31 (i6 0)]).seq (C.cond (.t 32) ((C.ops [MV 33 8,ON 6 (.nilo 1 1 9) [],MV 7 33]).seq C.ret) C.skip))).seq ((C.ops [MV 34 2,O1 35 (.call 125 true) 34,⟨some 9,
 none,.alloc 2 164 [.int .u64 0],[]⟩,ST 1 9 35]).seq ((C.ops [LD 36 4,LD 37 9,O2 38 (.call 197 true) 36 37,⟨some 10,none,.alloc 3 62 [.nl],[]⟩,ST 1 10 38]).seq ((C.ops [ON
 11 (.nilo 4 1 164) []]).seq (((C.ops [LD 39 10,O1 40 .len 39,MC 41 (i6 0)]).seq (C.block 0 ((C.ops [BI 42 .lss 41 40]).seq ((C.cond (.t 42) C.skip (C.exit 0)).seq ((C.block 1
 ((C.ops [O2 43 (.idxA 1) 39 41,LD 44 43,MV 13 44]).seq (C.ops [MV 45 11,LD 46 4,MV 47 13,O2 48 (.idxA 2) 46 47,O1 49 (.fldA 1) 48,LD 50 49,O1 51 (.call 125 true) 50,⟨some
 52,none,.bslc 5 1 1 164 [.int .u64 0] [(0,1)],[.t 51]⟩,O2 53 (.app 6 1 164 8) 45 52,MV 11 53]))).seq (C.ops [BC 54 .add 41 (i6 1),MV 41 54])))).loop)).seq ((C.ops [⟨some 14,
 none,.alloc 7 62 [.nl],[]⟩]).seq ((C.ops [⟨some 15,none,.alloc 8 4 [.bool false],[]⟩,⟨none,none,.store 1,[.t 15,.c (.bool false)]⟩]).seq (((C.wk.seq (C.ops [MV 55 11,O1
 56 (.call 198 true) 55])).seq (C.block 2 (C.range (.t 56) [57,58] ((C.ops [MV 16 57]).seq (C.ops [MV 17 58])) (C.block 3 ((C.wk.seq (C.ops [MV 59 16,O1 60 (.call 199 true) 59,LD
 61 9,MV 62 17,BI 63 .andNot 61 62,O1 64 (.call 199 true) 63,BI 65 .add 60 64,MV 18 65])).seq (((C.ops [LD 66 15,MV 67 66,MG 68 67 true 18,P1 69 67 true (.load none) 14,P1
 70 67 true .len 69,P2 71 67 true (.bin .gtr) 68 70,PF 72 67 71]).seq (C.cond (.t 72) (C.exit 3) C.skip)).seq ((C.ops [ON 19 (.nilo 9 1 3) []]).seq (((C.ops [MV 73 16,O1 74
 (.call 126 true) 73,O1 75 .len 74,MC 76 (i6 0)]).seq (C.block 4 ((C.ops [BI 77 .lss 76 75]).seq ((C.cond (.t 77) C.skip (C.exit 4)).seq ((C.block 5 ((C.ops [O2 78 (.idxA 1) 74
 76,LD 79 78,MV 21 79]).seq (C.ops [MV 80 19,LD 81 10,MV 82 21,O2 83 (.idxA 1) 81 82,LD 84 83,⟨some 85,none,.bslc 10 1 1 3 [i6 0] [(0,1)],[.t 84]⟩,O2 86 (.app 11 1 3 8)
 80 85,MV 19 86]))).seq (C.ops [BC 87 .add 76 (i6 1),MV 76 87])))).loop)).seq (((C.ops [LD 88 9,MV 89 17,BI 90 .andNot 88 89,O1 91 (.call 126 true) 90,O1 92 .len 91,MC 93 (i6
 0)]).seq (C.block 6 ((C.ops [BI 94 .lss 93 92]).seq ((C.cond (.t 94) C.skip (C.exit 6)).seq ((C.block 7 ((C.ops [O2 95 (.idxA 1) 91 93,LD 96 95,MV 23 96]).seq (C.ops [MV 97 19,
 LD 98 4,O1 99 .len 98,MV 100 23,BI 101 .add 99 100,⟨some 102,none,.bslc 12 1 1 3 [i6 0] [(0,1)],[.t 101]⟩,O2 103 (.app 13 1 3 8) 97 102,MV 19 103]))).seq (C.ops [BC 104
 .add 93 (i6 1),MV 93 104])))).loop)).seq ((C.ops [LD 105 15,O1 106 (.un UnOp.not) 105,MV 107 106,MG 108 107 false 19,P1 109 107 false .len 108,P1 110 107 false (.load none)
 14,P1 111 107 false .len 110,P2 112 107 false (.bin .lss) 109 111,PT 113 107 112,MV 114 113,MG 115 114 false 19,P1 116 114 false (.load none) 14,P2 117 114 false (.call 66
 true) 115 116,PC 118 114 false (.bin .lss) 117 (i6 0),PT 119 114 118]).seq (C.cond (.t 119) (C.ops [MV 120 19,ST 1 14 120,⟨none,none,.store 1,[.t 15,.c (.bool true)]⟩])
 C.skip))))))))))).seq ((C.ops [ON 24 (.nilo 14 1 9) []]).seq (((C.wk.seq (C.ops [LD 121 14,O1 122 .len 121,MC 123 (i6 0)])).seq (C.block 8 ((C.ops [BI 124 .lss 123 122]).seq
 ((C.cond (.t 124) C.skip (C.exit 8)).seq ((C.block 9 ((C.ops [O2 125 (.idxA 1) 121 123,LD 126 125,MV 26 126]).seq ((C.ops [MV 127 26,LD 128 4,O1 129 .len 128,BI 130 .lss 127
 129]).seq (C.cond (.t 130) (C.ops [MV 131 24,LD 132 4,MV 133 26,O2 134 (.idxA 2) 132 133,O1 135 (.fldA 0) 134,LD 136 135,⟨some 137,none,.bslc 15 1 1 9 [.str []] [(0,1)],
 [.t 136]⟩,O2 138 (.app 16 1 9 16) 131 137,MV 24 138]) (C.ops [MV 139 24,MV 140 0,MV 141 26,LD 142 4,O1 143 .len 142,BI 144 .sub 141 143,O2 145 (.idxA 1) 140 144,LD 146
 145,⟨some 147,none,.bslc 17 1 1 9 [.str []] [(0,1)],[.t 146]⟩,O2 148 (.app 18 1 9 16) 139 147,MV 24 148]))))).seq (C.ops [BC 149 .add 123 (i6 1),MV 123 149])))).loop)).seq
 ((C.ops [MV 150 24,MV 6 150,MC 7 (i6 0)]).seq
 C.ret))))))))))))
theorem qpn:qL Tryz.prog 142 151 19 [RV.tmp 6,RV.tmp 7] qqd:=fi Tryz.f142 [4,6,9,10,11,52,53,14,15,19,85,86,102,103,24,137,138,147,148] qvD [14,17,33] (by kernel_rfl) (by kernel_rfl) (by kernel_rfl) (by kernel_rfl)
end
section
open Go Go.Proofs AF HY LN
namespace RC
set_option maxHeartbeats 16000000
def qc8 (ms:List Nat):List AV:=ms.map fun m=> .int .u64 ((m:Nat):Int)
theorem qfH (ms:List Nat):(qc8 ms).length=ms.length:=by simp [qc8]
theorem qoJ (a b:List Nat):qc8 (a++b)=qc8 a++qc8 b:=by simp [qc8]
theorem qhc {L:List Nat} {i:Nat} (hi:i<L.length):L.take (i+1)=L.take i++ [L.getD i 0]:=by
 rw [List.take_succ_eq_append_getElem hi,gdqA,zM hi];rfl
theorem jU {L:List Int} {i:Nat} (hi:i<L.length):L.take (i+1)=L.take i++ [L.getD i 0]:=by
 rw [List.take_succ_eq_append_getElem hi,gdqA,zM hi];rfl
theorem qoK {L:List Nat} {n:Nat} (g:AV→AV) (hg: ∀n,g (.int .u64 n)= .int .u64 n) (hn:n=L.length):VLe (.sl n fun i=>(((qc8 L).drop i).take 1).map g) (jv L):=by
 subst hn
 refine VLe.sl_eq rfl (fun i hi=> ?_)
 unfold qc8
 rw [←List.map_drop,List.drop_eq_getElem_cons hi,List.map_cons,List.take_succ_cons,List.take_zero,List.map_cons,List.map_nil,hg,gdqA,zM hi]
 rfl
theorem qon {v n:Nat} {L:List Nat} {g:AV→AV} (hg: ∀s,g (.int .u64 s)= .int .u64 s) (hn:n=L.length):VLe (qc7 (some (zC v 164 (qc8 L))) v 1 0 n g) (jv L):=by
 subst hn
 by_cases h:L= []
 ·subst h
  show VLe (qc7 (some (.emp v)) v 1 0 0 g) _
  rw [slOf_emp,if_pos rfl]
  exact kj
 ·have e0:zC v 164 (qc8 L)= .mem v 164 (qc8 L):=zS (by simpa [qc8] using h)
  rw [e0,slOf_mem,if_pos ⟨rfl,by rw [qfH];omega⟩]
  simp only [Nat.zero_add,Nat.mul_one]
  exact qoK g hg rfl
def shH (h:List AObj) (gs:List Gr) (all:Nat) (L:List Int) (v4:Nat) (O5:AObj) (bc:AV) (fd:Bool) (O9 O10 O12:AObj) (tl:List AObj):List AObj:=
 h++(.mem 1 44 [zj gs]:: .emp 1:: .mem 1 164 [.int .u64 ((all:Nat):Int)]:: .mem 1 62 [qp L]:: .emp v4::O5:: .emp 0:: .mem 1 62 [bc]:: .mem 1 4 [.bool fd]::O9::O10:: .emp 0::O12:: .emp 0:: .emp 0:: .emp 0:: .emp 0:: .emp 0:: .emp 0::tl)
theorem qaU (h:List AObj) (gs:List Gr) (all:Nat) (L:List Int) (v4:Nat) (O5:AObj) (bc:AV) (fd:Bool) (O9 O10 O12:AObj) (tl:List AObj):shH h gs all L v4 O5 bc fd O9 O10 O12 []++tl=shH h gs all L v4 O5 bc fd O9 O10 O12 tl:=by simp [shH]
theorem zU (h:List AObj) (gs:List Gr) (all:Nat) (L:List Int) (v4:Nat) (O5:AObj) (bc:AV) (fd:Bool) (O9 O10 O12:AObj):(shH h gs all L v4 O5 bc fd O9 O10 O12 []).length=h.length+19:=by simp [shH]
def bsC (gs:List Gr) (all:Nat) (L:List Int):Nat→AV
 |0=> .nl
 |i+1=>qp (bst gs all L i)
def bsO (h:List AObj) (gs:List Gr) (all:Nat) (L:List Int) (i:Nat) (bc:AV) (O9:AObj):Prop:=
 (bc=bsC gs all L i∧qE [O9] 0=true)∨ ∃j v,i=j+1∧bc= .osl (h.length+9) v 1 0 (bst gs all L j).length∧O9=zC v 3 (qC (bst gs all L j))
theorem shW {h:List AObj} {gs:List Gr} {all:Nat} {L:List Int} {v4 i:Nat} {O5:AObj} {bc:AV} {fd:Bool} {O9 O10 O12:AObj} {tl:List AObj} (hb:bsO h gs all L i bc O9) (hl: ∀n,kf n O9):
  ∃O9',qE [O9'] 0=true∧(∀n,kf n O9')∧ ∀TT,Wk TT (shH h gs all L v4 O5 bc fd O9 O10 O12 tl) TT (shH h gs all L v4 O5 (bsC gs all L i) fd O9' O10 O12 tl):=by
 rcases hb with ⟨rfl,h2⟩|⟨j,v,rfl,rfl,rfl⟩
 ·exact ⟨O9,h2,hl,fun TT=>Wk.refl _ _⟩
 ·refine ⟨.emp (v+1),rfl,fun _=>trivial,fun TT=> ?_⟩
  have w:=Wk.fzCell (t:=TT) (h:=shH h gs all L v4 O5 (.osl (h.length+9) v 1 0 (bst gs all L j).length) fd (zC v 3 (qC (bst gs all L j))) O10 O12 tl) (j:=h.length+7) (k:=h.length+9) (i:=0) (v:=1) (ty:=62) (cs:= [.osl (h.length+9) v 1 0 (bst gs all L j).length]) (c:= .osl (h.length+9) v 1 0 (bst gs all L j).length) (c':=qp (bst gs all L j))
   (by unfold shH;simp only [go_sem]) rfl (by unfold shH;simp only [go_sem]) (by omega) (by
    rw [qbn]
    unfold shH
    rw [getO_app]
    exact qbu (fun _=>rfl) rfl)
  unfold shH at w ⊢
  simp only [go_sem,List.set_cons_zero]at w
  exact w
theorem qjK (n:Nat) (L:List Nat):zQ n (jv L)=true:=rfl
theorem qao (L:List Int) (n:Nat): ∀c∈qC L,zQ n c=true:=by
 intro c hc
 unfold qC at hc
 obtain ⟨x,_,rfl⟩:=List.mem_map.1 hc
 rfl
theorem qzw (a b:List Int) (k v:Nat) (h:List AObj) (n:Nat) (hn:n=a.length) (hk:qy k h=some (zC v 3 (qC a))) (hl:a.length=b.length) (ha:a.length≤1000000000):ACalls Tryz.prog 66 [.osl k v 1 0 n,qp b] h (.int .i64 (qpd a b)) h:=by
 subst hn
 refine ACalls.borrow ((qzx a b [] hl ha).le ?_ (VLe.refl _)) rfl
 simp only [List.map_cons,List.map_nil,rei_osl,if_true,hk]
 exact ⟨qbu (fun _=>rfl) rfl,VLe.refl _,trivial⟩
end RC
end
section
open Go Go.Proofs AF HY LN
namespace RC
set_option maxHeartbeats 16000000
theorem qy7 (names:List Str) (gs:List Gr) (set:List Int) (h:List AObj) (hz:Szs names gs) (hs:set.length≤1000000000) (h8:qlZ names gs set=0→names.length≤8∧gs.length≤8):
  ACalls Tryz.prog 142 [strs names,zj gs,qp set] h (.tup [strs (shR names gs set),.int .i64 (qlZ names gs set)]) h:=by
 have c95:=fun h=>qz4 names gs set h hz hs
 unfold shR
 by_cases g:qlZ names gs set=0
 case neg=>
  have k0:(qlZ names gs set=0)=False:=eq_false g
  rw [if_neg g]
  refine acO qpn ?_
  simp (disch:=omega) only [qqd,List.replicate,k0,go_sem]
  repeat' first
   |((first|refine cA (c95 _) ?_ ?_|refine cG (fun e=>c95 _) ?_ ?_|refine cU (fun _=>c95 _) ?_ ?_);(next=>exact flk);simp (disch:=omega) only [k0,go_sem])
   |((first|apply qd|apply qb);exact rvk;simp only [go_sem];first|exact VLe.refl _|apply qe|apply qa|apply qf|skip)
   |with_reducible first|apply And.intro|intro _
  all_goals try exact clz
  exact jW ⟨kj,VLe.refl _,trivial⟩
 rw [if_pos g,g]
 simp only [g]at c95
 obtain ⟨n8,g8⟩:=h8 g
 have hse:sgE names gs=0∧qgM names.length set=0:=by
  unfold qlZ at g
  split at g
  ·rename_i h;exact ⟨h,g⟩
  ·cases g
 have hin:=(qeE hse.2).1
 have hin64:inB 64 set:=fun i hi=>by have:=hin i hi;omega
 have hmi:=qrf hse.1
 have hml:=hz.gm
 have hgl:=hz.g
 have c96:=fun h=>qx4 set h hs hin64
 have hall:qci set<2^8:=Nat.lt_of_lt_of_le (qjP (by omega) hin) (Nat.pow_le_pow_right (by omega) n8)
 obtain ⟨all,hA⟩: ∃all,all=qci set:=⟨_,rfl⟩
 have hpin:=fun {c} hc {p}=>qvS (names:=names) (gs:=gs) (set:=set) (all:=all) hin (by omega) hA (c:=c) hc (p:=p)
 rw [←hA]at hall
 simp only [←hA]at c96
 have c97:=fun h=>qAh gs all h (by omega) hmi hml (by omega)
 have hLin:=fun {x}=> @qlT gs all x
 have hLl:(qd5 gs all).length≤8:=by have:=jA (qo3 gs all) gs.length;unfold qd5;omega
 have hbA:qyO gs all=bst gs all (qd5 gs all) (2^(qd5 gs all).length-1):=rfl
 rw [←hA,hbA]
 have hbs:=qs8 gs all (qd5 gs all)
 obtain ⟨L,hL⟩: ∃L,L=qd5 gs all:=⟨_,rfl⟩
 simp only [←hL]at c97 hLin hpin
 rw [←hL]at hLl
 rw [←hL]at hbs ⊢
 have hmsl:=qlq gs L
 have hmsg:=fun {i} hi=>qlp (gs:=gs) (L:=L) (i:=i) hi
 have hmlt:=qwl hmi L
 obtain ⟨ms,hms⟩: ∃ms,ms=usM gs L:=⟨_,rfl⟩
 rw [←hms]at hmsl
 simp only [←hms]at hmsg hmlt
 have z1: ∀g,valL g .len [qp L]= .int .i64 L.length:=fun _=>rfl
 have z2: ∀g,okL g .len [qp L]=True:=fun _=>eq_true trivial
 refine acO qpn ?_
 simp (disch:=omega) only [qqd,List.replicate,z1,z2,go_sem]
 repeat' first
  |((first|refine cA (c95 _) ?_ ?_|refine cG (fun e=>c95 _) ?_ ?_|refine cA (c96 _) ?_ ?_|refine cG (fun e=>c96 _) ?_ ?_|refine cA (c97 _) ?_ ?_|refine cG (fun e=>c97 _) ?_ ?_|refine cU (fun _=>c95 _) ?_ ?_|refine cU (fun _=>c96 _) ?_ ?_|refine cU (fun _=>c97 _) ?_ ?_);(next=>exact flk);simp (disch:=omega) only [z1,z2,go_sem])
  |((first|apply qd|apply qb);exact rvk;simp only [go_sem];first|exact VLe.refl _|apply qe|apply qa|apply qf|skip)
  |with_reducible first|apply And.intro|intro _
 all_goals try exact clz
 refine qv (T:=fun s:Nat×Nat×AObj=>qQ 151 [(0,strs names),(4,.op h.length 1 0),(9,.op (h.length+2) 1 0),(10,.op (h.length+3) 1 0),(11,.osl (h.length+4) s.2.1 1 0 s.1),(39,qp L),(40,.int .i64 L.length),(41,.int .i64 s.1)])
  (H:=fun s=>h++ [.mem 1 44 [zj gs],.emp 1,.mem 1 164 [.int .u64 ((all:Nat):Int)],.mem 1 62 [qp L],zC s.2.1 164 (qc8 (ms.take s.1)),s.2.2,.emp 0,.emp 0,.emp 0,.emp 0,.emp 0,.emp 0,.emp 0,.emp 0,.emp 0,.emp 0,.emp 0,.emp 0,.emp 0])
  (inv:=fun s=>s.1≤L.length∧qE [s.2.2] 0=true) (m:=fun s=>L.length-s.1) (0,1,.emp 0) ⟨Nat.zero_le _,rfl⟩ (Wk.temps ?_) ?_
 ·(simp only [List.replicate,go_sem,qk,qi,qg,qj];try (repeat' first|(with_reducible apply And.intro)|(apply qe;omega)|(apply qa;rfl)|exact VLe.refl _))
 rintro ⟨i,v,O5⟩ ⟨i1,i2⟩ K hK
 simp only at i1 i2 hK
 have i2': ∀m,qE (O5::m) 0=true:=fun _=>i2
 by_cases hi:i<L.length
 ·have k1:((i:Int)<L.length)=True:=eq_true (by omega)
  have hst:=qhc (L:=ms) (i:=i) (by omega)
  rw [hmsg hi]at hst
  have hm:L.getD i 0∈L:=by rw [gdqA,zM hi];exact List.getElem_mem hi
  obtain ⟨y,hy,hyl⟩:=hLin hm
  rw [hy]at hst
  simp only [Int.toNat_natCast]at hst
  have k2:((y:Int)<gs.length)=True:=eq_true (by omega)
  have k3:(0≤(y:Int))=True:=eq_true (by omega)
  have c96:=fun h=>qx4 (gs.getD y default).mem h (hml y) (hmi y)
  obtain ⟨gr,hgr⟩: ∃gr,gr=gs.getD y default:=⟨_,rfl⟩
  have egr:=hgr.symm
  simp only [egr]at c96
  rw [egr]at hst
  have eCl:(qc8 (ms.take i)).length=i:=by rw [qfH,List.length_take];omega
  have eTk:List.take i (qc8 (ms.take i))=qc8 (ms.take i):=List.take_of_length_le (by omega)
  have zv:qp L= .sl L.length fun i=> [.int .i64 (L.getD i 0)]:=rfl
  simp (disch:=omega) only [List.replicate,zj,grC,zv,k1,k2,k3,i2',hy,egr,Nat.mul_one,Int.toNat_natCast,go_sem]
  repeat' first
   |((first|refine cA (c96 _) ?_ ?_|refine cG (fun e=>c96 _) ?_ ?_|refine cU (fun _=>c96 _) ?_ ?_);(next=>exact flk);simp (disch:=omega) only [zj,grC,zv,k1,k2,k3,i2',hy,egr,eCl,eTk,Nat.mul_one,Int.toNat_natCast,go_sem])
   |((first|apply qd|apply qb);exact rvk;simp only [go_sem];first|exact VLe.refl _|apply qe|apply qa|apply qf|skip)
   |with_reducible first|apply And.intro|intro _
  all_goals try exact clz
  have eA:qc8 (ms.take i)++ [AV.int .u64 ((qci gr.mem:Nat):Int)]=qc8 (ms.take (i+1)):=by rw [hst,qoJ];rfl
  rw [eA]
  refine hK _ _ (i+1,v+1,.mem (qr (some O5)+1) 164 [.int .u64 ((qci gr.mem:Nat):Int)]) ⟨hi,rfl⟩ (by simp only;omega) ?_
  simp only [zv,zj,grC]
  refine Wk.temps ?_
  (simp only [List.replicate,go_sem,qk,qi,qg,qj];try (repeat' first|(with_reducible apply And.intro)|(apply qe;omega)|(apply qa;rfl)|exact VLe.refl _))
 obtain rfl:i=L.length:=by omega
 have k1:((L.length:Int)<L.length)=False:=eq_false (by omega)
 have emt:ms.take L.length=ms:=List.take_of_length_le (by omega)
 rw [emt]
 simp (disch:=omega) only [List.replicate,k1,go_sem]
 repeat' first
  |((first|apply qd|apply qb);exact rvk;simp only [go_sem];first|exact VLe.refl _|apply qe|apply qa|apply qf|skip)
  |with_reducible first|apply And.intro|intro _
 all_goals try exact clz
 have hbs0:bsO h gs all L 0 .nl (.emp 0):= .inl ⟨rfl,rfl⟩
 refine ⟨qQ 151 [(0,strs names),(4,.op h.length 1 0),(9,.op (h.length+2) 1 0),(10,.op (h.length+3) 1 0),(11,jv ms),(14,.op (h.length+7) 1 0),(15,.op (h.length+8) 1 0)],shH h gs all L (v+1) O5 .nl false (.emp 0) (.emp 0) (.emp 0) [],Wk.trans (Wk.freeze [h.length+4] (by simp only [j8,go_sem])) ?_,?_⟩
 ·unfold shH
  simp only [qcH,List.map,go_sem]
  refine Wk.temps ?_
  (simp only [List.replicate,go_sem,qk,qi,qg,qj];try (repeat' first|(with_reducible apply And.intro)|(apply qe;omega)|(apply qa;rfl)|exact VLe.refl _))
  all_goals first
   |(rw [if_neg (by simp)];exact VLe.refl _)
   |(rw [if_pos (by simp),if_pos (by simp)];exact qon (fun _=>rfl) (by omega))
 have c98:=fun h=>qzv ms h
 simp (disch:=omega) only [List.replicate,go_sem]
 repeat' first
  |((first|refine cA (c98 _) ?_ ?_|refine cG (fun e=>c98 _) ?_ ?_|refine cU (fun _=>c98 _) ?_ ?_);(next=>exact flk);simp (disch:=omega) only [go_sem])
  |((first|apply qd|apply qb);exact rvk;simp only [go_sem];first|exact VLe.refl _|apply qe|apply qa|apply qf|skip)
  |with_reducible first|apply And.intro|intro _
 all_goals try exact clz
 refine qad (xs:=qlV ms) (itC ms (by omega) hmlt) (qmA ms)
  (S:=fun i hh=> ∃bc O9 O10 O12,bsO h gs all L i bc O9∧(∀n,kf n O9)∧qE [O10] 0=true∧(∀n,kf n O10)∧qE [O12] 0=true∧(∀n,kf n O12)∧hh=shH h gs all L (v+1) O5 bc (decide (0<i)) O9 O10 O12 [])
  (E:=fun _ _=>False) ?_ (fun _ _ h=>h.elim) ?_ ?_ ?_ ?_ (fun _ _ h=>h.elim)
 ·rintro i hh ⟨bc,O9,O10,O12,b1,b2,b4,b5,b6,b7,rfl⟩
  have hbc:zQ (h.length+19) bc=true∧zQ (h.length+19+1) bc=true:=by
   rcases b1 with ⟨rfl,_⟩|⟨j,w,_,rfl,_⟩
   ·cases i<;>exact ⟨rfl,rfl⟩
   ·constructor<;>simp [zQ]<;>omega
  unfold shH
  refine LowI.app rfl (fun o ho=> ?_)
  have e19:([.mem 1 44 [zj gs],.emp 1,.mem 1 164 [.int .u64 ((all:Nat):Int)],.mem 1 62 [qp L],.emp (v+1),O5,.emp 0,.mem 1 62 [.nl],.mem 1 4 [.bool false],.emp 0,.emp 0,.emp 0,.emp 0,.emp 0,.emp 0,.emp 0,.emp 0,.emp 0,.emp 0]:List AObj).length=19:=rfl
  simp only [List.mem_cons,List.not_mem_nil,or_false]at ho
  rcases ho with rfl|rfl|rfl|rfl|rfl|rfl|rfl|rfl|rfl|rfl|rfl|rfl|rfl|rfl|rfl|rfl|rfl|rfl|rfl
  all_goals first
   |(left;simp;done)
   |(right;exact ⟨b2 _,b2 _⟩)
   |(right;exact ⟨b5 _,b5 _⟩)
   |(right;exact ⟨b7 _,b7 _⟩)
   |(right;rw [e19];constructor<;>(intro c hc;simp only [List.mem_cons,List.not_mem_nil,or_false]at hc;subst hc;first|rfl|exact hbc.1|exact hbc.2))
 ·exact ⟨.nl,.emp 0,.emp 0,.emp 0,hbs0,fun _=>trivial,rfl,fun _=>trivial,rfl,fun _=>trivial,rfl⟩
 ·rw [zU]
  simp [zQ,zQ.lowVs,qcI,qjK]
  try omega
 ·rintro i hh tl LI TS hi ⟨bc,O9,O10,O12,b1,b2,b4,b5,b6,b7,rfl⟩ hq K K2 hK hN hR hX
  rw [qe8 hi]
  rw [qcy,hmsl]at hi
  simp only [qbj]
  simp (disch:=omega) only [go_sem]
  refine hK _ _ (shH h gs all L (v+1) O5 bc (decide (0<i)) O9 O10 O12 []) rfl (by rw [zU,zU]) ?_
  rw [qaU]
  obtain ⟨O9',p9,l9,w⟩:=shW (tl:= .lp .busy TS LI::tl) (v4:=v+1) (O5:=O5) (fd:=decide (0<i)) (O10:=O10) (O12:=O12) b1 b2
  have p9': ∀m,qE (O9'::m) 0=true:=fun _=>p9
  have hi8:i<256:=Nat.lt_of_lt_of_le hi (Nat.pow_le_pow_right (by omega) hLl:2^L.length≤2^8)
  have hchl:=qt2 hmlt i
  obtain ⟨m,hm⟩: ∃m,m=chN ms i:=⟨_,rfl⟩
  rw [←hm]at hchl
  have hand:=qe6 (a:=all) (b:=m) (by omega) hchl
  have hanl:anN all m<256:=qo7 (n:=8) hall
  have c99a:=fun h=>qy5 i h hi8
  have c99b:=fun h=>qy5 (anN all m) h hanl
  have c100a:=fun h=>qy2 i h (by omega)
  have c100b:=fun h=>qy2 (anN all m) h (by omega)
  have hplc0:kN gs all L i=(zA i.testBit 64).map (fun k=>L.getD k.toNat 0)++(zA (anN all m).testBit 64).map (fun s=>(gs.length:Int)+s):=by unfold kN;rw [←hms,←hm]
  have hpl:=qfq gs all L i
  rw [←hms,←hm]at hpl
  have hpi:qnV i=(zA i.testBit 64).length:=rfl
  have hpj:qnV (anN all m)=(zA (anN all m).testBit 64).length:=rfl
  have hM1: ∀x∈zA i.testBit 64,∃y:Nat,x=(y:Int)∧y<L.length:=fun x hx=>by
   obtain ⟨y,e1,e2,e3⟩:=qat hx
   exact ⟨y,e1,qex hi e3⟩
  have hM2: ∀x∈zA (anN all m).testBit 64,∃y:Nat,x=(y:Int)∧y<64:=fun x hx=>by
   obtain ⟨y,e1,e2,e3⟩:=qat hx
   exact ⟨y,e1,e2⟩
  have hM1l:=jA i.testBit 64
  have hM2l:=jA (anN all m).testBit 64
  obtain ⟨M,hM⟩: ∃M,M=zA i.testBit 64:=⟨_,rfl⟩
  obtain ⟨M2,hM'⟩: ∃M2,M2=zA (anN all m).testBit 64:=⟨_,rfl⟩
  obtain ⟨s1,hs1⟩: ∃s1,s1=qnV i:=⟨_,rfl⟩
  obtain ⟨s2,hs2⟩: ∃s2,s2=qnV (anN all m):=⟨_,rfl⟩
  rw [←hM]at hplc0 hpi hM1 hM1l
  rw [←hM']at hplc0 hpj hM2 hM2l
  rw [←hs1]at hpi
  rw [←hs2]at hpj
  rw [←hs1,←hs2]at hpl
  simp only [←hM]at c100a
  simp only [←hM']at c100b
  simp only [←hs1]at c99a
  simp only [←hs2]at c99b
  obtain ⟨F,hF⟩: ∃F,F=M.map (fun k=>L.getD k.toNat 0):=⟨_,rfl⟩
  obtain ⟨G,hG⟩: ∃G,G=M2.map (fun s=>(gs.length:Int)+s):=⟨_,rfl⟩
  have hplc:kN gs all L i=F++G:=by rw [hplc0,hF,hG]
  have hFl:F.length=M.length:=by rw [hF,List.length_map]
  have hGl:G.length=M2.length:=by rw [hG,List.length_map]
  have hMF: ∀j,j<M.length→ ∃y:Nat,M.getD j 0=(y:Int)∧y<L.length∧F.getD j 0=L.getD y 0:=fun j hj=>by
   have hm:M.getD j 0∈M:=by rw [gdqA,zM hj];exact List.getElem_mem hj
   obtain ⟨y,e1,e2⟩:=hM1 _ hm
   refine ⟨y,e1,e2,?_⟩
   rw [gdqA,zM hj]at e1
   have e1:M[j]=(y:Int):=e1
   rw [hF,gdqA,List.getElem?_map,zM hj,e1]
   rfl
  have hMG: ∀j,j<M2.length→ ∃y:Nat,M2.getD j 0=(y:Int)∧y<64∧G.getD j 0=(gs.length:Int)+y:=fun j hj=>by
   have hm:M2.getD j 0∈M2:=by rw [gdqA,zM hj];exact List.getElem_mem hj
   obtain ⟨y,e1,e2⟩:=hM2 _ hm
   refine ⟨y,e1,e2,?_⟩
   rw [gdqA,zM hj]at e1
   have e1:M2[j]=(y:Int):=e1
   rw [hG,gdqA,List.getElem?_map,zM hj,e1]
   rfl
  have zM1: ∀g,valL g .len [qp M]= .int .i64 M.length:=fun _=>rfl
  have zM2: ∀g,okL g .len [qp M]=True:=fun _=>eq_true trivial
  simp only [←hm]
  simp (disch:=omega) only [go_sem]
  refine ⟨_,_,w _,?_⟩
  clear w
  cases i with
  |zero=>
   have hfd:decide (0<0)=false:=rfl
   simp (disch:=omega) only [shH,hfd,bsC,p9',zM1,zM2,go_sem]
   repeat' first
    |((first|refine cA (c99a _) ?_ ?_|refine cG (fun e=>c99a _) ?_ ?_|refine cA (c99b _) ?_ ?_|refine cG (fun e=>c99b _) ?_ ?_|refine cA (c100a _) ?_ ?_|refine cG (fun e=>c100a _) ?_ ?_|refine cU (fun _=>c99a _) ?_ ?_|refine cU (fun _=>c99b _) ?_ ?_|refine cU (fun _=>c100a _) ?_ ?_);(next=>exact flk);simp (disch:=omega) only [shH,hfd,bsC,p9',hand,zM1,zM2,go_sem])
    |((first|apply qd|apply qb);exact rvk;simp only [go_sem];first|exact VLe.refl _|apply qe|apply qa|apply qf|skip)
    |with_reducible first|apply And.intro|intro _
   all_goals try exact clz
   refine qv (T:=fun j:Nat×Nat×AObj=>qQ 151 [(0,strs names),(4,.op h.length 1 0),(9,.op (h.length+2) 1 0),(10,.op (h.length+3) 1 0),(14,.op (h.length+7) 1 0),(15,.op (h.length+8) 1 0),(16,.int .u64 ((0:Nat):Int)),(17,.int .u64 ((m:Nat):Int)),(19,.osl (h.length+9) j.2.1 1 0 j.1),(74,qp M),(75,.int .i64 M.length),(76,.int .i64 j.1)])
    (H:=fun j=>shH h gs all L (v+1) O5 .nl false (zC j.2.1 3 (qC (F.take j.1))) j.2.2 O12 (.lp .busy TS LI::tl))
    (inv:=fun j=>j.1≤M.length∧qE [j.2.2] 0=true∧ ∀n,kf n j.2.2) (m:=fun j=>M.length-j.1) (0,qr (some O9')+1,O10) ⟨Nat.zero_le _,b4,b5⟩ (Wk.temps ?_) ?_
   ·(simp only [List.replicate,go_sem,qk,qi,qg,qj];try (repeat' first|(with_reducible apply And.intro)|(apply qe;omega)|(apply qa;rfl)|exact VLe.refl _))
   rintro ⟨j,u,O10⟩ ⟨j1,j2,j3⟩ KA hKA
   simp only at j1 j2 j3 hKA
   have j2': ∀m,qE (O10::m) 0=true:=fun _=>j2
   by_cases hj:j<M.length
   ·have q1:((j:Int)<M.length)=True:=eq_true (by omega)
    obtain ⟨y,hy,hyl,hyF⟩:=hMF j hj
    have q2:((y:Int)<L.length)=True:=eq_true (by omega)
    have q3:(0≤(y:Int))=True:=eq_true (by omega)
    have hst:=jU (L:=F) (i:=j) (by omega)
    rw [hyF]at hst
    have eC:=zf (F.take j)
    rw [List.length_take,Nat.min_eq_left (by omega)]at eC
    have eTk:List.take j (qC (F.take j))=qC (F.take j):=List.take_of_length_le (by omega)
    have zv: ∀X:List Int,qp X= .sl X.length fun i=> [.int .i64 (X.getD i 0)]:=fun _=>rfl
    simp (disch:=omega) only [List.replicate,shH,q1,q2,q3,j2',zv,hy,Nat.mul_one,Int.toNat_natCast,go_sem]
    repeat' first
     |((first|apply qd|apply qb);exact rvk;simp only [go_sem];first|exact VLe.refl _|apply qe|apply qa|apply qf|skip)
     |with_reducible first|apply And.intro|intro _
    all_goals try exact clz
    have eA:qC (F.take j)++ [AV.int .i64 (L.getD y 0)]=qC (F.take (j+1)):=by rw [hst,zX];rfl
    try rw [eTk]
    rw [eA]
    refine hKA _ _ (j+1,u+1,.mem (qr (some O10)+1) 3 [.int .i64 (L.getD y 0)]) ⟨hj,rfl,fun n c hc=>by simp only [List.mem_cons,List.not_mem_nil,or_false]at hc;subst hc;rfl⟩ (by simp only;omega) ?_
    simp only [shH,zv]
    refine Wk.temps ?_
    (simp only [List.replicate,go_sem,qk,qi,qg,qj];try (repeat' first|(with_reducible apply And.intro)|(apply qe;omega)|(apply qa;rfl)|exact VLe.refl _))
   obtain rfl:j=M.length:=by omega
   have q1:((M.length:Int)<M.length)=False:=eq_false (by omega)
   have eFt:F.take M.length=F:=List.take_of_length_le (by omega)
   rw [eFt]
   have zm1: ∀g,valL g .len [qp M2]= .int .i64 M2.length:=fun _=>rfl
   have zm2: ∀g,okL g .len [qp M2]=True:=fun _=>eq_true trivial
   simp (disch:=omega) only [List.replicate,shH,q1,zm1,zm2,hand,go_sem]
   repeat' first
    |((first|refine cA (c100b _) ?_ ?_|refine cG (fun e=>c100b _) ?_ ?_|refine cU (fun _=>c100b _) ?_ ?_);(next=>exact flk);simp (disch:=omega) only [shH,q1,hand,zm1,zm2,go_sem])
    |((first|apply qd|apply qb);exact rvk;simp only [go_sem];first|exact VLe.refl _|apply qe|apply qa|apply qf|skip)
    |with_reducible first|apply And.intro|intro _
   all_goals try exact clz
   refine qv (T:=fun j:Nat×Nat×AObj=>qQ 151 [(0,strs names),(4,.op h.length 1 0),(9,.op (h.length+2) 1 0),(10,.op (h.length+3) 1 0),(14,.op (h.length+7) 1 0),(15,.op (h.length+8) 1 0),(19,.osl (h.length+9) j.2.1 1 0 (F.length+j.1)),(91,qp M2),(92,.int .i64 M2.length),(93,.int .i64 j.1)])
    (H:=fun j=>shH h gs all L (v+1) O5 .nl false (zC j.2.1 3 (qC (F++G.take j.1))) O10 j.2.2 (.lp .busy TS LI::tl))
    (inv:=fun j=>j.1≤M2.length∧qE [j.2.2] 0=true∧ ∀n,kf n j.2.2) (m:=fun j=>M2.length-j.1) (0,u,O12) ⟨Nat.zero_le _,b6,b7⟩ ?_ ?_
   ·have e0:F++G.take 0=F:=by simp
    simp only [e0,Nat.add_zero,hFl]
    unfold shH
    refine Wk.temps ?_
    (simp only [List.replicate,go_sem,qk,qi,qg,qj];try (repeat' first|(with_reducible apply And.intro)|(apply qe;omega)|(apply qa;rfl)|exact VLe.refl _))
   rintro ⟨j,u2,O12⟩ ⟨k1,k2,k3⟩ KB hKB
   simp only at k1 k2 k3 hKB
   have k2': ∀m,qE (O12::m) 0=true:=fun _=>k2
   by_cases hj2:j<M2.length
   ·have q5:((j:Int)<M2.length)=True:=eq_true (by omega)
    obtain ⟨y,hy,hyl,hyG⟩:=hMG j hj2
    have hst:F++G.take (j+1)=(F++G.take j)++ [(gs.length:Int)+y]:=by rw [jU (L:=G) (i:=j) (by omega),hyG,List.append_assoc]
    have eC:=zf (F++G.take j)
    rw [List.length_append,List.length_take,Nat.min_eq_left (by omega)]at eC
    have eTk:List.take (F.length+j) (qC (F++G.take j))=qC (F++G.take j):=List.take_of_length_le (by omega)
    have zg1: ∀g,valL g .len [zj gs]= .int .i64 gs.length:=fun _=>rfl
    have zg2: ∀g,okL g .len [zj gs]=True:=fun _=>eq_true trivial
    have zv: ∀X:List Int,qp X= .sl X.length fun i=> [.int .i64 (X.getD i 0)]:=fun _=>rfl
    simp (disch:=omega) only [List.replicate,shH,q5,k2',zv,hy,zg1,zg2,Nat.mul_one,Int.toNat_natCast,go_sem]
    repeat' first
     |((first|apply qd|apply qb);exact rvk;simp only [go_sem];first|exact VLe.refl _|apply qe|apply qa|apply qf|skip)
     |with_reducible first|apply And.intro|intro _
    all_goals try exact clz
    have eA:qC (F++G.take j)++ [AV.int .i64 ((gs.length:Int)+y)]=qC (F++G.take (j+1)):=by rw [hst,zX (F++G.take j)];rfl
    try rw [eTk]
    rw [eA]
    refine hKB _ _ (j+1,u2+1,.mem (qr (some O12)+1) 3 [.int .i64 ((gs.length:Int)+y)]) ⟨hj2,rfl,fun n c hc=>by simp only [List.mem_cons,List.not_mem_nil,or_false]at hc;subst hc;rfl⟩ (by simp only;omega) ?_
    simp only [shH,zv]
    refine Wk.temps ?_
    (simp only [List.replicate,go_sem,qk,qi,qg,qj];try (repeat' first|(with_reducible apply And.intro)|(apply qe;omega)|(apply qa;rfl)|exact VLe.refl _))
   obtain rfl:j=M2.length:=by omega
   have q5:((M2.length:Int)<M2.length)=False:=eq_false (by omega)
   have eGt:F++G.take M2.length=kN gs all L 0:=by rw [List.take_of_length_le (by omega),hplc]
   have eln:F.length+M2.length=(kN gs all L 0).length:=by rw [hplc,List.length_append];omega
   rw [eGt,eln]
   simp (disch:=omega) only [List.replicate,shH,bsC,q5,hfd,go_sem]
   repeat' first
    |(refine ql (.int .i64 0) ?_;simp (disch:=omega) only [shH,bsC,q5,hfd,go_sem])
    |((first|apply qd|apply qb);exact rvk;simp only [go_sem];first|exact VLe.refl _|apply qe|apply qa|apply qf|skip)
    |with_reducible first|apply And.intro|intro _
   all_goals try exact clz
   refine hN _ _ (shH h gs all L (v+1) O5 (.osl (h.length+9) u2 1 0 (kN gs all L 0).length) true (zC u2 3 (qC (kN gs all L 0))) O10 O12 []) ?_ (by rw [zU,zU]) ⟨_,_,_,_,.inr ⟨0,u2,rfl,rfl,rfl⟩,fun n=>kM (qao _ _),j2,j3,k2,k3,rfl⟩
   rw [qaU]
   rfl
  |succ i'=>
   have hfd:decide (0<i'+1)=true:=decide_eq_true (by omega)
   have hfd2:decide (0<i'+1+1)=true:=decide_eq_true (by omega)
   have hbs':bst gs all L (i'+1)=if qsO (kN gs all L (i'+1)) (bst gs all L i')=true then kN gs all L (i'+1) else bst gs all L i':=rfl
   have hbc:bsC gs all L (i'+1)=qp (bst gs all L i'):=rfl
   obtain ⟨b,hb⟩: ∃b,b=bst gs all L i':=⟨_,rfl⟩
   rw [←hb]at hbs' hbc
   have zb1: ∀g,valL g .len [qp b]= .int .i64 b.length:=fun _=>rfl
   have zb2: ∀g,okL g .len [qp b]=True:=fun _=>eq_true trivial
   by_cases hsk:b.length<s1+s2
   ·have r0:((b.length:Int)<(s1:Int)+s2)=True:=eq_true (by omega)
    simp (disch:=omega) only [shH,hfd,hbc,p9',zM1,zM2,zb1,zb2,hand,go_sem]
    repeat' first
     |((first|refine cA (c99a _) ?_ ?_|refine cG (fun e=>c99a _) ?_ ?_|refine cA (c99b _) ?_ ?_|refine cG (fun e=>c99b _) ?_ ?_|refine cA (c100a _) ?_ ?_|refine cG (fun e=>c100a _) ?_ ?_|refine cU (fun _=>c99a _) ?_ ?_|refine cU (fun _=>c99b _) ?_ ?_|refine cU (fun _=>c100a _) ?_ ?_);(next=>exact flk);simp (disch:=omega) only [shH,hfd,hbc,p9',hand,zM1,zM2,zb1,zb2,r0,go_sem])
     |((first|apply qd|apply qb);exact rvk;simp only [go_sem];first|exact VLe.refl _|apply qe|apply qa|apply qf|skip)
     |with_reducible first|apply And.intro|intro _
    all_goals try exact clz
    have hbt:bst gs all L (i'+1)=b:=by rw [hbs',if_neg (by unfold qsO;rw [hpl];simp;omega)]
    refine hN _ _ (shH h gs all L (v+1) O5 (qp b) true O9' O10 O12 []) ?_ (by rw [zU,zU]) ⟨_,_,_,_,.inl ⟨by show qp b=qp (bst gs all L (i'+1));rw [hbt],p9⟩,l9,b4,b5,b6,b7,by rw [hfd2]⟩
    rw [qaU]
    rfl
   have r0:((b.length:Int)<(s1:Int)+s2)=False:=eq_false (by omega)
   simp (disch:=omega) only [shH,hfd,hbc,p9',zM1,zM2,zb1,zb2,hand,go_sem]
   repeat' first
    |((first|refine cA (c99a _) ?_ ?_|refine cG (fun e=>c99a _) ?_ ?_|refine cA (c99b _) ?_ ?_|refine cG (fun e=>c99b _) ?_ ?_|refine cA (c100a _) ?_ ?_|refine cG (fun e=>c100a _) ?_ ?_|refine cU (fun _=>c99a _) ?_ ?_|refine cU (fun _=>c99b _) ?_ ?_|refine cU (fun _=>c100a _) ?_ ?_);(next=>exact flk);simp (disch:=omega) only [shH,hfd,hbc,p9',hand,zM1,zM2,zb1,zb2,r0,go_sem])
    |((first|apply qd|apply qb);exact rvk;simp only [go_sem];first|exact VLe.refl _|apply qe|apply qa|apply qf|skip)
    |with_reducible first|apply And.intro|intro _
   all_goals try exact clz
   refine qv (T:=fun j:Nat×Nat×AObj=>qQ 151 [(0,strs names),(4,.op h.length 1 0),(9,.op (h.length+2) 1 0),(10,.op (h.length+3) 1 0),(14,.op (h.length+7) 1 0),(15,.op (h.length+8) 1 0),(16,.int .u64 (((i'+1):Nat):Int)),(17,.int .u64 ((m:Nat):Int)),(19,.osl (h.length+9) j.2.1 1 0 j.1),(74,qp M),(75,.int .i64 M.length),(76,.int .i64 j.1)])
    (H:=fun j=>shH h gs all L (v+1) O5 (qp b) true (zC j.2.1 3 (qC (F.take j.1))) j.2.2 O12 (.lp .busy TS LI::tl))
    (inv:=fun j=>j.1≤M.length∧qE [j.2.2] 0=true∧ ∀n,kf n j.2.2) (m:=fun j=>M.length-j.1) (0,qr (some O9')+1,O10) ⟨Nat.zero_le _,b4,b5⟩ (Wk.temps ?_) ?_
   ·(simp only [List.replicate,go_sem,qk,qi,qg,qj];try (repeat' first|(with_reducible apply And.intro)|(apply qe;omega)|(apply qa;rfl)|exact VLe.refl _))
   rintro ⟨j,u,O10⟩ ⟨j1,j2,j3⟩ KA hKA
   simp only at j1 j2 j3 hKA
   have j2': ∀m,qE (O10::m) 0=true:=fun _=>j2
   by_cases hj:j<M.length
   ·have q1:((j:Int)<M.length)=True:=eq_true (by omega)
    obtain ⟨y,hy,hyl,hyF⟩:=hMF j hj
    have q2:((y:Int)<L.length)=True:=eq_true (by omega)
    have q3:(0≤(y:Int))=True:=eq_true (by omega)
    have hst:=jU (L:=F) (i:=j) (by omega)
    rw [hyF]at hst
    have eC:=zf (F.take j)
    rw [List.length_take,Nat.min_eq_left (by omega)]at eC
    have eTk:List.take j (qC (F.take j))=qC (F.take j):=List.take_of_length_le (by omega)
    have zv: ∀X:List Int,qp X= .sl X.length fun i=> [.int .i64 (X.getD i 0)]:=fun _=>rfl
    simp (disch:=omega) only [List.replicate,shH,q1,q2,q3,j2',zv,hy,Nat.mul_one,Int.toNat_natCast,go_sem]
    repeat' first
     |((first|apply qd|apply qb);exact rvk;simp only [go_sem];first|exact VLe.refl _|apply qe|apply qa|apply qf|skip)
     |with_reducible first|apply And.intro|intro _
    all_goals try exact clz
    have eA:qC (F.take j)++ [AV.int .i64 (L.getD y 0)]=qC (F.take (j+1)):=by rw [hst,zX];rfl
    try rw [eTk]
    rw [eA]
    refine hKA _ _ (j+1,u+1,.mem (qr (some O10)+1) 3 [.int .i64 (L.getD y 0)]) ⟨hj,rfl,fun n c hc=>by simp only [List.mem_cons,List.not_mem_nil,or_false]at hc;subst hc;rfl⟩ (by simp only;omega) ?_
    simp only [shH,zv]
    refine Wk.temps ?_
    (simp only [List.replicate,go_sem,qk,qi,qg,qj];try (repeat' first|(with_reducible apply And.intro)|(apply qe;omega)|(apply qa;rfl)|exact VLe.refl _))
   obtain rfl:j=M.length:=by omega
   have q1:((M.length:Int)<M.length)=False:=eq_false (by omega)
   have eFt:F.take M.length=F:=List.take_of_length_le (by omega)
   rw [eFt]
   have zm1: ∀g,valL g .len [qp M2]= .int .i64 M2.length:=fun _=>rfl
   have zm2: ∀g,okL g .len [qp M2]=True:=fun _=>eq_true trivial
   simp (disch:=omega) only [List.replicate,shH,q1,zm1,zm2,hand,go_sem]
   repeat' first
    |((first|refine cA (c100b _) ?_ ?_|refine cG (fun e=>c100b _) ?_ ?_|refine cU (fun _=>c100b _) ?_ ?_);(next=>exact flk);simp (disch:=omega) only [shH,q1,hand,zm1,zm2,go_sem])
    |((first|apply qd|apply qb);exact rvk;simp only [go_sem];first|exact VLe.refl _|apply qe|apply qa|apply qf|skip)
    |with_reducible first|apply And.intro|intro _
   all_goals try exact clz
   refine qv (T:=fun j:Nat×Nat×AObj=>qQ 151 [(0,strs names),(4,.op h.length 1 0),(9,.op (h.length+2) 1 0),(10,.op (h.length+3) 1 0),(14,.op (h.length+7) 1 0),(15,.op (h.length+8) 1 0),(19,.osl (h.length+9) j.2.1 1 0 (F.length+j.1)),(91,qp M2),(92,.int .i64 M2.length),(93,.int .i64 j.1)])
    (H:=fun j=>shH h gs all L (v+1) O5 (qp b) true (zC j.2.1 3 (qC (F++G.take j.1))) O10 j.2.2 (.lp .busy TS LI::tl))
    (inv:=fun j=>j.1≤M2.length∧qE [j.2.2] 0=true∧ ∀n,kf n j.2.2) (m:=fun j=>M2.length-j.1) (0,u,O12) ⟨Nat.zero_le _,b6,b7⟩ ?_ ?_
   ·have e0:F++G.take 0=F:=by simp
    simp only [e0,Nat.add_zero,hFl]
    unfold shH
    refine Wk.temps ?_
    (simp only [List.replicate,go_sem,qk,qi,qg,qj];try (repeat' first|(with_reducible apply And.intro)|(apply qe;omega)|(apply qa;rfl)|exact VLe.refl _))
   rintro ⟨j,u2,O12⟩ ⟨k1,k2,k3⟩ KB hKB
   simp only at k1 k2 k3 hKB
   have k2': ∀m,qE (O12::m) 0=true:=fun _=>k2
   by_cases hj2:j<M2.length
   ·have q5:((j:Int)<M2.length)=True:=eq_true (by omega)
    obtain ⟨y,hy,hyl,hyG⟩:=hMG j hj2
    have hst:F++G.take (j+1)=(F++G.take j)++ [(gs.length:Int)+y]:=by rw [jU (L:=G) (i:=j) (by omega),hyG,List.append_assoc]
    have eC:=zf (F++G.take j)
    rw [List.length_append,List.length_take,Nat.min_eq_left (by omega)]at eC
    have eTk:List.take (F.length+j) (qC (F++G.take j))=qC (F++G.take j):=List.take_of_length_le (by omega)
    have zg1: ∀g,valL g .len [zj gs]= .int .i64 gs.length:=fun _=>rfl
    have zg2: ∀g,okL g .len [zj gs]=True:=fun _=>eq_true trivial
    have zv: ∀X:List Int,qp X= .sl X.length fun i=> [.int .i64 (X.getD i 0)]:=fun _=>rfl
    simp (disch:=omega) only [List.replicate,shH,q5,k2',zv,hy,zg1,zg2,Nat.mul_one,Int.toNat_natCast,go_sem]
    repeat' first
     |((first|apply qd|apply qb);exact rvk;simp only [go_sem];first|exact VLe.refl _|apply qe|apply qa|apply qf|skip)
     |with_reducible first|apply And.intro|intro _
    all_goals try exact clz
    have eA:qC (F++G.take j)++ [AV.int .i64 ((gs.length:Int)+y)]=qC (F++G.take (j+1)):=by rw [hst,zX (F++G.take j)];rfl
    try rw [eTk]
    rw [eA]
    refine hKB _ _ (j+1,u2+1,.mem (qr (some O12)+1) 3 [.int .i64 ((gs.length:Int)+y)]) ⟨hj2,rfl,fun n c hc=>by simp only [List.mem_cons,List.not_mem_nil,or_false]at hc;subst hc;rfl⟩ (by simp only;omega) ?_
    simp only [shH,zv]
    refine Wk.temps ?_
    (simp only [List.replicate,go_sem,qk,qi,qg,qj];try (repeat' first|(with_reducible apply And.intro)|(apply qe;omega)|(apply qa;rfl)|exact VLe.refl _))
   obtain rfl:j=M2.length:=by omega
   have q5:((M2.length:Int)<M2.length)=False:=eq_false (by omega)
   have eGt:F++G.take M2.length=kN gs all L (i'+1):=by rw [List.take_of_length_le (by omega),hplc]
   have eln:F.length+M2.length=(kN gs all L (i'+1)).length:=by rw [hplc,List.length_append];omega
   rw [eGt,eln]
   by_cases h1:(kN gs all L (i'+1)).length<b.length
   ·have r1:(((kN gs all L (i'+1)).length:Int)<b.length)=True:=eq_true (by omega)
    simp (disch:=omega) only [List.replicate,shH,hbc,q5,hfd,zb1,zb2,r1,go_sem]
    repeat' first
     |(refine ql (.int .i64 0) ?_;simp (disch:=omega) only [shH,hbc,q5,hfd,zb1,zb2,r1,go_sem])
     |((first|apply qd|apply qb);exact rvk;simp only [go_sem];first|exact VLe.refl _|apply qe|apply qa|apply qf|skip)
     |with_reducible first|apply And.intro|intro _
    all_goals try exact clz
    have hbt:bst gs all L (i'+1)=kN gs all L (i'+1):=by rw [hbs',if_pos (by unfold qsO;simp [h1])]
    refine hN _ _ (shH h gs all L (v+1) O5 (.osl (h.length+9) u2 1 0 (kN gs all L (i'+1)).length) true (zC u2 3 (qC (kN gs all L (i'+1)))) O10 O12 []) ?_ (by rw [zU,zU]) ⟨_,_,_,_,.inr ⟨i'+1,u2,rfl,by rw [hbt],by rw [hbt]⟩,fun n=>kM (qao _ _),j2,j3,k2,k3,by rw [hfd2]⟩
    rw [qaU]
    rfl
   have r1:(((kN gs all L (i'+1)).length:Int)<b.length)=False:=eq_false (by omega)
   have heq:(kN gs all L (i'+1)).length=b.length:=by omega
   simp (disch:=omega) only [List.replicate,shH,hbc,q5,hfd,zb1,zb2,r1,go_sem]
   repeat' first
    |((first|apply qd|apply qb);exact rvk;simp only [go_sem];first|exact VLe.refl _|apply qe|apply qa|apply qf|skip)
    |with_reducible first|apply And.intro|intro _
   all_goals try exact clz
   refine cG (fun _=>qzw (kN gs all L (i'+1)) b (h.length+9) u2 _ _ rfl (by simp only [go_sem]) heq (by omega)) (fun _=>by exact flk) ?_
   by_cases h2:qpd (kN gs all L (i'+1)) b<0
   ·have r2:(qpd (kN gs all L (i'+1)) b<0)=True:=eq_true h2
    simp (disch:=omega) only [r2,go_sem]
    repeat' first
     |((first|apply qd|apply qb);exact rvk;simp only [go_sem];first|exact VLe.refl _|apply qe|apply qa|apply qf|skip)
     |with_reducible first|apply And.intro|intro _
    all_goals try exact clz
    have hbt:bst gs all L (i'+1)=kN gs all L (i'+1):=by rw [hbs',if_pos (by unfold qsO;simp [heq,h2])]
    refine hN _ _ (shH h gs all L (v+1) O5 (.osl (h.length+9) u2 1 0 (kN gs all L (i'+1)).length) true (zC u2 3 (qC (kN gs all L (i'+1)))) O10 O12 []) ?_ (by rw [zU,zU]) ⟨_,_,_,_,.inr ⟨i'+1,u2,rfl,by rw [hbt],by rw [hbt]⟩,fun n=>kM (qao _ _),j2,j3,k2,k3,by rw [hfd2]⟩
    rw [qaU]
    rfl
   ·have r2:(qpd (kN gs all L (i'+1)) b<0)=False:=eq_false h2
    simp (disch:=omega) only [r2,go_sem]
    repeat' first
     |((first|apply qd|apply qb);exact rvk;simp only [go_sem];first|exact VLe.refl _|apply qe|apply qa|apply qf|skip)
     |with_reducible first|apply And.intro|intro _
    all_goals try exact clz
    have hbt:bst gs all L (i'+1)=b:=by rw [hbs',if_neg (by unfold qsO;simp [heq,h2])]
    refine hN _ _ (shH h gs all L (v+1) O5 (qp b) true (zC u2 3 (qC (kN gs all L (i'+1)))) O10 O12 []) ?_ (by rw [zU,zU]) ⟨_,_,_,_,.inl ⟨by show qp b=qp (bst gs all L (i'+1));rw [hbt],site_own0⟩,fun n=>kM (qao _ _),j2,j3,k2,k3,by rw [hfd2]⟩
    rw [qaU]
    rfl
 ·rintro hh ⟨bc,O9,O10,O12,b1,b2,b4,b5,b6,b7,rfl⟩
  rw [qcy,hmsl]at b1 ⊢
  have hN1:1≤2^L.length:=Nat.one_le_two_pow
  obtain ⟨N,hN⟩: ∃N,2^L.length=N+1:=⟨2^L.length-1,by omega⟩
  obtain ⟨kb,kb1,kb2⟩:=hbs N
  have hBin: ∀p∈bst gs all L N,0≤p∧p<gs.length+names.length:=fun p hp=>by
   rw [kb2]at hp
   exact hpin (by omega) hp
  have hBl:(bst gs all L N).length≤200:=by
   rw [kb2,qfq]
   have h1:=jA kb.testBit 64
   have h2:=jA (anN all (chN (usM gs L) kb)).testBit 64
   unfold qnV
   omega
  rw [hN]at b1
  rw [show 2^L.length-1=N by omega]
  obtain ⟨fd,hfd⟩: ∃fd,fd=decide (0<2^L.length):=⟨_,rfl⟩
  rw [←hfd]
  obtain ⟨O9',hw⟩: ∃O9',∀TT,Wk TT (h++ [.mem 1 44 [zj gs],.emp 1,.mem 1 164 [.int .u64 ((all:Nat):Int)],.mem 1 62 [qp L],.emp (v+1),O5,.emp 0,.mem 1 62 [bc],.mem 1 4 [.bool fd],O9,O10,.emp 0,O12,.emp 0,.emp 1,.emp 0,.emp 0,.emp 0,.emp 0])
    TT (h++ [.mem 1 44 [zj gs],.emp 1,.mem 1 164 [.int .u64 ((all:Nat):Int)],.mem 1 62 [qp L],.emp (v+1),O5,.emp 0,.mem 1 62 [qp (bst gs all L N)],.mem 1 4 [.bool fd],O9',O10,.emp 0,O12,.emp 0,.emp 1,.emp 0,.emp 0,.emp 0,.emp 0]):=by
   rcases b1 with ⟨rfl,p9⟩|⟨j,u,e,rfl,rfl⟩
   ·exact ⟨O9,fun TT=>Wk.refl _ _⟩
   ·obtain rfl:N=j:=by omega
    refine ⟨.emp (u+1),fun TT=> ?_⟩
    have w:=Wk.fzCell (t:=TT) (h:=h++ [.mem 1 44 [zj gs],.emp 1,.mem 1 164 [.int .u64 ((all:Nat):Int)],.mem 1 62 [qp L],.emp (v+1),O5,.emp 0,.mem 1 62 [.osl (h.length+9) u 1 0 (bst gs all L N).length],.mem 1 4 [.bool fd],zC u 3 (qC (bst gs all L N)),O10,.emp 0,O12,.emp 0,.emp 1,.emp 0,.emp 0,.emp 0,.emp 0])
     (j:=h.length+7) (k:=h.length+9) (i:=0) (v:=1) (ty:=62) (cs:= [.osl (h.length+9) u 1 0 (bst gs all L N).length]) (c:= .osl (h.length+9) u 1 0 (bst gs all L N).length) (c':=qp (bst gs all L N))
     (by simp only [go_sem]) rfl (by simp only [go_sem]) (by omega) (by rw [qbn,getO_app];exact qbu (fun _=>rfl) rfl)
    simp only [go_sem,List.set_cons_zero]at w
    exact w
  simp (disch:=omega) only [shH,go_sem]
  repeat' first
   |((first|apply qd|apply qb);exact rvk;simp only [go_sem];first|exact VLe.refl _|apply qe|apply qa|apply qf|skip)
   |with_reducible first|apply And.intro|intro _
  all_goals try exact clz
  refine ⟨_,_,hw _,?_⟩
  obtain ⟨B,hB⟩: ∃B,B=bst gs all L N:=⟨_,rfl⟩
  rw [←hB]at hBin hBl ⊢
  have zb1: ∀g,valL g .len [qp B]= .int .i64 B.length:=fun _=>rfl
  have zb2: ∀g,okL g .len [qp B]=True:=fun _=>eq_true trivial
  simp (disch:=omega) only [zb1,zb2,go_sem]
  repeat' first
   |((first|apply qd|apply qb);exact rvk;simp only [go_sem];first|exact VLe.refl _|apply qe|apply qa|apply qf|skip)
   |with_reducible first|apply And.intro|intro _
  all_goals try exact clz
  refine qv (T:=fun s:Nat×Nat×AObj×AObj=>qQ 151 [(0,strs names),(4,.op h.length 1 0),(24,.osl (h.length+14) s.2.1 1 0 s.1),(121,qp B),(122,.int .i64 B.length),(123,.int .i64 s.1)])
   (H:=fun s=>h++ [.mem 1 44 [zj gs],.emp 1,.mem 1 164 [.int .u64 ((all:Nat):Int)],.mem 1 62 [qp L],.emp (v+1),O5,.emp 0,.mem 1 62 [qp B],.mem 1 4 [.bool fd],O9',O10,.emp 0,O12,.emp 0,zC s.2.1 9 (jc ((B.map (qc6 names gs)).take s.1)),s.2.2.1,.emp 0,s.2.2.2,.emp 0])
   (inv:=fun s=>s.1≤B.length∧qE [s.2.2.1] 0=true∧qE [s.2.2.2] 0=true) (m:=fun s=>B.length-s.1) (0,1,.emp 0,.emp 0) ⟨Nat.zero_le _,rfl,rfl⟩ (Wk.temps ?_) ?_
  ·(simp only [List.replicate,go_sem,qk,qi,qg,qj];try (repeat' first|(with_reducible apply And.intro)|(apply qe;omega)|(apply qa;rfl)|exact VLe.refl _))
  rintro ⟨i,u,O15,O17⟩ ⟨i1,i2,i3⟩ K hK
  simp only at i1 i2 i3 hK
  have i2': ∀m,qE (O15::m) 0=true:=fun _=>i2
  have i3': ∀m,qE (O17::m) 0=true:=fun _=>i3
  have eCl:i≤B.length→(jc ((B.map (qc6 names gs)).take i)).length=i:=fun hi=>by rw [jF,List.length_take,List.length_map];omega
  have zv: ∀X:List Int,qp X= .sl X.length fun i=> [.int .i64 (X.getD i 0)]:=fun _=>rfl
  by_cases hi:i<B.length
  ·have q1:((i:Int)<B.length)=True:=eq_true (by omega)
   have hm:B.getD i 0∈B:=by rw [gdqA,zM hi];exact List.getElem_mem hi
   obtain ⟨p0,p1⟩:=hBin _ hm
   have hst:(B.map (qc6 names gs)).take (i+1)=(B.map (qc6 names gs)).take i++ [qc6 names gs (B.getD i 0)]:=by
    rw [←List.map_take,←List.map_take,jU hi,List.map_append]
    rfl
   have eTk:List.take i (jc ((B.map (qc6 names gs)).take i))=jc ((B.map (qc6 names gs)).take i):=List.take_of_length_le (by rw [eCl (by omega)];exact Nat.le_refl _)
   have eC:=eCl (by omega)
   have zg1: ∀g,valL g .len [zj gs]= .int .i64 gs.length:=fun _=>rfl
   have zg2: ∀g,okL g .len [zj gs]=True:=fun _=>eq_true trivial
   obtain ⟨y,hy⟩: ∃y:Nat,B.getD i 0=(y:Int):=⟨(B.getD i 0).toNat,by omega⟩
   rw [hy]at hst p1
   by_cases hg:y<gs.length
   ·have q2:((y:Int)<gs.length)=True:=eq_true (by omega)
    have q3:(0≤(y:Int))=True:=eq_true (by omega)
    have hsg:qc6 names gs (y:Int)=(gs.getD y default).name:=by unfold qc6;rw [if_pos (by omega),Int.toNat_natCast]
    rw [hsg]at hst
    simp (disch:=omega) only [List.replicate,zv,zj,grC,q1,q2,q3,hy,i2',Nat.mul_one,Int.toNat_natCast,go_sem]
    repeat' first
     |((first|apply qd|apply qb);exact rvk;simp only [go_sem];first|exact VLe.refl _|apply qe|apply qa|apply qf|skip)
     |with_reducible first|apply And.intro|intro _
    all_goals try exact clz
    have eA:jc ((B.map (qc6 names gs)).take i)++ [AV.str (gs.getD y default).name]=jc ((B.map (qc6 names gs)).take (i+1)):=by rw [hst,qbv];rfl
    try rw [eTk]
    rw [eA]
    refine hK _ _ (i+1,u+1,.mem (qr (some O15)+1) 9 [.str (gs.getD y default).name],O17) ⟨hi,rfl,i3⟩ (by simp only;omega) ?_
    simp only [zv,zj,grC]
    refine Wk.temps ?_
    (simp only [List.replicate,go_sem,qk,qi,qg,qj];try (repeat' first|(with_reducible apply And.intro)|(apply qe;omega)|(apply qa;rfl)|exact VLe.refl _))
   ·have q2:((y:Int)<gs.length)=False:=eq_false (by omega)
    obtain ⟨z,hz⟩: ∃z:Nat,(y:Int)-gs.length=(z:Int):=⟨y-gs.length,by omega⟩
    have q3:((z:Int)<names.length)=True:=eq_true (by omega)
    have q4:(0≤(z:Int))=True:=eq_true (by omega)
    have hsg:qc6 names gs (y:Int)=names.getD z []:=by unfold qc6;rw [if_neg (by omega),hz,Int.toNat_natCast]
    rw [hsg]at hst
    simp (disch:=omega) only [List.replicate,zv,strs,zg1,zg2,q1,q2,q3,q4,hy,hz,i3',Nat.mul_one,Int.toNat_natCast,go_sem]
    repeat' first
     |((first|apply qd|apply qb);exact rvk;simp only [go_sem];first|exact VLe.refl _|apply qe|apply qa|apply qf|skip)
     |with_reducible first|apply And.intro|intro _
    all_goals try exact clz
    have eA:jc ((B.map (qc6 names gs)).take i)++ [AV.str (names.getD z [])]=jc ((B.map (qc6 names gs)).take (i+1)):=by rw [hst,qbv];rfl
    try rw [eTk]
    rw [eA]
    refine hK _ _ (i+1,u+1,O15,.mem (qr (some O17)+1) 9 [.str (names.getD z [])]) ⟨hi,i2,rfl⟩ (by simp only;omega) ?_
    simp only [zv,strs]
    refine Wk.temps ?_
    (simp only [List.replicate,go_sem,qk,qi,qg,qj];try (repeat' first|(with_reducible apply And.intro)|(apply qe;omega)|(apply qa;rfl)|exact VLe.refl _))
  ·obtain rfl:i=B.length:=by omega
   have q1:((B.length:Int)<B.length)=False:=eq_false (by omega)
   have eAll:(B.map (qc6 names gs)).take B.length=B.map (qc6 names gs):=List.take_of_length_le (by simp)
   rw [eAll]
   simp (disch:=omega) only [List.replicate,q1,go_sem]
   repeat' first
    |((first|apply qd|apply qb);exact rvk;simp only [go_sem];first|exact VLe.refl _|apply qe|apply qa|apply qf|skip)
    |with_reducible first|apply And.intro|intro _
   all_goals try exact clz
   exact jW ⟨qcT (fun _=>rfl) (by simp),VLe.refl _,trivial⟩
end RC
end
section
open Go Go.Proofs AF HY LN
namespace RC
set_option maxHeartbeats 8000000
end RC
end
section
open Go Go.Proofs AF HY LN
namespace RC
set_option maxHeartbeats 16000000
end RC
end
section
open Go Go.Proofs AF HY LN
namespace RC
set_option maxHeartbeats 16000000
end RC
end
section
open Go Go.Proofs AF HY LN
namespace RC
set_option maxHeartbeats 16000000
end RC
end
section
open Go Go.Proofs AF HY LN
namespace RC
set_option maxHeartbeats 4000000
structure qfO (L:List Rd) (s:Nat):Prop where
 src: ∀r∈L,r.src.Pairwise (· < ·)∧ ∀x∈r.src,0≤x∧x<s
 ne: ∀i j,i<j→j<L.length→(L.getD i default).words≠(L.getD j default).words
theorem qaM (L:List Rd) (w:List Str):(∃i,i<L.length∧(L.getD i default).words=w∧qhu L w=i)∨((∀i,i<L.length→(L.getD i default).words≠w)∧qhu L w<0):=by
 unfold qhu
 rcases zG (fun j=>decide (w=(L.getD j default).words)) L.length with ⟨i,h1,h2,_,h4⟩|⟨h1,h2⟩
 ·exact .inl ⟨i,h1,(of_decide_eq_true h2).symm,h4⟩
 ·exact .inr ⟨fun i hi e=>of_decide_eq_false (h1 i hi) e.symm,by omega⟩
theorem jm {L:List Rd} {i j:Nat} {r:Rd} (hi:i<L.length):(L.set i r).getD j default=if j=i then r else L.getD j default:=by
 rw [gdqA,List.getElem?_set]
 by_cases e:i=j
 ·subst e;rw [if_pos rfl,if_pos hi,if_pos rfl];rfl
 ·rw [if_neg e,if_neg (fun h=>e h.symm),gdqA]
theorem ql7 {L:List Rd} {w:List Str} {s:Nat} (h:qfO L s):qfO (qd2 L w s) (s+1):=by
 have g: ∀i (hi:i<L.length),L.getD i default=L[i]:=fun i hi=>by rw [gdqA,zM hi];rfl
 rcases qaM L w with ⟨i,h1,h2,h3⟩|⟨h1,h2⟩
 ·have e:qd2 L w s=L.set i ⟨w,(L.getD i default).src++ [(s:Int)]⟩:=by
   unfold qd2
   rw [h3,if_neg (by omega),Int.toNat_natCast]
  rw [e]
  have hm:=h.src (L.getD i default) (by rw [g i h1];exact List.getElem_mem h1)
  refine ⟨fun r hr=> ?_,fun a b hab hb=> ?_⟩
  ·rcases List.mem_or_eq_of_mem_set hr with hr|rfl
   ·obtain ⟨a,b⟩:=h.src r hr
    exact ⟨a,fun x hx=>by have:=b x hx;omega⟩
   ·refine ⟨List.pairwise_append.2 ⟨hm.1,List.pairwise_singleton _ _,fun a ha b hb=> ?_⟩,fun x hx=> ?_⟩
    ·rw [List.mem_singleton]at hb
     have:=hm.2 a ha
     omega
    ·rcases List.mem_append.1 hx with hx|hx
     ·have:=hm.2 x hx;omega
     ·rw [List.mem_singleton]at hx;omega
  ·rw [List.length_set]at hb
   rw [jm h1,jm h1]
   have key: ∀j,j<L.length→j≠i→(L.getD j default).words≠w:=fun j hj hne e=>by
    rw [←h2]at e
    rcases Nat.lt_or_gt_of_ne hne with hlt|hlt
    ·exact h.ne j i hlt h1 e
    ·exact h.ne i j hlt hj e.symm
   by_cases ea:a=i
   ·rw [if_pos ea,if_neg (by omega)]
    exact fun e=>key b hb (by omega) e.symm
   ·rw [if_neg ea]
    by_cases eb:b=i
    ·rw [if_pos eb];exact key a (by omega) ea
    ·rw [if_neg eb];exact h.ne a b hab hb
 ·have e:qd2 L w s=L++ [⟨w,[(s:Int)]⟩]:=by
   unfold qd2
   rw [if_pos h2]
  rw [e]
  refine ⟨fun r hr=> ?_,fun a b hab hb=> ?_⟩
  ·rcases List.mem_append.1 hr with hr|hr
   ·obtain ⟨a,b⟩:=h.src r hr
    exact ⟨a,fun x hx=>by have:=b x hx;omega⟩
   ·rw [List.mem_singleton]at hr
    subst hr
    exact ⟨List.pairwise_singleton _ _,fun x hx=>by rw [List.mem_singleton]at hx;omega⟩
  ·rw [List.length_append,List.length_singleton]at hb
   have ga: ∀j,j<L.length→(L++ [(⟨w,[(s:Int)]⟩:Rd)]).getD j default=L.getD j default:=fun j hj=>by
    rw [gdqA,List.getElem?_append_left hj,gdqA]
   rw [ga a (by omega)]
   by_cases eb:b<L.length
   ·rw [ga b eb];exact h.ne a b hab eb
   ·have:b=L.length:=by omega
    subst this
    have gb:(L++ [(⟨w,[(s:Int)]⟩:Rd)]).getD L.length default=⟨w,[(s:Int)]⟩:=by
     rw [gdqA,List.getElem?_append_right (Nat.le_refl _),Nat.sub_self]
     rfl
    rw [gb]
    exact h1 a (by omega)
theorem qcQ (x:Co) (f d:Nat): ∀s,qfO (qa8 x f d s) s:=by
 intro s
 induction s with
 |zero=>exact ⟨fun r hr=>absurd hr List.not_mem_nil,fun i j _ h=>absurd h (Nat.not_lt_zero j)⟩
 |succ s ih=>exact ql7 ih
theorem qn5 (x:Co) (f t:Nat):qfO (qgD x f t) x.sig.length:=qcQ x f (t-f) x.sig.length
theorem qvG {n:Nat} {S:List Int} (h1:S.Pairwise (· < ·)) (h2: ∀x∈S,0≤x∧x<n):qgM n S=0:=by
 have g: ∀i (hi:i<S.length),S.getD i 0=S[i]:=fun i hi=>by rw [gdqA,zM hi];rfl
 unfold qgM
 refine zk fun i hi=> ?_
 have hm:=h2 (S.getD i 0) (by rw [g i hi];exact List.getElem_mem hi)
 unfold qeD
 rw [if_neg (by omega),if_neg]
 rintro ⟨h0,h3⟩
 have:=List.pairwise_iff_getElem.1 h1 (i-1) i (by omega) hi (by omega)
 rw [g i hi,g (i-1) (by omega)]at h3
 omega
def qnX (cur:Str):Str→List Str
 | []=>if cur= [] then [] else [cur]
 |c::r=>if c=32 then (if cur= [] then [] else [cur])++qnX [] r else qnX (cur++ [c]) r
def qcE (cls s:Str):Bool:=decide (cls∈qnX [] s)
def lyE (lay:List Str):Int:=if lay.length=0 then 5 else if 16<lay.length then 4 else 0
def lyN (lay:List Str) (cls:Str):Int:=if kS (fun i=>qcE cls (lay.getD i [])) lay.length 0<0 then (lay.length:Int)-1 else kS (fun i=>qcE cls (lay.getD i [])) lay.length 0
def lyR (lay:List Str) (cls:Str):Int:=if lyE lay=0 then lyN lay cls else 0
theorem qvT: ∀(s cur:Str),[]∉qnX cur s:=by
 intro s
 induction s with
 |nil=>
  intro cur
  unfold qnX
  split
  ·exact List.not_mem_nil
  ·rename_i h
   rw [List.mem_singleton]
   exact fun e=>h e.symm
 |cons c r ih=>
  intro cur
  unfold qnX
  split
  ·rw [List.mem_append,not_or]
   refine ⟨?_,ih []⟩
   split
   ·exact List.not_mem_nil
   ·rename_i h;rw [List.mem_singleton];exact fun e=>h e.symm
  ·exact ih _
structure Ap where
 x:Co
 l:List Un
 cls:List (List Str)
 b:List Wd
 gs:List Gr
 lay:List Str
 pos:List Bool
def enE (a:Ap):Int:=
 if pvE a.x a.l a.b≠0 then pvE a.x a.l a.b else if sgE a.x.sig a.gs≠0 then 1 else if lyE a.lay≠0 then lyE a.lay else if a.pos.length≠a.lay.length∨a.cls.length≠a.l.length then 9 else
  if zr (fun k=> !decide ((a.cls.getD k []).length=(a.l.getD k default).rds.length)) a.l.length=true then 9 else 0
def owG (b:List Wd) (k:Int):Nat→List Str
 |0=> []
 |i+1=>owG b k i++if (b.getD i default).unit=k then [(b.getD i default).text] else []
def qsR (a:Ap) (k:Nat):List Str:=owG a.b k a.b.length
def vrG (a:Ap) (k y:Nat):Nat→List Va
 |0=> []
 |r+1=>vrG a k y r++if lyN a.lay ((a.cls.getD k []).getD r [])=y∧((a.l.getD k default).rds.getD r default).words≠qsR a k then
   [⟨((a.l.getD k default).rds.getD r default).words,shR a.x.sig a.gs ((a.l.getD k default).rds.getD r default).src⟩] else []
def vrK (a:Ap) (k y:Nat):List Va:=vrG a k y (a.l.getD k default).rds.length
def baK (a:Ap) (k:Nat):Int:=kS (fun r=>decide (((a.l.getD k default).rds.getD r default).words=qsR a k)) (a.l.getD k default).rds.length 0
def suK (a:Ap) (k y:Nat):List Str:=if a.pos.getD y false=true∧0≤baK a k then shR a.x.sig a.gs ((a.l.getD k default).rds.getD (baK a k).toNat default).src else []
def frK (a:Ap) (k:Nat):Nat:=cP (bfU a.b (a.l.getD k default).frm) a.b.length
def toK (a:Ap) (k:Nat):Nat:=frK a k+cP (inU a.b k) a.b.length
def enK (a:Ap) (k y:Nat):En:=⟨y,frK a k,toK a k,a.pos.getD y false,suK a k y,vrK a k y⟩
def enY (a:Ap) (k:Nat):Nat→List En
 |0=> []
 |y+1=>enY a k y++if vrK a k y= [] then [] else [enK a k y]
def enU (a:Ap):Nat→List En
 |0=> []
 |k+1=>enU a k++enY a k a.lay.length
def enR (a:Ap):List En:=if enE a=0 then enU a a.l.length else []
end RC
end
section
open Go Go.Proofs AF HY LN
namespace RC
set_option maxHeartbeats 4000000
structure ql4 (L:List Rd) (s:Nat) (W:Nat→List Str):Prop where
 has: ∀i,i<s→ ∃j,j<L.length∧(i:Int)∈(L.getD j default).src
 wd: ∀j,j<L.length→ ∀x∈(L.getD j default).src,(L.getD j default).words=W x.toNat
 nn: ∀j,j<L.length→(L.getD j default).src≠ []
theorem qal {L:List Rd} {r:Rd} {j:Nat}:(L++ [r]).getD j default=if j<L.length then L.getD j default else if j=L.length then r else default:=by
 rw [gdqA]
 split
 ·rename_i h
  rw [List.getElem?_append_left h,gdqA]
 ·rename_i h
  rw [List.getElem?_append_right (by omega)]
  split
  ·rename_i e;subst e;rw [Nat.sub_self];rfl
  ·rw [List.getElem?_eq_none (by rw [List.length_singleton];omega)];rfl
theorem ql6 {L:List Rd} {s:Nat} {W:Nat→List Str} (h:ql4 L s W):ql4 (qd2 L (W s) s) (s+1) W:=by
 rcases qaM L (W s)with ⟨k,h1,h2,h3⟩|⟨h1,h2⟩
 ·have e:qd2 L (W s) s=L.set k ⟨W s,(L.getD k default).src++ [(s:Int)]⟩:=by
   unfold qd2
   rw [h3,if_neg (by omega),Int.toNat_natCast]
  rw [e]
  refine ⟨fun i hi=> ?_,fun j hj x hx=> ?_,fun j hj=> ?_⟩
  ·by_cases ei:i=s
   ·subst ei
    exact ⟨k,by rw [List.length_set];exact h1,by rw [jm h1,if_pos rfl];exact List.mem_append_right _ (List.mem_singleton.2 rfl)⟩
   ·obtain ⟨j,hj,hx⟩:=h.has i (by omega)
    refine ⟨j,by rw [List.length_set];exact hj,?_⟩
    rw [jm h1]
    split
    ·rename_i e';subst e';exact List.mem_append_left _ hx
    ·exact hx
  ·rw [List.length_set]at hj
   rw [jm h1]at hx ⊢
   split at hx
   ·rename_i e'
    rw [if_pos e']
    rcases List.mem_append.1 hx with hx|hx
    ·rw [←h2];exact h.wd k h1 x hx
    ·rw [List.mem_singleton]at hx;subst hx;rfl
   ·rename_i e'
    rw [if_neg e']
    exact h.wd j hj x hx
  ·rw [List.length_set]at hj
   rw [jm h1]
   split
   ·exact fun e=>absurd (List.append_eq_nil_iff.1 e).2 (by simp)
   ·exact h.nn j hj
 ·have e:qd2 L (W s) s=L++ [⟨W s,[(s:Int)]⟩]:=by
   unfold qd2
   rw [if_pos h2]
  rw [e]
  refine ⟨fun i hi=> ?_,fun j hj x hx=> ?_,fun j hj=> ?_⟩
  ·by_cases ei:i=s
   ·subst ei
    exact ⟨L.length,by rw [List.length_append,List.length_singleton];omega,by rw [qal,if_neg (by omega),if_pos rfl];exact List.mem_singleton.2 rfl⟩
   ·obtain ⟨j,hj,hx⟩:=h.has i (by omega)
    exact ⟨j,by rw [List.length_append,List.length_singleton];omega,by rw [qal,if_pos hj];exact hx⟩
  ·rw [List.length_append,List.length_singleton]at hj
   rw [qal]at hx ⊢
   split at hx
   ·rename_i hl;rw [if_pos hl];exact h.wd j hl x hx
   ·rename_i hl
    rw [if_neg hl,if_pos (by omega)]
    rw [if_pos (by omega)]at hx
    rw [List.mem_singleton]at hx
    subst hx
    rfl
  ·rw [List.length_append,List.length_singleton]at hj
   rw [qal]
   split
   ·rename_i hl;exact h.nn j hl
   ·rw [if_pos (by omega)];simp
theorem qfv (x:Co) (f d:Nat): ∀s,ql4 (qa8 x f d s) s fun i=>rdG x i f d:=by
 intro s
 induction s with
 |zero=>exact ⟨fun i h=>absurd h (Nat.not_lt_zero i),fun j h=>absurd h (Nat.not_lt_zero j),fun j h=>absurd h (Nat.not_lt_zero j)⟩
 |succ s ih=>exact ql6 ih
end RC
end
section
open Go Go.Proofs AF
def zK:List Nat:= []
def qqo:C:=
 ((C.ops [O1 3 (.box 0 26) 0,MC 6 (.str []),MC 7 (.bool false)]).seq ((C.ops [O1 9 (.fldA 3) 3,LD 10 9,MV 11 1,O2 12 (.idxA 1) 10 11,LD 13 12,MV 14 2,O2 15 (.idxA 1) 13 14,
 LD 16 15,MV 8 16]).seq (((C.ops [MV 17 8,BC 18 .lss 17 (i6 0)]).seq (C.cond (.t 18) ((C.ops [MC 6 (.str []),MC 7 (.bool false)]).seq C.ret) C.skip)).seq ((C.ops [O1 19 (.fldA 2)
 3,LD 20 19,MV 21 2,O2 22 (.idxA 1) 20 21,LD 23 22,MV 24 8,O2 25 (.idxA 6) 23 24,O1 26 (.fldA 0) 25,LD 27 26,MV 6 27,MC 7 (.bool true)]).seq
 C.ret))))
theorem qpy:qL Tryz.prog 300 28 1 [RV.tmp 6,RV.tmp 7] qqo:=fi Tryz.f300 [3] zK [] (by kernel_rfl) (by kernel_rfl) (by kernel_rfl) (by kernel_rfl)
def qtI:C:=
 ((C.ops [O1 2 (.box 0 26) 0,MC 4 (.bool false)]).seq ((C.ops [O1 11 (.load (some 4)) 2,MV 12 1,ON 13 (.call 300 true) [.t 11,.t 12,.c (i6 0)],MV 10 13,O1 14 (.ext 0) 10,O1
 15 (.ext 1) 10,MV 5 14,MV 6 15]).seq (((C.ops [O1 16 (.fldA 1) 2,LD 17 16,O1 18 .len 17,MC 19 (i6 0)]).seq (C.block 0 ((C.ops [BI 20 .lss 19 18]).seq ((C.cond (.t 20) C.skip
 (C.exit 0)).seq ((C.block 1 ((C.ops [MV 21 19,MV 7 21]).seq ((C.ops [O1 23 (.load (some 4)) 2,MV 24 1,MV 25 7,ON 26 (.call 300 true) [.t 23,.t 24,.t 25],MV 22 26,O1 27
 (.ext 0) 22,O1 28 (.ext 1) 22,MV 8 27,MV 9 28]).seq ((C.ops [MV 29 6,O1 30 (.un UnOp.not) 29,MV 31 30,MG 32 31 false 9,P1 33 31 false (.un UnOp.not) 32,PT 34 31 33,MV 35
 34,MG 36 35 false 8,MG 37 35 false 5,P2 38 35 false (.bin .neq) 36 37,PT 39 35 38]).seq (C.cond (.t 39) ((C.ops [MC 4 (.bool false)]).seq C.ret) C.skip))))).seq (C.ops [BC 40
 .add 19 (i6 1),MV 19 40])))).loop)).seq ((C.ops [MC 4 (.bool true)]).seq
 C.ret))))
theorem qu3:qL Tryz.prog 278 41 1 [RV.tmp 4] qtI:=fi Tryz.f278 [2] zK [] (by kernel_rfl) (by kernel_rfl) (by kernel_rfl) (by kernel_rfl)
def qtw:C:=
 ((C.ops [O1 1 (.box 0 26) 0,MC 2 .nilfn]).seq ((C.ops [O1 3 (.mkfn (Fn.func 277) 0) 1,MV 2 3]).seq
 C.ret))
theorem quP:qL Tryz.prog 233 4 1 [RV.tmp 2] qtw:=fi Tryz.f233 [1] zK [] (by kernel_rfl) (by kernel_rfl) (by kernel_rfl) (by kernel_rfl)
def qtH:C:=
 ((C.ops [MC 3 (i6 0)]).seq (C.block 0 (((C.ops [MV 5 3,O1 6 (.fldA 3) 1,LD 7 6,O1 8 .len 7,BI 9 .lss 5 8]).seq (C.cond (.t 9) C.skip (C.exit 0))).seq (C.block 1 ((C.ops [MV 10
 3,MV 4 10]).seq ((C.block 2 (((C.ops [MV 11 4,O1 12 (.fldA 3) 1,LD 13 12,O1 14 .len 13,BI 15 .lss 11 14,MV 16 15,P1 17 16 true (.load (some 4)) 1,MG 18 16 true 4,P2 19 16
 true (.call 278 true) 17 18,P1 20 16 true (.un UnOp.not) 19,PF 21 16 20]).seq (C.cond (.t 21) C.skip (C.exit 2))).seq (C.block 3 (C.ops [MV 22 4,BC 23 .add 22 (i6 1),MV 4
 23]))).loop).seq (((C.ops [MV 24 4,MV 25 3,BI 26 .gtr 24 25,MV 27 26,MG 28 27 true 0,MG 29 27 true 3,MG 30 27 true 4,PN 31 27 true .callv [.t 28,.t 29,.t 30],P1 32 27
 true (.un UnOp.not) 31,PF 33 27 32]).seq (C.cond (.t 33) C.ret C.skip)).seq (C.ops [MV 34 4,BC 35 .add 34 (i6 1),MV 3
 35])))))).loop))
theorem qu2:qL Tryz.prog 277 36 0 [] qtH:=fi Tryz.f277 [] zK [] (by kernel_rfl) (by kernel_rfl) (by kernel_rfl) (by kernel_rfl)
def qtE:C:=
 ((C.ops [O1 4 (.box 0 26) 0,ON 8 (.nilo 1 1 9) []]).seq ((C.ops [ON 9 (.nilo 2 1 9) []]).seq (((C.ops [MV 13 1,MV 10 13]).seq (C.block 0 (((C.ops [MV 14 10,MV 15 2,BI 16 .lss
 14 15]).seq (C.cond (.t 16) C.skip (C.exit 0))).seq ((C.block 1 ((C.ops [O1 20 (.load (some 4)) 4,MV 21 10,MV 22 3,ON 23 (.call 300 true) [.t 20,.t 21,.t 22],MV 19 23,O1 24
 (.ext 0) 19,O1 25 (.ext 1) 19,MV 11 24,MV 12 25]).seq ((C.ops [MV 26 12]).seq (C.cond (.t 26) (C.ops [MV 27 9,MV 28 11,⟨some 29,none,.bslc 3 1 1 9 [.str []] [(0,1)],[.t
 28]⟩,O2 30 (.app 4 1 9 16) 27 29,MV 9 30]) C.skip)))).seq (C.ops [MV 17 10,BC 18 .add 17 (i6 1),MV 10 18]))).loop)).seq ((C.ops [MV 31 9,MV 8 31]).seq
 C.ret))))
theorem quZ:qL Tryz.prog 274 32 5 [RV.tmp 8] qtE:=fi Tryz.f274 [4,8,9,29,30] zK [] (by kernel_rfl) (by kernel_rfl) (by kernel_rfl) (by kernel_rfl)
def qtF:C:=
 ((C.ops [O1 4 (.box 0 89) 1,O1 5 (.box 1 280) 2,MC 6 (i6 0)]).seq ((C.ops [MV 7 0,O2 8 (.mkfn (Fn.func 301) 0) 5 4,O2 9 (.call 127 true) 7 8,MV 6 9]).seq
 C.ret))
theorem qu0:qL Tryz.prog 275 10 2 [RV.tmp 6] qtF:=fi Tryz.f275 [4,5] zK [] (by kernel_rfl) (by kernel_rfl) (by kernel_rfl) (by kernel_rfl)
def qtN:C:=
 ((C.ops [O1 3 (.box 0 89) 0,MC 4 (.bool false)]).seq ((C.ops [LD 5 1,O1 6 (.load (some 2)) 2,O1 7 (.load (some 2)) 3,ON 8 .callv [.t 5,.t 6,.t 7],MV 4 8]).seq
 C.ret))
theorem qu9:qL Tryz.prog 301 9 1 [RV.tmp 4] qtN:=fi Tryz.f301 [3] zK [] (by kernel_rfl) (by kernel_rfl) (by kernel_rfl) (by kernel_rfl)
def qtv:C:=
 ((C.ops [O1 3 (.box 0 26) 0,ON 6 (.nilo 1 2 89) []]).seq ((C.ops [ON 7 (.nilo 2 2 89) []]).seq (((C.ops [O1 11 (.fldA 1) 3,LD 12 11,O1 13 .len 12,MC 14 (i6 0)]).seq (C.block 0
 ((C.ops [BI 15 .lss 14 13]).seq ((C.cond (.t 15) C.skip (C.exit 0)).seq ((C.block 1 ((C.ops [MV 16 14,MV 8 16]).seq ((C.ops [O1 17 (.load (some 4)) 3,MV 18 1,MV 19 2,MV 20 8,
 ON 21 (.call 274 true) [.t 17,.t 18,.t 19,.t 20],MV 22 8,⟨some 23,none,.bslc 3 1 1 3 [i6 0] [(0,1)],[.t 22]⟩,⟨some 24,none,.build [.nl,.nl] [(0,1),(1,1)],[.t 21,
 .t 23]⟩,⟨some 9,none,.alloc 4 89 [.nl,.nl],[]⟩,ST 2 9 24]).seq ((C.ops [MV 25 7,O1 26 (.load (some 2)) 9,ON 27 (.call 275 true) [.t 25,.t 26,.c (.fn (Fn.func 276) []
 [])],MV 10 27]).seq (((C.ops [MV 28 10,BC 29 .lss 28 (i6 0)]).seq (C.cond (.t 29) ((C.ops [MV 30 7,O1 31 (.load (some 2)) 9,⟨some 32,none,.bslc 5 2 1 89 [.nl,.nl] [(0,2)],
 [.t 31]⟩,O2 33 (.app 6 2 89 48) 30 32,MV 7 33]).seq (C.exit 1)) C.skip)).seq (C.ops [MV 34 7,MV 35 10,MV 36 7,MV 37 10,O2 38 (.idxA 2) 36 37,O1 39 (.fldA 1) 38,LD 40 39,MV
 41 8,⟨some 42,none,.bslc 7 1 1 3 [i6 0] [(0,1)],[.t 41]⟩,O2 43 (.app 8 1 3 8) 40 42,O2 44 (.idxA 2) 34 35,O1 45 (.fldA 1) 44,ST 1 45 43])))))).seq (C.ops [BC 46 .add 14
 (i6 1),MV 14 46])))).loop)).seq ((C.ops [MV 47 7,MV 6 47]).seq
 C.ret))))
theorem quO:qL Tryz.prog 232 48 9 [RV.tmp 6] qtv:=fi Tryz.f232 [3,6,7,23,9,32,33,42,43] zK [] (by kernel_rfl) (by kernel_rfl) (by kernel_rfl) (by kernel_rfl)
def qtG:C:=
 ((C.ops [O1 2 (.box 0 89) 0,O1 3 (.box 1 89) 1,MC 4 (.bool false)]).seq ((C.ops [O1 5 (.fldA 0) 2,LD 6 5,O1 7 (.fldA 0) 3,LD 8 7,O2 9 (.call 53 true) 6 8,MV 4 9]).seq
 C.ret))
theorem qu1:qL Tryz.prog 276 10 2 [RV.tmp 4] qtG:=fi Tryz.f276 [2,3] zK [] (by kernel_rfl) (by kernel_rfl) (by kernel_rfl) (by kernel_rfl)
def qtu:C:=
 ((C.ops [MC 4 (.bool false)]).seq ((C.ops [MV 5 0,MV 6 1,ON 7 (.call 272 true) [.t 5,.t 6,.c (.fn (Fn.func 273) [] [])],MV 4 7]).seq
 C.ret))
theorem quN:qL Tryz.prog 231 8 0 [RV.tmp 4] qtu:=fi Tryz.f231 [] zK [] (by kernel_rfl) (by kernel_rfl) (by kernel_rfl) (by kernel_rfl)
def qql:C:=
 ((C.ops [O1 2 (.box 0 89) 0,O1 3 (.box 1 89) 1,MC 4 (.bool false)]).seq ((C.ops [O1 5 (.fldA 0) 2,LD 6 5,O1 7 (.fldA 0) 3,LD 8 7,O2 9 (.call 53 true) 6 8,MV 10 9,P1 11 10
 true (.fldA 1) 2,P1 12 10 true (.load none) 11,P1 13 10 true (.fldA 1) 3,P1 14 10 true (.load none) 13,P2 15 10 true (.call 40 true) 12 14,PF 16 10 15,MV 4 16]).seq
 C.ret))
theorem qpv:qL Tryz.prog 273 17 2 [RV.tmp 4] qql:=fi Tryz.f273 [2,3] zK [] (by kernel_rfl) (by kernel_rfl) (by kernel_rfl) (by kernel_rfl)
def qti:C:=
 ((C.ops [O1 2 (.box 0 26) 0,O1 3 (.box 1 27) 1,⟨some 4,none,.alloc 2 4 [.bool false],[]⟩]).seq ((C.ops [MC 5 (i6 (-1))]).seq (((C.ops [LD 10 3,O1 11 .len 10,MC 12 (i6
 0)]).seq (C.block 0 ((C.ops [BI 13 .lss 12 11]).seq ((C.cond (.t 13) C.skip (C.exit 0)).seq ((C.block 1 ((C.ops [O2 14 (.idxA 3) 10 12,O1 15 (.load (some 3)) 14,⟨some 7,none,
 .alloc 3 83 [i6 0,i6 0,.nl],[]⟩,ST 3 7 15]).seq (((C.ops [O1 16 (.fldA 0) 7,LD 17 16,MV 18 5,BI 19 .leq 17 18,MV 20 19,P1 21 20 false (.fldA 0) 7,P1 22 20 false (.load
 none) 21,PC 23 20 false (.bin .lss) 22 (i6 0),PT 24 20 23,MV 25 24,P1 26 25 false (.fldA 0) 7,P1 27 25 false (.load none) 26,P1 28 25 false (.fldA 1) 7,P1 29 25 false (.load
 none) 28,P2 30 25 false (.bin .geq) 27 29,PT 31 25 30,MV 32 31,P1 33 32 false (.fldA 1) 7,P1 34 32 false (.load none) 33,P1 35 32 false (.fldA 3) 2,P1 36 32 false (.load
 none) 35,P1 37 32 false .len 36,P2 38 32 false (.bin .gtr) 34 37,PT 39 32 38,MV 40 39,P1 41 40 false (.fldA 2) 7,P1 42 40 false (.load none) 41,P1 43 40 false (.load (some
 4)) 2,P1 44 40 false (.fldA 0) 7,P1 45 40 false (.load none) 44,P1 46 40 false (.fldA 1) 7,P1 47 40 false (.load none) 46,PN 48 40 false (.call 232 true) [.t 43,.t 45,.t
 47],P2 49 40 false (.call 231 true) 42 48,P1 50 40 false (.un UnOp.not) 49,PT 51 40 50]).seq (C.cond (.t 51) ((C.ops [⟨none,none,.store 1,[.t 4,.c (.bool false)]⟩]).seq
 C.ret) C.skip)).seq (C.ops [O1 52 (.fldA 1) 7,LD 53 52,MV 5 53])))).seq (C.ops [BC 54 .add 12 (i6 1),MV 12 54])))).loop)).seq (((C.ops [O1 55 (.load (some 4)) 2,O1 56 (.call
 233 true) 55]).seq (C.block 2 (C.range (.t 56) [57,58] ((C.ops [⟨some 8,none,.alloc 4 3 [i6 0],[]⟩,ST 1 8 57]).seq (C.ops [⟨some 9,none,.alloc 5 3 [i6 0],[]⟩,ST 1 9 58]))
 (C.block 3 ((C.ops [LD 59 3,O2 60 (.mkfn (Fn.func 234) 0) 8 9,O2 61 (.call 54 true) 59 60,O1 62 (.un UnOp.not) 61]).seq (C.cond (.t 62) ((C.ops [⟨none,none,.store 1,[.t 4,.c
 (.bool false)]⟩]).seq C.ret) C.skip)))))).seq ((C.ops [⟨none,none,.store 1,[.t 4,.c (.bool true)]⟩]).seq
 C.ret)))))
theorem quz:qL Tryz.prog 177 63 6 [RV.cell 4 none] qti:=fi Tryz.f177 [2,3,4,7,8,9] zK [] (by kernel_rfl) (by kernel_rfl) (by kernel_rfl) (by kernel_rfl)
def qqh:C:=
 ((C.ops [O1 3 (.box 0 83) 0,MC 4 (.bool false)]).seq ((C.ops [O1 5 (.fldA 0) 3,LD 6 5,LD 7 1,BI 8 .leq 6 7,MV 9 8,P1 10 9 true (.load none) 2,P1 11 9 true (.fldA 1) 3,P1 12
 9 true (.load none) 11,P2 13 9 true (.bin .leq) 10 12,PF 14 9 13,MV 4 14]).seq
 C.ret))
theorem qpr:qL Tryz.prog 234 15 1 [RV.tmp 4] qqh:=fi Tryz.f234 [3] zK [] (by kernel_rfl) (by kernel_rfl) (by kernel_rfl) (by kernel_rfl)
def qp9:C:=
 ((C.ops [O1 2 (.box 0 26) 0,MC 4 (i6 0)]).seq (((C.ops [O1 5 (.load (some 4)) 2,O1 6 (.call 81 true) 5,BC 7 .neq 6 (i6 0)]).seq (C.cond (.t 7) ((C.ops [MC 4 (i6 1)]).seq C.ret)
 C.skip)).seq (((C.ops [O1 8 (.load (some 4)) 2,MV 9 1,O2 10 (.call 177 true) 8 9,O1 11 (.un UnOp.not) 10]).seq (C.cond (.t 11) ((C.ops [MC 4 (i6 20)]).seq C.ret) C.skip)).seq
 ((C.ops [MC 4 (i6 0)]).seq
 C.ret))))
theorem qph:qL Tryz.prog 111 12 1 [RV.tmp 4] qp9:=fi Tryz.f111 [2] zK [] (by kernel_rfl) (by kernel_rfl) (by kernel_rfl) (by kernel_rfl)
def qqa:C:=
 ((C.ops [O1 3 (.box 0 3) 1,MC 4 (i6 0),MC 5 (i6 0)]).seq (((C.ops [LD 6 3,BC 7 .lss 6 (i6 0)]).seq (C.cond (.t 7) ((C.ops [MC 4 (i6 0),MC 5 (i6 2)]).seq C.ret) C.skip)).seq
 ((C.ops [MV 8 0,O1 9 (.mkfn (Fn.func 178) 0) 3,O2 10 (.call 128 true) 8 9,MV 4 10,MC 5 (i6 0)]).seq
 C.ret)))
theorem qpi:qL Tryz.prog 113 11 1 [RV.tmp 4,RV.tmp 5] qqa:=fi Tryz.f113 [3] zK [] (by kernel_rfl) (by kernel_rfl) (by kernel_rfl) (by kernel_rfl)
def qqf:C:=
 ((C.ops [O1 2 (.box 0 83) 0,MC 3 (.bool false)]).seq ((C.ops [O1 4 (.fldA 0) 2,LD 5 4,LD 6 1,BI 7 .leq 5 6,MV 8 7,P1 9 8 true (.load none) 1,P1 10 8 true (.fldA 1) 2,P1 11
 8 true (.load none) 10,P2 12 8 true (.bin .lss) 9 11,PF 13 8 12,MV 3 13]).seq
 C.ret))
theorem qpp:qL Tryz.prog 178 14 1 [RV.tmp 3] qqf:=fi Tryz.f178 [2] zK [] (by kernel_rfl) (by kernel_rfl) (by kernel_rfl) (by kernel_rfl)
end
section
open Go Go.Proofs AF
def qjA:List Nat:= []
def qqb:C:=
 ((C.ops [O1 3 (.box 0 64) 0,MC 4 (.bool false)]).seq ((C.ops [O1 5 (.fldA 1) 3,LD 6 5,LD 7 1,BI 8 .eql 6 7,MV 9 8,P1 10 9 true (.fldA 0) 3,P1 11 9 true (.load none) 10,P1
 12 9 true (.load none) 2,P2 13 9 true (.bin .eql) 11 12,PF 14 9 13,MV 4 14]).seq
 C.ret))
theorem qpj:qL Tryz.prog 114 15 1 [RV.tmp 4] qqb:=fi Tryz.f114 [3] qjA [] (by kernel_rfl) (by kernel_rfl) (by kernel_rfl) (by kernel_rfl)
def zZ:C:=
 ((C.ops [O1 5 (.box 0 26) 0,O1 7 (.box 1 64) 2,O1 8 (.box 2 64) 3,MC 10 (i6 0)]).seq ((C.block 0 ((C.ops [O1 14 (.fldA 0) 7,LD 15 14,BC 16 .eql 15 (.str []),MV 17 16,P1 18
 17 false (.fldA 0) 7,P1 19 17 false (.load none) 18,P1 20 17 false .slen 19,PC 21 17 false (.bin .gtr) 20 (i6 64),PT 22 17 21,MV 13 22]).seq (C.cond (.t 13) ((C.ops [MC 10 (i6
 11)]).seq C.ret) ((C.ops [O1 24 (.fldA 1) 7,LD 25 24,BC 26 .lss 25 (i6 0),MV 27 26,P1 28 27 false (.fldA 1) 7,P1 29 27 false (.load none) 28,P1 30 27 false (.fldA 3) 5,P1 31
 27 false (.load none) 30,P1 32 27 false .len 31,P2 33 27 false (.bin .geq) 29 32,PT 34 27 33,MV 35 34,MG 36 35 false 4,P1 37 35 false (.un UnOp.not) 36,MG 38 35 false 37,P1
 39 38 true (.fldA 1) 7,P1 40 38 true (.load none) 39,P1 41 38 true (.fldA 1) 8,P1 42 38 true (.load none) 41,P2 43 38 true (.bin .lss) 40 42,QF 44 35 false 38 43,PT 45 35 44,
 MV 23 45]).seq (C.cond (.t 23) ((C.ops [MC 10 (i6 19)]).seq C.ret) ((C.ops [O1 47 (.fldA 2) 7,LD 48 47,BC 49 .lss 48 (i6 (-1)),MV 50 49,P1 51 50 false (.fldA 2) 7,P1 52 50
 false (.load none) 51,MG 53 50 false 1,P1 54 50 false .len 53,P2 55 50 false (.bin .geq) 52 54,PT 56 50 55,MV 46 56]).seq (C.cond (.t 46) ((C.ops [MC 10 (i6 20)]).seq C.ret)
 C.skip))))))).seq (((C.ops [MV 58 1,O1 59 (.fldA 1) 7,LD 60 59,O2 61 (.call 113 true) 58 60,MV 57 61,O1 62 (.ext 0) 57,O1 63 (.ext 1) 57,MV 11 62,MV 12 63]).seq ((C.ops [MV
 64 11,O1 65 (.fldA 2) 7,LD 66 65,BI 67 .neq 64 66]).seq (C.cond (.t 67) ((C.ops [MC 10 (i6 20)]).seq C.ret) C.skip))).seq (((C.ops [O1 68 (.fldA 3) 7,LD 69 68,BC 70 .lss 69
 (i6 (-1)),MV 71 70,P1 72 71 false (.fldA 2) 7,P1 73 71 false (.load none) 72,PC 74 71 false (.bin .lss) 73 (i6 0),MG 75 71 false 74,P1 76 75 true (.fldA 3) 7,P1 77 75 true
 (.load none) 76,PC 78 75 true (.bin .neq) 77 (i6 (-1)),QF 79 71 false 75 78,PT 80 71 79,MV 81 80,MG 82 81 false 4,P1 83 81 false (.un UnOp.not) 82,MG 84 81 false 83,P1 85
 84 true (.fldA 2) 7,P1 86 84 true (.load none) 85,PC 87 84 true (.bin .geq) 86 (i6 0),QF 88 81 false 84 87,MG 89 81 false 88,P1 90 89 true (.fldA 2) 7,P1 91 89 true (.load
 none) 90,P1 92 89 true (.fldA 2) 8,P1 93 89 true (.load none) 92,P2 94 89 true (.bin .eql) 91 93,QF 95 81 false 89 94,MG 96 81 false 95,P1 97 96 true (.fldA 3) 7,P1 98 96
 true (.load none) 97,P1 99 96 true (.fldA 3) 8,P1 100 96 true (.load none) 99,P2 101 96 true (.bin .neq) 98 100,QF 102 81 false 96 101,PT 103 81 102]).seq (C.cond (.t 103)
 ((C.ops [MC 10 (i6 2)]).seq C.ret) C.skip)).seq ((C.ops [MC 10 (i6 0)]).seq
 C.ret)))))
theorem zy:qL Tryz.prog 112 104 3 [RV.tmp 10] zZ:=fi Tryz.f112 [5,7,8] qjA [] (by kernel_rfl) (by kernel_rfl) (by kernel_rfl) (by kernel_rfl)
end
section
open Go Go.Proofs AF HY LN
namespace RC
set_option maxHeartbeats 8000000
theorem qxG (u:Un) (c:Int) (h:List AObj):ACalls Tryz.prog 178 [.agg (unC u),.ip [.int .i64 c]] h (.bool (decide (u.frm≤c)&&decide (c<u.to))) h:=by
 by_cases g:u.frm≤c
 ·have k1:(u.frm≤c)=True:=eq_true g
  rw [decide_eq_true g,Bool.true_and]
  refine acO qpp ?_
  simp (disch:=omega) only [qqf,List.replicate,unC,k1,go_sem]
  repeat' first
   |((first|apply qd|apply qb);exact rvk;simp only [go_sem];first|exact VLe.refl _|apply qe|apply qa|apply qf|skip)
   |with_reducible first|apply And.intro|intro _
  all_goals try exact clz
 ·have k1:(u.frm≤c)=False:=eq_false g
  rw [decide_eq_false g,Bool.false_and]
  refine acO qpp ?_
  simp (disch:=omega) only [qqf,List.replicate,unC,k1,go_sem]
  repeat' first
   |((first|apply qd|apply qb);exact rvk;simp only [go_sem];first|exact VLe.refl _|apply qe|apply qa|apply qf|skip)
   |with_reducible first|apply And.intro|intro _
  all_goals try exact clz
theorem qzN (l:List Un) (c:Int) (k v:Nat) (h:List AObj) (hk:qy k h=some (.mem v 3 [.int .i64 c])) (hl:l.length≤1000000000):
  ACalls Tryz.prog 128 [qI l,.fn (.func 178) [] [.op k v 0]] h (.int .i64 (fnU l c)) h:=by
 have hc:=qX hk
 unfold qI fnU
 refine qcD qpm l.length (fun j=>unC (l.getD j default)) (fun j=> .agg (unC (l.getD j default))) _ [] [.op k v 0] _ h (fun i _=>⟨rfl,by simp [z7,unC],rfl,rfl,rfl⟩) (fun i _=> ?_) (by omega)
 refine ACalls.borrow ?_ rfl
 have e:([AV.agg (unC (l.getD i default))]++ [AV.op k v 0]).map (rei (fun _=>true) h 8)= [.agg (unC (l.getD i default)),.ip [.int .i64 c]]:=by
  simp only [List.cons_append,List.nil_append,List.map_cons,List.map_nil,rei_op,if_true,hc,ipOf_some,List.drop_zero,rei_agg]
  rfl
 rw [List.nil_append,e]
 exact qxG _ c _
def fnR (l:List Un) (c:Int):Int:=if c<0 then 0 else fnU l c
def fnE (c:Int):Int:=if c<0 then 2 else 0
theorem qyZ (l:List Un) (c:Int) (h:List AObj) (hl:l.length≤1000000000):ACalls Tryz.prog 113 [qI l,.int .i64 c] h (.tup [.int .i64 (fnR l c),.int .i64 (fnE c)]) h:=by
 unfold fnR fnE
 by_cases g:c<0
 ·have k1:(c<0)=True:=eq_true g
  rw [if_pos g,if_pos g]
  refine acO qpi ?_
  simp (disch:=omega) only [qqa,List.replicate,k1,go_sem]
  repeat' first
   |((first|apply qd|apply qb);exact rvk;simp only [go_sem];first|exact VLe.refl _|apply qe|apply qa|apply qf|skip)
   |with_reducible first|apply And.intro|intro _
  all_goals try exact clz
 ·have k1:(c<0)=False:=eq_false g
  rw [if_neg g,if_neg g]
  have c1:=qzN l c h.length 1 (h++ [.mem 1 3 [.int .i64 c]]) (by rw [getO_app0];rfl) hl
  refine acO qpi ?_
  simp (disch:=omega) only [qqa,List.replicate,k1,go_sem]
  repeat' first
   |((first|refine cA (c1) ?_ ?_|refine cG (fun e=>c1) ?_ ?_);(next=>exact flk);simp (disch:=omega) only [k1,go_sem])
   |((first|apply qd|apply qb);exact rvk;simp only [go_sem];first|exact VLe.refl _|apply qe|apply qa|apply qf|skip)
   |with_reducible first|apply And.intro|intro _
  all_goals try exact clz
end RC
end
section
open Go Go.Proofs AF
def qaa:List Nat:= []
def qxe:C:=
 ((C.ops [MC 4 (i6 0),MC 5 (i6 0)]).seq (((C.ops [MV 9 0,O1 10 .len 9,MV 6 10]).seq (C.block 0 ((C.ops [MV 12 6,BC 13 .eql 12 (i6 0),MV 11 13]).seq (C.cond (.t 11) ((C.ops [MC
 4 (i6 0),MC 5 (i6 5)]).seq C.ret) ((C.ops [MV 15 6,BC 16 .gtr 15 (i6 16),MV 14 16]).seq (C.cond (.t 14) ((C.ops [MC 4 (i6 0),MC 5 (i6 4)]).seq C.ret) C.skip)))))).seq (((C.ops
 [MV 17 0,O1 18 .len 17,MC 19 (i6 0)]).seq (C.block 1 ((C.ops [BI 20 .lss 19 18]).seq ((C.cond (.t 20) C.skip (C.exit 1)).seq ((C.block 2 ((C.ops [MV 21 19,O2 22 (.idxA 1) 17 19,
 LD 23 22,MV 7 21,MV 8 23]).seq ((C.ops [MV 24 8,OC 25 (.call 44 true) 24 (.str [32]),MV 26 1,O2 27 (.call 43 true) 25 26,MV 28 27,MG 29 28 true 1,PC 30 28 true (.bin .neq)
 29 (.str []),PF 31 28 30]).seq (C.cond (.t 31) ((C.ops [MV 32 7,MV 4 32,MC 5 (i6 0)]).seq C.ret) C.skip)))).seq (C.ops [BC 33 .add 19 (i6 1),MV 19 33])))).loop)).seq ((C.ops
 [MV 34 0,O1 35 .len 34,BC 36 .sub 35 (i6 1),MV 4 36,MC 5 (i6 0)]).seq
 C.ret))))
theorem qq6:qL Tryz.prog 27 37 0 [RV.tmp 4,RV.tmp 5] qxe:=fi Tryz.f27 [] qaa [] (by kernel_rfl) (by kernel_rfl) (by kernel_rfl) (by kernel_rfl)
def qxt:C:=
 ((C.ops [O1 3 (.box 0 3) 1,MC 4 (i6 0),MC 5 (i6 0),MC 6 (i6 0)]).seq ((C.ops [O1 10 (.mkfn (Fn.func 105) 0) 3,MV 7 10]).seq ((C.ops [MV 11 0,MV 12 7,O2 13 (.call 106 true) 11
 12,MV 8 13]).seq (((C.ops [MV 14 8,BC 15 .lss 14 (i6 0)]).seq (C.cond (.t 15) ((C.ops [MC 4 (i6 0),MC 5 (i6 0),MC 6 (i6 6)]).seq C.ret) C.skip)).seq ((C.ops [MV 16 8,MV 9
 16]).seq ((C.block 0 (((C.ops [MV 17 9,MV 18 0,O1 19 .len 18,BI 20 .lss 17 19,MV 21 20,MG 22 21 true 7,MG 23 21 true 0,MG 24 21 true 9,P2 25 21 true (.idxA 7) 23 24,P1 26
 21 true (.load (some 7)) 25,P2 27 21 true .callv 22 26,PF 28 21 27]).seq (C.cond (.t 28) C.skip (C.exit 0))).seq (C.block 1 (C.ops [MV 29 9,BC 30 .add 29 (i6 1),MV 9
 30]))).loop).seq (((C.ops [MV 31 0,MV 32 9,O2 33 (.slc 7 true false) 31 32,MV 34 7,O2 35 (.call 92 true) 33 34]).seq (C.cond (.t 35) ((C.ops [MC 4 (i6 0),MC 5 (i6 0),MC 6 (i6
 10)]).seq C.ret) C.skip)).seq ((C.ops [MV 36 8,MV 37 9,MV 4 36,MV 5 37,MC 6 (i6 0)]).seq
 C.ret))))))))
theorem qvf:qL Tryz.prog 31 38 1 [RV.tmp 4,RV.tmp 5,RV.tmp 6] qxt:=fi Tryz.f31 [3] qaa [] (by kernel_rfl) (by kernel_rfl) (by kernel_rfl) (by kernel_rfl)
def qs9:C:=
 ((C.ops [O1 2 (.box 0 64) 0,MC 3 (.bool false)]).seq ((C.ops [O1 4 (.fldA 2) 2,LD 5 4,LD 6 1,BI 7 .eql 5 6,MV 3 7]).seq
 C.ret))
theorem qun:qL Tryz.prog 105 8 1 [RV.tmp 3] qs9:=fi Tryz.f105 [2] qaa [] (by kernel_rfl) (by kernel_rfl) (by kernel_rfl) (by kernel_rfl)
def qqe:C:=
 ((C.ops [O1 5 (.box 0 83) 2,MC 6 (i6 0),MC 7 (i6 0)]).seq (((C.ops [MV 15 0,MV 16 1,O2 17 (.call 31 true) 15 16,MV 14 17,O1 18 (.ext 0) 14,O1 19 (.ext 1) 14,O1 20 (.ext 2)
 14,MV 8 18,MV 9 19,MV 10 20]).seq ((C.ops [MV 21 10,BC 22 .eql 21 (i6 0)]).seq (C.cond (.t 22) ((C.ops [MV 23 8,MV 24 9,MV 6 23,MV 7 24]).seq C.ret) C.skip))).seq ((C.ops
 [MC 11 (i6 0)]).seq (((C.ops [MV 25 0,O1 26 .len 25,MC 27 (i6 0)]).seq (C.block 0 ((C.ops [BI 28 .lss 27 26]).seq ((C.cond (.t 28) C.skip (C.exit 0)).seq ((C.block 1 ((C.ops [O2
 29 (.idxA 7) 25 27,O1 30 (.load (some 7)) 29,⟨some 13,none,.alloc 1 64 [.str [],i6 0,i6 0,i6 0,.bool false,.bool false,.str []],[]⟩,ST 7 13 30]).seq ((C.ops [O1 31
 (.fldA 1) 13,LD 32 31,O1 33 (.fldA 0) 5,LD 34 33,BI 35 .lss 32 34]).seq (C.cond (.t 35) (C.ops [MV 36 11,BC 37 .add 36 (i6 1),MV 11 37]) C.skip)))).seq (C.ops [BC 38 .add 27
 (i6 1),MV 27 38])))).loop)).seq ((C.ops [MV 39 11,MV 40 11,MV 6 39,MV 7 40]).seq
 C.ret)))))
theorem qpo:qL Tryz.prog 160 41 2 [RV.tmp 6,RV.tmp 7] qqe:=fi Tryz.f160 [5,13] qaa [] (by kernel_rfl) (by kernel_rfl) (by kernel_rfl) (by kernel_rfl)
def qtf:C:=
 ((C.ops [O1 5 (.box 0 83) 0,O1 6 (.box 1 22) 1,O1 7 (.box 2 22) 2,O1 8 (.box 3 22) 3,O1 9 (.box 4 3) 4,MC 10 .nilfn]).seq ((C.ops [ON 11 (.mkfn (Fn.func 215) 0) [.t 5,.t 8,
 .t 6,.t 9,.t 7],MV 10 11]).seq
 C.ret))
theorem quw:qL Tryz.prog 161 12 5 [RV.tmp 10] qtf:=fi Tryz.f161 [5,6,7,8,9] qaa [] (by kernel_rfl) (by kernel_rfl) (by kernel_rfl) (by kernel_rfl)
def qts:C:=
 ((C.ops [O1 11 (.fldA 2) 1,LD 12 11,O1 13 .len 12,MC 14 (i6 0)]).seq (C.block 0 ((C.ops [BI 15 .lss 14 13]).seq ((C.cond (.t 15) C.skip (C.exit 0)).seq ((C.block 1 ((C.ops [MV
 16 14,O2 17 (.idxA 2) 12 14,O1 18 (.load (some 2)) 17,⟨some 8,none,.alloc 0 89 [.nl,.nl],[]⟩,MV 7 16,ST 2 8 18]).seq ((C.ops [LD 20 2,LD 21 3,MV 22 7,O2 23 (.idxA 1) 21
 22,LD 24 23,O2 25 (.call 27 true) 20 24,MV 19 25,O1 26 (.ext 0) 19,O1 27 (.ext 1) 19,MV 9 26,MV 10 27]).seq ((C.ops [MV 28 9,LD 29 4,BI 30 .eql 28 29,MV 31 30,P1 32 31
 true (.fldA 0) 8,P1 33 31 true (.load none) 32,P1 34 31 true (.load none) 5,P2 35 31 true (.call 139 true) 33 34,P1 36 31 true (.un UnOp.not) 35,PF 37 31 36,MV 38 37,MG 39
 38 true 0,P1 40 38 true (.load (some 2)) 8,P2 41 38 true .callv 39 40,P1 42 38 true (.un UnOp.not) 41,PF 43 38 42]).seq (C.cond (.t 43) C.ret C.skip))))).seq (C.ops [BC 44 .add
 14 (i6 1),MV 14
 44])))).loop))
theorem quL:qL Tryz.prog 215 45 1 [] qts:=fi Tryz.f215 [8] qaa [] (by kernel_rfl) (by kernel_rfl) (by kernel_rfl) (by kernel_rfl)
def qtg:C:=
 ((C.ops [O1 2 (.box 0 89) 0,MC 3 (.bool false)]).seq ((C.ops [O1 4 (.fldA 0) 2,LD 5 4,LD 6 1,O2 7 (.call 139 true) 5 6,MV 3 7]).seq
 C.ret))
theorem qux:qL Tryz.prog 162 8 1 [RV.tmp 3] qtg:=fi Tryz.f162 [2] qaa [] (by kernel_rfl) (by kernel_rfl) (by kernel_rfl) (by kernel_rfl)
end
