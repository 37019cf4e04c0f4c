import Derived.Test.YthlgfjbghnildaaGreatDoorK8
set_option linter.all false
set_option linter.unusedSimpArgs false
set_option linter.unusedVariables false
set_option linter.unusedSectionVars false
set_option maxRecDepth 100000
section
open Go Go.Proofs AF HY LN
namespace RC
set_option maxHeartbeats 4000000
structure Va where
 words:List Str
 sigla:List Str
 deriving Inhabited
structure En where
 layer:Int
 frm:Int
 to:Int
 pos:Bool
 sup:List Str
 vars:List Va
 deriving Inhabited
def vaC (v:Va):List AV:= [strs v.words,strs v.sigla]
def qB (vs:List Va):AV:= .sl vs.length fun i=>vaC (vs.getD i default)
def enC (e:En):List AV:= [.int .i64 e.layer,.int .i64 e.frm,.int .i64 e.to,.bool e.pos,strs e.sup,qB e.vars]
def qy (l:List En):AV:= .sl l.length fun i=>enC (l.getD i default)
theorem qj9 (L:List Va):(qB L).flag=true:=rfl
theorem qh1 (L:List Va):(qB L).strip=qB L:=rfl
theorem qnS {fz:Nat→Bool} {h:List AObj} {n:Nat} (L:List Va):frz fz h (n+1) (qB L)=qB L:=rfl
theorem qoI {fz:Nat→Bool} {h:List AObj} {n:Nat} (L:List Va):rei fz h (n+1) (qB L)=qB L:=rfl
theorem qj5 (L:List En):(qy L).flag=true:=rfl
theorem qhX (L:List En):(qy L).strip=qy L:=rfl
theorem qnP {fz:Nat→Bool} {h:List AObj} {n:Nat} (L:List En):frz fz h (n+1) (qy L)=qy L:=rfl
theorem qoF {fz:Nat→Bool} {h:List AObj} {n:Nat} (L:List En):rei fz h (n+1) (qy L)=qy L:=rfl
attribute [go_sem] qj9 qh1 qnS qoI qj5 qhX qnP qoF
theorem qxZ (ws:List Str) (m:Nat) (k:Nat→Str) (h:List AObj) (h1:ws.length≤1000000000) (h2:m≤1000000000):
  qm Tryz.prog 22 [strs ws,.sl m (fun j=> [.str (k j)])] h (.bool (decide (ws.length=m∧ ∀i,i<ws.length→ws.getD i []=k i))) h:=by
 unfold strs
 have:=qxY qvg ws.length m (fun j=> .s (ws.getD j [])) (fun j=> .s (k j)) h (fun _ _ _=>rfl) (by omega) (by omega)
 simpa only [At.v,At.s.injEq] using this
theorem qwn (ws:List Str) (m:Nat) (k:Nat→Str) (h:List AObj) (h1:ws.length≤1000000000) (h2:m≤1000000000):
  qm Tryz.prog 117 [strs ws,.sl m (fun j=> [.str (k j)])] h (.bool (decide (ws.length=m∧ ∀i,i<ws.length→ws.getD i []=k i))) h:=by
 have c22:=fun h=>qxZ ws m k h h1 h2
 refine acO quM ?_
 simp (disch:=omega) only [qtI,List.replicate,go_sem]
 repeat' first
  |((first|refine cA (c22 _) ?_ ?_|refine cG (fun e=>c22 _) ?_ ?_|refine cU (fun _=>c22 _) ?_ ?_);(next=>exact flk);simp (disch:=omega) only [go_sem])
  |((first|apply qc|apply qb);exact rvk;simp only [go_sem];first|exact VLe.refl _|apply qd|apply qa|apply qe|skip)
  |with_reducible first|refine And.intro ?_ ?_|intro _
 all_goals try exact clz
theorem qah {α:Type} [Inhabited α] {a b:List α} (d:α):a=b↔a.length=b.length∧ ∀i,i<a.length→a.getD i d=b.getD i d:=by
 constructor
 ·rintro rfl;exact ⟨rfl,fun _ _=>rfl⟩
 ·rintro ⟨h1,h2⟩
  apply List.ext_getElem h1
  intro i h3 h4
  have:=h2 i h3
  rw [gdqA,gdqA,qR h3,qR h4]at this
  exact this
def j8 (t:List Str) (f g:Nat):List Str:=(t.drop f).take (g-f)
theorem qbV {t:List Str} {f g:Nat} (h1:f≤g) (h2:g≤t.length):(j8 t f g).length=g-f:=by unfold j8;simp;omega
theorem qgD {t:List Str} {f g i:Nat} (h1:f≤g) (h2:g≤t.length) (hi:i<g-f):(j8 t f g).getD i []=t.getD (f+i) []:=by
 unfold j8
 rw [gdqA,List.getElem?_take,if_pos hi,List.getElem?_drop,←gdqA]
theorem qgw {ws t:List Str} {f g:Nat} (h1:f≤g) (h2:g≤t.length):decide (ws.length=g-f∧ ∀i,i<ws.length→ws.getD i []=t.getD (f+i) [])=decide (ws=j8 t f g):=by
 refine decide_eq_decide.2 ?_
 rw [qah (b:=j8 t f g) ([]:Str),qbV h1 h2]
 constructor
 ·rintro ⟨p,q⟩;exact ⟨p,fun i hi=>by rw [q i hi,qgD h1 h2 (by omega)]⟩
 ·rintro ⟨p,q⟩;exact ⟨p,fun i hi=>by rw [q i hi,qgD h1 h2 (by omega)]⟩
theorem qAl (x:Va) (y:List Str) (c:AV) (h:List AObj) (h1:y.length≤1000000000) (h2:x.words.length≤1000000000):qm Tryz.prog 119 [.agg (vaC x),.ip [strs y,c]] h (.bool (decide (y=x.words))) h:=by
 have c117:=fun h=>qwn y x.words.length (fun j=>x.words.getD j []) h h1 h2
 have e:decide (y.length=x.words.length∧ ∀i,i<y.length→y.getD i []=x.words.getD i [])=decide (y=x.words):=decide_eq_decide.2 (qah ([]:Str)).symm
 rw [e]at c117
 have e2:AV.sl x.words.length (fun j=> [AV.str (x.words.getD j [])])=strs x.words:=rfl
 rw [e2]at c117
 refine acO quO ?_
 simp (disch:=omega) only [qtJ,List.replicate,vaC,go_sem]
 repeat' first
  |((first|refine cA (c117 _) ?_ ?_|refine cG (fun e=>c117 _) ?_ ?_|refine cU (fun _=>c117 _) ?_ ?_);(next=>exact flk);simp (disch:=omega) only [vaC,go_sem])
  |((first|apply qc|apply qb);exact rvk;simp only [go_sem];first|exact VLe.refl _|apply qd|apply qa|apply qe|skip)
  |with_reducible first|refine And.intro ?_ ?_|intro _
 all_goals try exact clz
theorem qAh (n:Nat) (vs:List Va) (y:List Str) (k v:Nat) (c:AV) (h:List AObj) (hk:qA k h=some (.mem v 51 [strs y,c])) (hn:n≤vs.length) (hl:vs.length≤1000000000) (h1:y.length≤1000000000) (h2: ∀i,(vs.getD i default).words.length≤1000000000):
  qm Tryz.prog 118 [.sl n (fun j=>vaC (vs.getD j default)),.fn (.func 119) [] [.op k v 0]] h (.bool (zS (fun j=>decide (y=(vs.getD j default).words)) n)) h:=by
 have hc:=zJ hk
 refine qqR quN ⟨rfl,rfl⟩ ⟨rfl,rfl⟩ (qe9 quX n (fun j=>vaC (vs.getD j default)) (fun j=> .agg (vaC (vs.getD j default))) _ [] [.op k v 0] _ h (fun i _=>⟨rfl,by simp [jv,vaC],rfl,rfl,rfl⟩) (fun i _=> ?_) (by omega))
 refine qm.borrow ?_ rfl
 have e:([AV.agg (vaC (vs.getD i default))]++ [AV.op k v 0]).map (rei (fun _=>true) h 8)= [.agg (vaC (vs.getD i default)),.ip [strs y,rei (fun _=>true) h 7 c]]:=by
  simp only [List.cons_append,List.nil_append,List.map_cons,List.map_nil,rei_op,if_true,hc,ipOf_some,List.drop_zero,rei_agg]
  rfl
 rw [List.nil_append,e]
 exact qAl _ y _ _ h1 (h2 i)
def qbG (t:List Str) (e:En) (i:Nat):Int:=
 if jO (e.vars.getD i default).words≠0 then 11 else if (e.vars.getD i default).words=j8 t e.frm.toNat e.to.toNat then 9 else
  if zS (fun j=>decide ((e.vars.getD i default).words=(e.vars.getD j default).words)) i=true then 7 else if (e.vars.getD i default).sigla.length=0 then 5 else 0
def cnt (names:List Str) (gs:List Gr) (e:En):Nat→List Int
 |0=>qb1 (List.replicate 32 0) (zg names gs e.sup)
 |i+1=>qb1 (cnt names gs e i) (zg names gs (e.vars.getD i default).sigla)
def qh5 (C:List Int):Bool:=zS (fun i=>decide (1<C.getD i 0)) C.length
def qin (t:List Str) (e:En):Prop:=e.layer<0∨16≤e.layer∨e.frm<0∨e.to<e.frm∨(t.length:Int)<e.to
instance (t:List Str) (e:En):Decidable (qin t e):=by unfold qin;infer_instance
def kX (names:List Str) (gs:List Gr) (t:List Str) (e:En):Int:=
 if sgE names gs≠0 then 1 else if 4096<t.length then 4 else if jO t≠0 then 11 else if qin t e then 2 else
  if 0<e.sup.length∧e.pos=false then 1 else if e.vars.length=0 then 5 else
   if qab (qbG t e) 0 e.vars.length≠0 then qab (qbG t e) 0 e.vars.length else
    if ji names gs e.sup≠0 then ji names gs e.sup else
     if qab (fun i=>ji names gs (e.vars.getD i default).sigla) 0 e.vars.length≠0 then qab (fun i=>ji names gs (e.vars.getD i default).sigla) 0 e.vars.length else
      if qh5 (cnt names gs e e.vars.length)=true then 17 else 0
structure TSz (t:List Str):Prop where
 n:t.length≤1000000000
 s: ∀j,(t.getD j []).length≤1000000000
structure ESz (e:En):Prop where
 sup:e.sup.length≤1000000000
 vs:e.vars.length≤1000000000
 w: ∀i,TSz (e.vars.getD i default).words
 sg: ∀i,(e.vars.getD i default).sigla.length≤1000000000
theorem qc5 (names:List Str) (gs:List Gr) (e:En): ∀i,(cnt names gs e i).length=32:=by
 intro i
 induction i with
 |zero=>unfold cnt;rw [qbK];simp
 |succ i ih=>unfold cnt;rw [qbK,ih]
theorem qjJ (names:List Str) (gs:List Gr) (e:En): ∀i j:Nat,0≤(cnt names gs e i).getD j 0∧(cnt names gs e i).getD j 0≤64*((i:Int)+1):=by
 intro i
 induction i with
 |zero=>
  intro j
  unfold cnt
  have:=qc3 (C:=List.replicate 32 0) (L:=zg names gs e.sup) (B:=0) (fun i=>by
   rw [gdqA,List.getElem?_replicate]
   split<;>simp) _ (Nat.le_refl _) j
  rw [List.take_length]at this
  have h2:= @qbN names gs e.sup
  omega
 |succ i ih=>
  intro j
  unfold cnt
  have:=qc3 (C:=cnt names gs e i) (L:=zg names gs (e.vars.getD i default).sigla) (B:=64*((i:Int)+1)) ih _ (Nat.le_refl _) j
  rw [List.take_length]at this
  have h2:= @qbN names gs (e.vars.getD i default).sigla
  omega
end RC
end
section
open Go Go.Proofs AF HY LN
namespace RC
set_option maxHeartbeats 8000000
theorem _root_.AF.Wk.kill3 {t:List AV} {h l:List AObj} {a b c:AObj} {v:Nat} {ty:TypeId} {cs:List AV}:Wk t (h++a::b::c:: .mem v ty cs::l) t (h++a::b::c:: .emp (v+1)::l):=by
 have:=Wk.kill0 (t:=t) (h:=h++ [a,b,c]) (l:=l) (v:=v) (ty:=ty) (cs:=cs)
 simpa using this
theorem qAj (names:List Str) (gs:List Gr) (t:List Str) (e:En) (h:List AObj) (hz:Szs names gs) (ht:TSz t) (he:ESz e) (hp:ku SG h):
  qm Tryz.prog 78 [strs names,qu gs,strs t,.agg (enC e)] h (.int .i64 (kX names gs t e)) h:=by
 have c59:=fun h=>sgP names gs h hz
 have cw:=fun l=>qz7 t (h++l) ht.n ht.s (hp.app l)
 have t1:=ht.n
 obtain ⟨R,hR⟩: ∃R,R=kX names gs t e:=⟨_,rfl⟩
 rw [←hR]
 unfold kX at hR
 obtain ⟨s,hs⟩: ∃s,s=sgE names gs:=⟨_,rfl⟩
 rw [←hs]at c59 hR
 obtain ⟨w,hw⟩: ∃w,w=jO t:=⟨_,rfl⟩
 rw [←hw]at cw hR
 by_cases g0:s≠0
 ·have k0:(s=0)=False:=eq_false g0
  rw [if_pos g0]at hR
  rw [hR]
  refine acO qbA ?_
  simp (disch:=omega) only [qgR,List.replicate,enC,go_sem]
  repeat' first
   |((first|refine cA (c59 _) ?_ ?_|refine cG (fun e=>c59 _) ?_ ?_|refine cU (fun _=>c59 _) ?_ ?_);(next=>exact flk);simp (disch:=omega) only [k0,go_sem])
   |((first|apply qc|apply qb);exact rvk;simp only [go_sem];first|exact VLe.refl _|apply qd|apply qa|apply qe|skip)
   |with_reducible first|refine And.intro ?_ ?_|intro _
  all_goals try exact clz
 have g0:s=0:=Classical.not_not.1 g0
 have k0:(s=0)=True:=eq_true g0
 rw [if_neg (fun hc=>hc g0)]at hR
 by_cases g1:4096<t.length
 ·have k1:((4096:Int)<t.length)=True:=eq_true (by omega)
  rw [if_pos g1]at hR
  rw [hR]
  refine acO qbA ?_
  simp (disch:=omega) only [qgR,List.replicate,enC,strs,go_sem]
  unfold strs at c59
  repeat' first
   |((first|refine cA (c59 _) ?_ ?_|refine cG (fun e=>c59 _) ?_ ?_|refine cU (fun _=>c59 _) ?_ ?_);(next=>exact flk);simp (disch:=omega) only [k0,k1,strs,go_sem])
   |((first|apply qc|apply qb);exact rvk;simp only [go_sem];first|exact VLe.refl _|apply qd|apply qa|apply qe|skip)
   |with_reducible first|refine And.intro ?_ ?_|intro _
  all_goals try exact clz
 have k1:((4096:Int)<t.length)=False:=eq_false (by omega)
 rw [if_neg g1]at hR
 unfold strs at c59 cw
 by_cases g2:w≠0
 ·have k2:(w=0)=False:=eq_false g2
  rw [if_pos g2]at hR
  rw [hR]
  refine acO qbA ?_
  simp (disch:=omega) only [qgR,List.replicate,enC,strs,go_sem]
  repeat' first
   |((first|refine cA (c59 _) ?_ ?_|refine cG (fun e=>c59 _) ?_ ?_|refine cA (cw _) ?_ ?_|refine cG (fun e=>cw _) ?_ ?_|refine cU (fun _=>c59 _) ?_ ?_|refine cU (fun _=>cw _) ?_ ?_);(next=>exact flk);simp (disch:=omega) only [k0,k1,k2,strs,go_sem])
   |((first|apply qc|apply qb);exact rvk;simp only [go_sem];first|exact VLe.refl _|apply qd|apply qa|apply qe|skip)
   |with_reducible first|refine And.intro ?_ ?_|intro _
  all_goals try exact clz
 have g2:w=0:=Classical.not_not.1 g2
 have k2:(w=0)=True:=eq_true g2
 rw [if_neg (fun hc=>hc g2)]at hR
 by_cases g3:qin t e
 ·rw [if_pos g3]at hR
  rw [hR]
  by_cases a1:e.layer<0
  ·have q1:(e.layer<0)=True:=eq_true a1
   refine acO qbA ?_
   simp (disch:=omega) only [qgR,List.replicate,enC,strs,go_sem]
   repeat' first
    |((first|refine cA (c59 _) ?_ ?_|refine cG (fun e=>c59 _) ?_ ?_|refine cA (cw _) ?_ ?_|refine cG (fun e=>cw _) ?_ ?_|refine cU (fun _=>c59 _) ?_ ?_|refine cU (fun _=>cw _) ?_ ?_);(next=>exact flk);simp (disch:=omega) only [k0,k1,k2,strs,q1,go_sem])
    |((first|apply qc|apply qb);exact rvk;simp only [go_sem];first|exact VLe.refl _|apply qd|apply qa|apply qe|skip)
    |with_reducible first|refine And.intro ?_ ?_|intro _
   all_goals try exact clz
  have q1:(e.layer<0)=False:=eq_false a1
  by_cases a2:16≤e.layer
  ·have q2:(16≤e.layer)=True:=eq_true a2
   refine acO qbA ?_
   simp (disch:=omega) only [qgR,List.replicate,enC,strs,go_sem]
   repeat' first
    |((first|refine cA (c59 _) ?_ ?_|refine cG (fun e=>c59 _) ?_ ?_|refine cA (cw _) ?_ ?_|refine cG (fun e=>cw _) ?_ ?_|refine cU (fun _=>c59 _) ?_ ?_|refine cU (fun _=>cw _) ?_ ?_);(next=>exact flk);simp (disch:=omega) only [k0,k1,k2,strs,q1,q2,go_sem])
    |((first|apply qc|apply qb);exact rvk;simp only [go_sem];first|exact VLe.refl _|apply qd|apply qa|apply qe|skip)
    |with_reducible first|refine And.intro ?_ ?_|intro _
   all_goals try exact clz
  have q2:(16≤e.layer)=False:=eq_false a2
  by_cases a3:e.frm<0
  ·have q3:(e.frm<0)=True:=eq_true a3
   refine acO qbA ?_
   simp (disch:=omega) only [qgR,List.replicate,enC,strs,go_sem]
   repeat' first
    |((first|refine cA (c59 _) ?_ ?_|refine cG (fun e=>c59 _) ?_ ?_|refine cA (cw _) ?_ ?_|refine cG (fun e=>cw _) ?_ ?_|refine cU (fun _=>c59 _) ?_ ?_|refine cU (fun _=>cw _) ?_ ?_);(next=>exact flk);simp (disch:=omega) only [k0,k1,k2,strs,q1,q2,q3,go_sem])
    |((first|apply qc|apply qb);exact rvk;simp only [go_sem];first|exact VLe.refl _|apply qd|apply qa|apply qe|skip)
    |with_reducible first|refine And.intro ?_ ?_|intro _
   all_goals try exact clz
  have q3:(e.frm<0)=False:=eq_false a3
  by_cases a4:e.to<e.frm
  ·have q4:(e.to<e.frm)=True:=eq_true a4
   refine acO qbA ?_
   simp (disch:=omega) only [qgR,List.replicate,enC,strs,go_sem]
   repeat' first
    |((first|refine cA (c59 _) ?_ ?_|refine cG (fun e=>c59 _) ?_ ?_|refine cA (cw _) ?_ ?_|refine cG (fun e=>cw _) ?_ ?_|refine cU (fun _=>c59 _) ?_ ?_|refine cU (fun _=>cw _) ?_ ?_);(next=>exact flk);simp (disch:=omega) only [k0,k1,k2,strs,q1,q2,q3,q4,go_sem])
    |((first|apply qc|apply qb);exact rvk;simp only [go_sem];first|exact VLe.refl _|apply qd|apply qa|apply qe|skip)
    |with_reducible first|refine And.intro ?_ ?_|intro _
   all_goals try exact clz
  have q4:(e.to<e.frm)=False:=eq_false a4
  have q5:((t.length:Int)<e.to)=True:=eq_true (by unfold qin at g3;omega)
  refine acO qbA ?_
  simp (disch:=omega) only [qgR,List.replicate,enC,strs,go_sem]
  repeat' first
   |((first|refine cA (c59 _) ?_ ?_|refine cG (fun e=>c59 _) ?_ ?_|refine cA (cw _) ?_ ?_|refine cG (fun e=>cw _) ?_ ?_|refine cU (fun _=>c59 _) ?_ ?_|refine cU (fun _=>cw _) ?_ ?_);(next=>exact flk);simp (disch:=omega) only [k0,k1,k2,strs,q1,q2,q3,q4,q5,go_sem])
   |((first|apply qc|apply qb);exact rvk;simp only [go_sem];first|exact VLe.refl _|apply qd|apply qa|apply qe|skip)
   |with_reducible first|refine And.intro ?_ ?_|intro _
  all_goals try exact clz
 rw [if_neg g3]at hR
 unfold qin at g3
 have q1:(e.layer<0)=False:=eq_false (by omega)
 have q2:(16≤e.layer)=False:=eq_false (by omega)
 have q3:(e.frm<0)=False:=eq_false (by omega)
 have q4:(e.to<e.frm)=False:=eq_false (by omega)
 have q5:((t.length:Int)<e.to)=False:=eq_false (by omega)
 by_cases g4:0<e.sup.length∧e.pos=false
 ·have q6:((0:Int)<e.sup.length)=True:=eq_true (by omega)
  have q7:=g4.2
  rw [if_pos g4]at hR
  rw [hR]
  refine acO qbA ?_
  simp (disch:=omega) only [qgR,List.replicate,enC,strs,q7,go_sem]
  repeat' first
   |((first|refine cA (c59 _) ?_ ?_|refine cG (fun e=>c59 _) ?_ ?_|refine cA (cw _) ?_ ?_|refine cG (fun e=>cw _) ?_ ?_|refine cU (fun _=>c59 _) ?_ ?_|refine cU (fun _=>cw _) ?_ ?_);(next=>exact flk);simp (disch:=omega) only [k0,k1,k2,strs,q1,q2,q3,q4,q5,q6,q7,go_sem])
   |((first|apply qc|apply qb);exact rvk;simp only [go_sem];first|exact VLe.refl _|apply qd|apply qa|apply qe|skip)
   |with_reducible first|refine And.intro ?_ ?_|intro _
  all_goals try exact clz
 rw [if_neg g4]at hR
 by_cases g5:e.vars.length=0
 ·have q8:((e.vars.length:Int)=0)=True:=eq_true (by omega)
  rw [if_pos g5]at hR
  rw [hR]
  by_cases g6:0<e.sup.length
  ·have q6:((0:Int)<e.sup.length)=True:=eq_true (by omega)
   have q7:e.pos=true:=by
    cases hq:e.pos with
    |true=>rfl
    |false=>exact absurd ⟨g6,hq⟩ g4
   refine acO qbA ?_
   simp (disch:=omega) only [qgR,List.replicate,enC,strs,qB,q7,go_sem]
   repeat' first
    |((first|refine cA (c59 _) ?_ ?_|refine cG (fun e=>c59 _) ?_ ?_|refine cA (cw _) ?_ ?_|refine cG (fun e=>cw _) ?_ ?_|refine cU (fun _=>c59 _) ?_ ?_|refine cU (fun _=>cw _) ?_ ?_);(next=>exact flk);simp (disch:=omega) only [k0,k1,k2,strs,qB,q1,q2,q3,q4,q5,q6,q7,q8,go_sem])
    |((first|apply qc|apply qb);exact rvk;simp only [go_sem];first|exact VLe.refl _|apply qd|apply qa|apply qe|skip)
    |with_reducible first|refine And.intro ?_ ?_|intro _
   all_goals try exact clz
  ·have q6:((0:Int)<e.sup.length)=False:=eq_false (by omega)
   refine acO qbA ?_
   simp (disch:=omega) only [qgR,List.replicate,enC,strs,qB,go_sem]
   repeat' first
    |((first|refine cA (c59 _) ?_ ?_|refine cG (fun e=>c59 _) ?_ ?_|refine cA (cw _) ?_ ?_|refine cG (fun e=>cw _) ?_ ?_|refine cU (fun _=>c59 _) ?_ ?_|refine cU (fun _=>cw _) ?_ ?_);(next=>exact flk);simp (disch:=omega) only [k0,k1,k2,strs,qB,q1,q2,q3,q4,q5,q6,q8,go_sem])
    |((first|apply qc|apply qb);exact rvk;simp only [go_sem];first|exact VLe.refl _|apply qd|apply qa|apply qe|skip)
    |with_reducible first|refine And.intro ?_ ?_|intro _
   all_goals try exact clz
 have q8:((e.vars.length:Int)=0)=False:=eq_false (by omega)
 rw [if_neg g5]at hR
 obtain ⟨C0,hC0⟩: ∃C0:List AV,C0= [.int .i64 e.layer,.int .i64 e.frm,.int .i64 e.to,.bool e.pos,strs e.sup,qB e.vars]:=⟨_,rfl⟩
 obtain ⟨fr,hfr⟩: ∃fr:Nat,e.frm=fr:=⟨e.frm.toNat,by omega⟩
 obtain ⟨tt,htt⟩: ∃tt:Nat,e.to=tt:=⟨e.to.toNat,by omega⟩
 obtain ⟨E1,hE1⟩: ∃E1:AObj,E1= .mem 1 49 [.int .i64 e.layer,.int .i64 e.frm,.int .i64 e.to,.bool e.pos,strs e.sup,qB e.vars]:=⟨_,rfl⟩
 refine acO qbA ?_
 simp (disch:=omega) only [qgR,List.replicate,enC,strs,qB,go_sem]
 repeat' first
  |((first|refine cA (c59 _) ?_ ?_|refine cG (fun e=>c59 _) ?_ ?_|refine cA (cw _) ?_ ?_|refine cG (fun e=>cw _) ?_ ?_|refine cU (fun _=>c59 _) ?_ ?_|refine cU (fun _=>cw _) ?_ ?_);(next=>exact flk);simp (disch:=omega) only [k0,k1,k2,strs,qB,q1,q2,q3,q4,q5,q8,go_sem])
  |((first|apply qc|apply qb);exact rvk;simp only [go_sem];first|exact VLe.refl _|apply qd|apply qa|apply qe|skip)
  |with_reducible first|refine And.intro ?_ ?_|intro _
 all_goals try exact clz
 ·rename_i hx;exact absurd ⟨by omega,hx.2⟩ g4
 refine qn (T:=fun i:Nat×Nat=>qI 134 [(0,strs names),(1,qu gs),(2,strs t),(7,.op h.length 1 0),(73,qB e.vars),(74,.int .i64 e.vars.length),(75,.int .i64 i.1)])
  (H:=fun i=>h++ [.mem 1 49 [.int .i64 e.layer,.int .i64 e.frm,.int .i64 e.to,.bool e.pos,strs e.sup,qB e.vars],.emp i.2,.emp 0,.emp 0])
  (inv:=fun i=>i.1≤e.vars.length∧ ∀j,j<i.1→qbG t e j=0) (m:=fun i=>e.vars.length-i.1) (0,0) ⟨Nat.zero_le _,fun j hj=>absurd hj (Nat.not_lt_zero j)⟩ (Wk.temps ?_) ?_
 ·(simp only [strs,qB,List.replicate,go_sem,qj,qh,qg,qi];try (repeat' first|(with_reducible refine And.intro ?_ ?_)|(apply qd;omega)|(apply qa;rfl)|exact VLe.refl _))
 rintro ⟨i,v⟩ ⟨i1,i2⟩ K hK
 simp only at i1 i2 hK
 have z2:=he.vs
 by_cases hi:i<e.vars.length
 ·have r1:((i:Int)<e.vars.length)=True:=eq_true (by omega)
  have r2:((i:Int)≤e.vars.length)=True:=eq_true (by omega)
  have r3:(0≤(fr:Int))=True:=eq_true (by omega)
  have r4:((fr:Int)≤tt)=True:=eq_true (by omega)
  have r5:((tt:Int)≤t.length)=True:=eq_true (by omega)
  have hE:=qP (f:=qbG t e) hi i2
  have hv:qbG t e i=if jO (e.vars.getD i default).words≠0 then 11 else if (e.vars.getD i default).words=j8 t e.frm.toNat e.to.toNat then 9 else
   if zS (fun j=>decide ((e.vars.getD i default).words=(e.vars.getD j default).words)) i=true then 7 else if (e.vars.getD i default).sigla.length=0 then 5 else 0:=rfl
  have zw:=he.w i
  have zs:=he.sg i
  have zv:=fun j=>(he.w j).n
  obtain ⟨x,hx⟩: ∃x,x=e.vars.getD i default:=⟨_,rfl⟩
  have ex:=hx.symm
  simp only [ex]at hv zw zs
  rw [hfr,htt,Int.toNat_natCast,Int.toNat_natCast]at hv
  have zn:=zw.n
  have c116:=fun l=>qz7 x.words (h++l) zw.n zw.s (hp.app l)
  have c117:=fun h=>qwn x.words (tt-fr) (fun j=>t.getD (fr+j) []) h zw.n (by omega)
  rw [qgw (by omega) (by omega)]at c117
  have c118:=qAh i e.vars x.words (h.length+1) (v+1) (strs x.sigla) (h++ [.mem 1 49 [.int .i64 e.layer,.int .i64 e.frm,.int .i64 e.to,.bool e.pos,strs e.sup,qB e.vars],.mem (v+1) 51 [strs x.words,strs x.sigla],.emp 0,.emp 0]) (by rw [getO_app];rfl) (by omega) z2 zw.n zv
  obtain ⟨u,hu⟩: ∃u,u=jO x.words:=⟨_,rfl⟩
  rw [←hu]at c116 hv
  unfold strs qB at c118
  unfold strs at c116 c117
  by_cases a1:u≠0
  ·have p1:(u=0)=False:=eq_false a1
   rw [if_pos a1]at hv
   have hE:=hE (by rw [hv];decide)
   rw [hE,hv,if_pos (by decide)]at hR
   rw [hR]
   simp (disch:=omega) only [List.replicate,strs,qB,vaC,r1,r2,ex,go_sem]
   repeat' first
    |((first|refine cA (c116 _) ?_ ?_|refine cG (fun e=>c116 _) ?_ ?_|refine cU (fun _=>c116 _) ?_ ?_);(next=>exact flk);simp (disch:=omega) only [strs,qB,vaC,r1,r2,ex,p1,go_sem])
    |((first|apply qc|apply qb);exact rvk;simp only [go_sem];first|exact VLe.refl _|apply qd|apply qa|apply qe|skip)
    |with_reducible first|refine And.intro ?_ ?_|intro _
   all_goals try exact clz
  have a1:u=0:=Classical.not_not.1 a1
  have p1:(u=0)=True:=eq_true a1
  rw [if_neg (fun hc=>hc a1)]at hv
  by_cases a2:x.words=j8 t fr tt
  ·rw [decide_eq_true a2]at c117
   rw [if_pos a2]at hv
   have hE:=hE (by rw [hv];decide)
   rw [hE,hv,if_pos (by decide)]at hR
   rw [hR]
   simp (disch:=omega) only [List.replicate,strs,qB,vaC,r1,r2,ex,go_sem]
   repeat' first
    |((first|refine cA (c116 _) ?_ ?_|refine cG (fun e=>c116 _) ?_ ?_|refine cA (c117 _) ?_ ?_|refine cG (fun e=>c117 _) ?_ ?_|refine cU (fun _=>c116 _) ?_ ?_|refine cU (fun _=>c117 _) ?_ ?_);(next=>exact flk);simp (disch:=omega) only [strs,qB,vaC,r1,r2,ex,p1,hfr,htt,r3,r4,r5,go_sem])
    |((first|apply qc|apply qb);exact rvk;simp only [go_sem];first|exact VLe.refl _|apply qd|apply qa|apply qe|skip)
    |with_reducible first|refine And.intro ?_ ?_|intro _
   all_goals try exact clz
  rw [decide_eq_false a2]at c117
  rw [if_neg a2]at hv
  cases a3:zS (fun j=>decide (x.words=(e.vars.getD j default).words)) i with
  |true=>
   rw [a3]at c118
   rw [if_pos a3]at hv
   have hE:=hE (by rw [hv];decide)
   rw [hE,hv,if_pos (by decide)]at hR
   rw [hR]
   simp only [hfr,htt]at c118
   simp (disch:=omega) only [List.replicate,strs,qB,vaC,r1,r2,ex,hfr,htt,go_sem]
   repeat' first
    |((first|refine cA (c116 _) ?_ ?_|refine cG (fun e=>c116 _) ?_ ?_|refine cA (c117 _) ?_ ?_|refine cG (fun e=>c117 _) ?_ ?_|refine cA (c118) ?_ ?_|refine cG (fun e=>c118) ?_ ?_|refine cU (fun _=>c116 _) ?_ ?_|refine cU (fun _=>c117 _) ?_ ?_);(next=>exact flk);simp (disch:=omega) only [strs,qB,vaC,r1,r2,ex,p1,hfr,htt,r3,r4,r5,Nat.sub_zero,Nat.zero_add,go_sem])
    |((first|apply qc|apply qb);exact rvk;simp only [go_sem];first|exact VLe.refl _|apply qd|apply qa|apply qe|skip)
    |with_reducible first|refine And.intro ?_ ?_|intro _
   all_goals try exact clz
  |false=>
  rw [a3]at c118
  rw [if_neg (by rw [a3];simp)]at hv
  simp only [hfr,htt]at c118
  by_cases a4:x.sigla.length=0
  ·have p4:((x.sigla.length:Int)=0)=True:=eq_true (by omega)
   rw [if_pos a4]at hv
   have hE:=hE (by rw [hv];decide)
   rw [hE,hv,if_pos (by decide)]at hR
   rw [hR]
   simp (disch:=omega) only [List.replicate,strs,qB,vaC,r1,r2,ex,hfr,htt,go_sem]
   repeat' first
    |((first|refine cA (c116 _) ?_ ?_|refine cG (fun e=>c116 _) ?_ ?_|refine cA (c117 _) ?_ ?_|refine cG (fun e=>c117 _) ?_ ?_|refine cA (c118) ?_ ?_|refine cG (fun e=>c118) ?_ ?_|refine cU (fun _=>c116 _) ?_ ?_|refine cU (fun _=>c117 _) ?_ ?_);(next=>exact flk);simp (disch:=omega) only [strs,qB,vaC,r1,r2,ex,p1,p4,hfr,htt,r3,r4,r5,Nat.sub_zero,Nat.zero_add,go_sem])
    |((first|apply qc|apply qb);exact rvk;simp only [go_sem];first|exact VLe.refl _|apply qd|apply qa|apply qe|skip)
    |with_reducible first|refine And.intro ?_ ?_|intro _
   all_goals try exact clz
  ·have p4:((x.sigla.length:Int)=0)=False:=eq_false (by omega)
   rw [if_neg a4]at hv
   simp (disch:=omega) only [List.replicate,strs,qB,vaC,r1,r2,ex,hfr,htt,go_sem]
   repeat' first
    |((first|refine cA (c116 _) ?_ ?_|refine cG (fun e=>c116 _) ?_ ?_|refine cA (c117 _) ?_ ?_|refine cG (fun e=>c117 _) ?_ ?_|refine cA (c118) ?_ ?_|refine cG (fun e=>c118) ?_ ?_|refine cU (fun _=>c116 _) ?_ ?_|refine cU (fun _=>c117 _) ?_ ?_);(next=>exact flk);simp (disch:=omega) only [strs,qB,vaC,r1,r2,ex,p1,p4,hfr,htt,r3,r4,r5,Nat.sub_zero,Nat.zero_add,go_sem])
    |((first|apply qc|apply qb);exact rvk;simp only [go_sem];first|exact VLe.refl _|apply qd|apply qa|apply qe|skip)
    |with_reducible first|refine And.intro ?_ ?_|intro _
   all_goals try exact clz
   simp only [hfr,htt]at hK
   refine hK _ _ (i+1,v+1+1) ⟨hi,fun j hj=> ?_⟩ (by simp only;omega) (Wk.trans Wk.kill1 (Wk.temps ?_))
   ·by_cases e':j=i
    ·subst e';exact hv
    ·exact i2 j (by simp only at hj;omega)
   ·(simp only [strs,qB,List.replicate,go_sem,qj,qh,qg,qi];try (repeat' first|(with_reducible refine And.intro ?_ ?_)|(apply qd;omega)|(apply qa;rfl)|exact VLe.refl _))
 have r1:((i:Int)<e.vars.length)=False:=eq_false (by omega)
 rw [if_neg (fun hc=>hc (qC (f:=qbG t e) (fun j hj=>i2 j (by omega))))]at hR
 simp (disch:=omega) only [List.replicate,strs,qB,r1,go_sem]
 repeat' first
  |((first|apply qc|apply qb);exact rvk;simp only [go_sem];first|exact VLe.refl _|apply qd|apply qa|apply qe|skip)
  |with_reducible first|refine And.intro ?_ ?_|intro _
 all_goals try exact clz
 refine cE (qxS names gs e.sup (List.replicate 32 0) (h.length+2) 1 117 _ hz he.sup (by rw [getO_app];rfl) (by simp) 0 (by decide) (fun i=>by
  rw [gdqA,List.getElem?_replicate]
  split<;>simp)) (by exact flk) ?_
 have c0:qb1 (List.replicate 32 0) (zg names gs e.sup)=cnt names gs e 0:=rfl
 rw [c0]
 obtain ⟨y,hy⟩: ∃y,y=ji names gs e.sup:=⟨_,rfl⟩
 rw [←hy]at hR ⊢
 by_cases b1:y≠0
 ·have p1:(y=0)=False:=eq_false b1
  rw [if_pos b1]at hR
  rw [hR]
  simp (disch:=omega) only [List.replicate,strs,qB,p1,go_sem]
  repeat' first
   |((first|apply qc|apply qb);exact rvk;simp only [go_sem];first|exact VLe.refl _|apply qd|apply qa|apply qe|skip)
   |with_reducible first|refine And.intro ?_ ?_|intro _
  all_goals try exact clz
 have b1:y=0:=Classical.not_not.1 b1
 have p1:(y=0)=True:=eq_true b1
 rw [if_neg (fun hc=>hc b1)]at hR
 simp (disch:=omega) only [List.replicate,strs,qB,p1,go_sem]
 repeat' first
  |((first|apply qc|apply qb);exact rvk;simp only [go_sem];first|exact VLe.refl _|apply qd|apply qa|apply qe|skip)
  |with_reducible first|refine And.intro ?_ ?_|intro _
 all_goals try exact clz
 refine qn (T:=fun i:Nat×Nat=>qI 134 [(0,strs names),(1,qu gs),(11,.op (h.length+2) 1 0),(117,qB e.vars),(118,.int .i64 e.vars.length),(119,.int .i64 i.1)])
  (H:=fun i=>h++ [.mem 1 49 [.int .i64 e.layer,.int .i64 e.frm,.int .i64 e.to,.bool e.pos,strs e.sup,qB e.vars],.emp v,.mem 1 117 (qp (cnt names gs e i.1)),.emp i.2])
  (inv:=fun i=>i.1≤e.vars.length∧ ∀j,j<i.1→ji names gs (e.vars.getD j default).sigla=0) (m:=fun i=>e.vars.length-i.1) (0,0) ⟨Nat.zero_le _,fun j hj=>absurd hj (Nat.not_lt_zero j)⟩ (Wk.temps ?_) ?_
 ·(simp only [strs,qB,List.replicate,go_sem,qj,qh,qg,qi];try (repeat' first|(with_reducible refine And.intro ?_ ?_)|(apply qd;omega)|(apply qa;rfl)|exact VLe.refl _))
 clear hK
 rintro ⟨n,w'⟩ ⟨n1,n2⟩ K hK
 simp only at n1 n2 hK
 by_cases hn:n<e.vars.length
 ·have r2:((n:Int)<e.vars.length)=True:=eq_true (by omega)
  have hE:=qP (f:=fun i=>ji names gs (e.vars.getD i default).sigla) hn n2
  have zs:=he.sg n
  have hcs:cnt names gs e (n+1)=qb1 (cnt names gs e n) (zg names gs (e.vars.getD n default).sigla):=rfl
  have hbn:=qjJ names gs e n
  have hln:=qc5 names gs e n
  obtain ⟨D,hD⟩: ∃D,D=cnt names gs e n:=⟨_,rfl⟩
  have eD:=hD.symm
  rw [eD]at hcs hbn hln
  obtain ⟨x,hx⟩: ∃x,x=e.vars.getD n default:=⟨_,rfl⟩
  have ex:=hx.symm
  simp only [ex]at hE hcs zs
  simp (disch:=omega) only [List.replicate,strs,qB,vaC,r2,ex,eD,go_sem]
  repeat' first
   |((first|apply qc|apply qb);exact rvk;simp only [go_sem];first|exact VLe.refl _|apply qd|apply qa|apply qe|skip)
   |with_reducible first|refine And.intro ?_ ?_|intro _
  all_goals try exact clz
  refine cE (qxS names gs x.sigla D (h.length+2) 1 117 _ hz zs (by rw [getO_app];rfl) hln (64*((n:Int)+1)) (by omega) hbn) (by exact flk) ?_
  rw [←hcs]
  obtain ⟨q,hq⟩: ∃q,q=ji names gs x.sigla:=⟨_,rfl⟩
  rw [←hq]at hE ⊢
  by_cases b2:q≠0
  ·have p2:(q=0)=False:=eq_false b2
   rw [hE b2,if_pos b2]at hR
   rw [hR]
   simp (disch:=omega) only [List.replicate,strs,qB,p2,go_sem]
   repeat' first
    |((first|apply qc|apply qb);exact rvk;simp only [go_sem];first|exact VLe.refl _|apply qd|apply qa|apply qe|skip)
    |with_reducible first|refine And.intro ?_ ?_|intro _
   all_goals try exact clz
  ·have b2:q=0:=Classical.not_not.1 b2
   have p2:(q=0)=True:=eq_true b2
   simp (disch:=omega) only [List.replicate,strs,qB,p2,go_sem]
   repeat' first
    |((first|apply qc|apply qb);exact rvk;simp only [go_sem];first|exact VLe.refl _|apply qd|apply qa|apply qe|skip)
    |with_reducible first|refine And.intro ?_ ?_|intro _
   all_goals try exact clz
   refine hK _ _ (n+1,w'+1+1) ⟨hn,fun j hj=> ?_⟩ (by simp only;omega) (Wk.trans (Wk.kill3 ) (Wk.temps ?_))
   ·by_cases e':j=n
    ·subst e';rw [ex,←hq,b2]
    ·exact n2 j (by simp only at hj;omega)
   ·(simp only [strs,qB,List.replicate,go_sem,qj,qh,qg,qi];try (repeat' first|(with_reducible refine And.intro ?_ ?_)|(apply qd;omega)|(apply qa;rfl)|exact VLe.refl _))
 ·have r2:((n:Int)<e.vars.length)=False:=eq_false (by omega)
  have e':n=e.vars.length:=by omega
  subst e'
  rw [if_neg (fun hc=>hc (qC (f:=fun i=>ji names gs (e.vars.getD i default).sigla) (fun j hj=>n2 j hj)))]at hR
  have hln:=qc5 names gs e e.vars.length
  unfold qh5 at hR
  rw [hln]at hR
  have c94:=fun h=>twP (cnt names gs e e.vars.length) h hln
  rw [hln]at c94
  obtain ⟨D,hD⟩: ∃D,D=cnt names gs e e.vars.length:=⟨_,rfl⟩
  have eD:=hD.symm
  simp only [eD]at hR hln c94
  have fT:List.take 32 (qp D)=List.map (fun n=>AV.int .i64 n) D:=List.take_of_length_le (by rw [qw];omega)
  have fL:=qw D
  rw [hln]at fL
  cases b3:zS (fun i=>decide (1<D.getD i 0)) 32 with
  |true=>
   rw [b3]at c94 hR
   rw [if_pos rfl]at hR
   rw [hR]
   simp (disch:=omega) only [List.replicate,strs,qB,r2,eD,fT,fL,go_sem]
   repeat' first
    |((first|refine cA (c94 _) ?_ ?_|refine cG (fun e=>c94 _) ?_ ?_|refine cU (fun _=>c94 _) ?_ ?_);(next=>exact flk);simp (disch:=omega) only [strs,qB,r2,eD,fT,fL,go_sem])
    |((first|apply qc|apply qb);exact rvk;simp only [go_sem];first|exact VLe.refl _|apply qd|apply qa|apply qe|skip)
    |with_reducible first|refine And.intro ?_ ?_|intro _
   all_goals try exact clz
  |false=>
   rw [b3]at c94 hR
   rw [if_neg (by simp)]at hR
   rw [hR]
   simp (disch:=omega) only [List.replicate,strs,qB,r2,eD,fT,fL,go_sem]
   repeat' first
    |((first|refine cA (c94 _) ?_ ?_|refine cG (fun e=>c94 _) ?_ ?_|refine cU (fun _=>c94 _) ?_ ?_);(next=>exact flk);simp (disch:=omega) only [strs,qB,r2,eD,fT,fL,go_sem])
    |((first|apply qc|apply qb);exact rvk;simp only [go_sem];first|exact VLe.refl _|apply qd|apply qa|apply qe|skip)
    |with_reducible first|refine And.intro ?_ ?_|intro _
   all_goals try exact clz
end RC
end
section
open Go Go.Proofs AF HY LN
namespace RC
def tC (gs:List Gr) (i:Nat):List AV:=(List.range i).map fun j=> .str (gs.getD j default).name
theorem qsK (gs:List Gr) (i:Nat):tC gs (i+1)=tC gs i++ [.str (gs.getD i default).name]:=by unfold tC;rw [List.range_succ,List.map_append];rfl
theorem qqh (gs:List Gr) (i:Nat):(tC gs i).length=i:=by simp [tC]
theorem qyY {gs:List Gr} {n j:Nat} (h:j<n):((tC gs n).drop j).take 1= [.str (gs.getD j default).name]:=by
 rw [List.drop_eq_getElem_cons (by rw [qqh];exact h),List.take_succ_cons,List.take_zero]
 simp [tC]
set_option maxHeartbeats 2000000 in
theorem qz3 (n:Nat) (gs:List Gr) (h:List AObj) (hn:n≤1000000000):qm Tryz.prog 55 [.sl n fun j=>grC (gs.getD j default)] h (.sl n fun j=> [.str (gs.getD j default).name]) h:=by
 refine acO qyg ?_
 simp (disch:=omega) only [qzv,List.replicate,go_sem]
 repeat' first
  |((first|apply qc|apply qb);exact rvk;simp only [go_sem];first|exact VLe.refl _|apply qd|apply qa|apply qe|skip)
  |with_reducible first|refine And.intro ?_ ?_|intro _
 all_goals try exact clz
 have eM:zr [AV.str []] 0=tC gs 0:=rfl
 rw [eM]
 refine qn (T:=fun i:Nat×Nat×Nat=>qI 21 [(0,.sl n fun j=>grC (gs.getD j default)),(3,.osl (h.length+1) i.2.1 1 0 i.1),(4,.int .i64 i.1)]) (H:=fun i=>h++ [.emp 1,AObj.mem i.2.1 9 (tC gs i.1),.emp i.2.2,.emp 0])
  (inv:=fun i=>i.1≤n) (m:=fun i=>n-i.1) (0,1,0) (Nat.zero_le _) (Wk.temps ?_) ?_
 ·(simp only [tC,List.range_zero,List.map_nil,List.replicate,go_sem,qj,qh,qg,qi];try (repeat' first|(with_reducible refine And.intro ?_ ?_)|(apply qd;omega)|(apply qa;rfl)|exact VLe.refl _))
 rintro ⟨i,v,w⟩ i1 K hK
 simp only at i1 hK
 have hst:=qsK gs i
 have hln:=qqh gs i
 obtain ⟨L,hL⟩: ∃L,L=tC gs i:=⟨_,rfl⟩
 rw [←hL]at hst hln
 have eL:=hL.symm
 by_cases hi:i<n
 ·have k1:((i:Int)<n)=True:=eq_true (by omega)
  obtain ⟨g,hg⟩: ∃g,g=gs.getD i default:=⟨_,rfl⟩
  have eg:=hg.symm
  rw [eg]at hst
  have eT:List.take i L=L:=List.take_of_length_le (by omega)
  simp (disch:=omega) only [List.replicate,grC,k1,eL,eg,Nat.mul_one,go_sem]
  repeat' first
   |((first|apply qc|apply qb);exact rvk;simp only [go_sem];first|exact VLe.refl _|apply qd|apply qa|apply qe|skip)
   |with_reducible first|refine And.intro ?_ ?_|intro _
  all_goals try exact clz
  rw [eT,←hst]
  refine hK _ _ (i+1,v+1,w+1+1) hi (by simp only;omega) (Wk.trans Wk.kill2 ?_)
  refine Wk.temps ?_
  (simp only [List.length_append,List.replicate,go_sem,qj,qh,qg,qi];try (repeat' first|(with_reducible refine And.intro ?_ ?_)|(apply qd;omega)|(apply qa;rfl)|exact VLe.refl _))
 ·have k1:((i:Int)<n)=False:=eq_false (by omega)
  obtain rfl:i=n:=by omega
  simp (disch:=omega) only [List.replicate,k1,eL,go_sem]
  repeat' first
   |((first|apply qc|apply qb);exact rvk;simp only [go_sem];first|exact VLe.refl _|apply qd|apply qa|apply qe|skip)
   |with_reducible first|refine And.intro ?_ ?_|intro _
  all_goals try exact clz
  rw [if_pos (by omega)]
  refine VLe.sl_eq rfl (fun j hj=> ?_)
  rw [hL,qyY hj]
  rfl
theorem qgd (p:Nat→Bool) (n:Nat):(zS p n=true∧ ∃k:Int,0≤k∧qbB p n 0=k)∨(zS p n=false∧qbB p n 0= -1):=by
 rcases jU p n with ⟨i,h1,h2,_,h4⟩|⟨h1,h2⟩
 ·exact .inl ⟨qW.2 ⟨i,h1,h2⟩,_,by omega,h4⟩
 ·exact .inr ⟨qD.2 h1,h2⟩
set_option maxHeartbeats 4000000 in
theorem sgR (names:List Str) (gs:List Gr) (h:List AObj) (hz:Szs names gs):qm Tryz.prog 49 [strs names,qu gs] h (.int .i64 (sgE names gs)) h:=by
 obtain ⟨z1,z2,z3,z4,z5⟩:=hz
 obtain ⟨R,hR⟩: ∃R,R=sgE names gs:=⟨_,rfl⟩
 rw [←hR]
 unfold sgE at hR
 by_cases g0:32<names.length
 ·have k0:((32:Int)<names.length)=True:=eq_true (by omega)
  rw [if_pos g0]at hR
  rw [hR]
  refine acO qvq ?_
  simp (disch:=omega) only [qxC,List.replicate,strs,qu,k0,go_sem]
  repeat' first
   |((first|apply qc|apply qb);exact rvk;simp only [go_sem];first|exact VLe.refl _|apply qd|apply qa|apply qe|skip)
   |with_reducible first|refine And.intro ?_ ?_|intro _
  all_goals try exact clz
 have k0:((32:Int)<names.length)=False:=eq_false (by omega)
 rw [if_neg g0]at hR
 refine acO qvq ?_
 simp (disch:=omega) only [qxC,List.replicate,strs,qu,k0,go_sem]
 repeat' first
  |((first|apply qc|apply qb);exact rvk;simp only [go_sem];first|exact VLe.refl _|apply qd|apply qa|apply qe|skip)
  |with_reducible first|refine And.intro ?_ ?_|intro _
 all_goals try exact clz
 refine qn (T:=fun i:Nat=>qI 87 [(0,strs names),(1,qu gs),(5,.int .i64 i)]) (H:=fun _=>h) (inv:=fun i=>i≤names.length∧ ∀j,j<i→kp names j=0) (m:=fun i=>names.length-i) 0 ⟨Nat.zero_le _,fun j hj=>by omega⟩ (Wk.temps ?_) ?_
 ·(simp only [strs,qu,List.replicate,go_sem,qj,qh,qg,qi];try (repeat' first|(with_reducible refine And.intro ?_ ?_)|(apply qd;omega)|(apply qa;rfl)|exact VLe.refl _))
 rintro i ⟨i1,i2⟩ K hK
 by_cases hi:i<names.length
 ·have k1:((i:Int)<names.length)=True:=eq_true (by omega)
  have k2:((i:Int)≤names.length)=True:=eq_true (by omega)
  have hE:=qP (f:=kp names) hi i2
  have hs:kp names i=if qoT (names.getD i [])=false then 14 else if zS (fun j=>decide (names.getD i []=names.getD j [])) i=true then 7 else 0:=rfl
  have c87:=fun h=>qyV (names.getD i []) h (z3 i)
  have c88:=fun h=>qhB i (fun j=>names.getD j []) (names.getD i []) h (by omega)
  obtain ⟨s,hsx⟩: ∃s,s=names.getD i []:=⟨_,rfl⟩
  have es:=hsx.symm
  rw [es]at hs c87
  simp only [es]at hs c88
  cases g1:qoT s with
  |false=>
   rw [g1]at c87
   rw [if_pos g1]at hs
   have hV:R=14:=by rw [hR,hE (by rw [hs];decide),hs];rfl
   rw [hV]
   simp (disch:=omega) only [List.replicate,strs,qu,k1,k2,es,go_sem]
   repeat' first
    |((first|refine cA (c87 _) ?_ ?_|refine cG (fun e=>c87 _) ?_ ?_|refine cU (fun _=>c87 _) ?_ ?_);(next=>exact flk);simp (disch:=omega) only [strs,qu,k1,k2,es,go_sem])
    |((first|apply qc|apply qb);exact rvk;simp only [go_sem];first|exact VLe.refl _|apply qd|apply qa|apply qe|skip)
    |with_reducible first|refine And.intro ?_ ?_|intro _
   all_goals try exact clz
  |true=>
  rw [g1]at c87
  rw [if_neg (by rw [g1];simp)]at hs
  rcases qgd (fun j=>decide (s=names.getD j [])) i with ⟨g2,n,hn0,g3⟩|⟨g2,g3⟩
  ·rw [g3]at c88
   rw [if_pos g2]at hs
   have k3:((0:Int)≤n)=True:=eq_true hn0
   have hV:R=7:=by rw [hR,hE (by rw [hs];decide),hs];rfl
   rw [hV]
   simp (disch:=omega) only [List.replicate,strs,qu,k1,k2,es,Nat.sub_zero,go_sem]
   repeat' first
    |((first|refine cA (c87 _) ?_ ?_|refine cG (fun e=>c87 _) ?_ ?_|refine cA (c88 _) ?_ ?_|refine cG (fun e=>c88 _) ?_ ?_|refine cU (fun _=>c87 _) ?_ ?_|refine cU (fun _=>c88 _) ?_ ?_);(next=>exact flk);simp (disch:=omega) only [strs,qu,k1,k2,es,Nat.sub_zero,k3,go_sem])
    |((first|apply qc|apply qb);exact rvk;simp only [go_sem];first|exact VLe.refl _|apply qd|apply qa|apply qe|skip)
    |with_reducible first|refine And.intro ?_ ?_|intro _
   all_goals try exact clz
  ·rw [g3]at c88
   rw [if_neg (by rw [g2];simp)]at hs
   simp (disch:=omega) only [List.replicate,strs,qu,k1,k2,es,Nat.sub_zero,go_sem]
   repeat' first
    |((first|refine cA (c87 _) ?_ ?_|refine cG (fun e=>c87 _) ?_ ?_|refine cA (c88 _) ?_ ?_|refine cG (fun e=>c88 _) ?_ ?_|refine cU (fun _=>c87 _) ?_ ?_|refine cU (fun _=>c88 _) ?_ ?_);(next=>exact flk);simp (disch:=omega) only [strs,qu,k1,k2,es,Nat.sub_zero,go_sem])
    |((first|apply qc|apply qb);exact rvk;simp only [go_sem];first|exact VLe.refl _|apply qd|apply qa|apply qe|skip)
    |with_reducible first|refine And.intro ?_ ?_|intro _
   all_goals try exact clz
   refine hK _ _ (i+1) ⟨hi,fun j hj=> ?_⟩ (by omega) (Wk.temps ?_)
   ·by_cases e:j=i
    ·subst e;exact hs
    ·exact i2 j (by omega)
   ·(simp only [strs,qu,List.replicate,go_sem,qj,qh,qg,qi];try (repeat' first|(with_reducible refine And.intro ?_ ?_)|(apply qd;omega)|(apply qa;rfl)|exact VLe.refl _))
 have k1:((i:Int)<names.length)=False:=eq_false (by omega)
 have hn0:=qC (f:=kp names) (fun j (hj:j<names.length)=>i2 j (by omega))
 rw [if_neg (fun hc=>hc hn0)]at hR
 by_cases g1:16<gs.length
 ·have k2:((16:Int)<gs.length)=True:=eq_true (by omega)
  rw [if_pos g1]at hR
  rw [hR]
  simp (disch:=omega) only [List.replicate,strs,qu,k1,k2,go_sem]
  repeat' first
   |((first|apply qc|apply qb);exact rvk;simp only [go_sem];first|exact VLe.refl _|apply qd|apply qa|apply qe|skip)
   |with_reducible first|refine And.intro ?_ ?_|intro _
  all_goals try exact clz
 have k2:((16:Int)<gs.length)=False:=eq_false (by omega)
 rw [if_neg g1]at hR
 simp (disch:=omega) only [List.replicate,strs,qu,k1,k2,go_sem]
 repeat' first
  |((first|apply qc|apply qb);exact rvk;simp only [go_sem];first|exact VLe.refl _|apply qd|apply qa|apply qe|skip)
  |with_reducible first|refine And.intro ?_ ?_|intro _
 all_goals try exact clz
 refine qn (T:=fun i:Nat=>qI 87 [(0,strs names),(1,qu gs),(6,.int .i64 i)]) (H:=fun i=>h) (inv:=fun i=>i≤gs.length∧ ∀j,j<i→qb7 names gs j=0) (m:=fun i=>gs.length-i) 0 ⟨Nat.zero_le _,fun j hj=>absurd hj (Nat.not_lt_zero j)⟩ (Wk.temps ?_) ?_
 ·(simp only [strs,qu,List.replicate,go_sem,qj,qh,qg,qi];try (repeat' first|(with_reducible refine And.intro ?_ ?_)|(apply qd;omega)|(apply qa;rfl)|exact VLe.refl _))
 rintro i ⟨i1,i2⟩ K hK
 by_cases hi:i<gs.length
 ·have k3:((i:Int)<gs.length)=True:=eq_true (by omega)
  have k4:((i:Int)≤gs.length)=True:=eq_true (by omega)
  have hE:=qP (f:=qb7 names gs) hi i2
  have hs:qb7 names gs i=if jV (gs.getD i default).name=false then 14 else if zS (fun j=>decide ((gs.getD i default).name=names.getD j [])) names.length=true then 7 else
   if zS (fun j=>decide ((gs.getD i default).name=(gs.getD j default).name)) i=true then 7 else if (gs.getD i default).mem.length=0 then 5 else qae names.length (gs.getD i default).mem:=rfl
  have z4i:=z4 i
  have z5i:=z5 i
  obtain ⟨g,hg⟩: ∃g,g=gs.getD i default:=⟨_,rfl⟩
  have eg:=hg.symm
  simp only [eg]at hs z4i z5i
  have c89:=fun h=>t53 g.name h z4i
  have c88:=fun h=>qhB names.length (fun j=>names.getD j []) g.name h z1
  have c90:=fun h=>qz3 i gs h (by omega)
  have c91:=fun h=>qhB i (fun j=>(gs.getD j default).name) g.name h (by omega)
  have c92:=fun h=>qAS g.mem names.length h z5i
  cases g2:jV g.name with
  |false=>
   rw [g2]at c89
   rw [if_pos g2]at hs
   have hV:R=14:=by rw [hR,hE (by rw [hs];decide),hs]
   rw [hV]
   simp (disch:=omega) only [List.replicate,strs,qu,grC,ql,k3,k4,eg,go_sem]
   repeat' first
    |((first|refine cA (c89 _) ?_ ?_|refine cG (fun e=>c89 _) ?_ ?_|refine cU (fun _=>c89 _) ?_ ?_);(next=>exact flk);simp (disch:=omega) only [strs,qu,grC,ql,k3,k4,eg,go_sem])
    |((first|apply qc|apply qb);exact rvk;simp only [go_sem];first|exact VLe.refl _|apply qd|apply qa|apply qe|skip)
    |with_reducible first|refine And.intro ?_ ?_|intro _
   all_goals try exact clz
  |true=>
  rw [g2]at c89
  rw [if_neg (by rw [g2];simp)]at hs
  rcases qgd (fun j=>decide (g.name=names.getD j [])) names.length with ⟨g3,n,hn0,g3'⟩|⟨g3,g3'⟩
  ·rw [g3']at c88
   rw [if_pos g3]at hs
   have k5:((0:Int)≤n)=True:=eq_true hn0
   have hV:R=7:=by rw [hR,hE (by rw [hs];decide),hs]
   rw [hV]
   simp (disch:=omega) only [List.replicate,strs,qu,grC,ql,k3,k4,eg,go_sem]
   repeat' first
    |(refine qo ( .nl) ?_;simp (disch:=omega) only [strs,qu,grC,ql,k3,k4,eg,k5,go_sem])
    |(refine qo ( .int .i64 0) ?_;simp (disch:=omega) only [strs,qu,grC,ql,k3,k4,eg,k5,go_sem])
    |((first|refine cA (c89 _) ?_ ?_|refine cG (fun e=>c89 _) ?_ ?_|refine cA (c88 _) ?_ ?_|refine cG (fun e=>c88 _) ?_ ?_|refine cU (fun _=>c89 _) ?_ ?_|refine cU (fun _=>c88 _) ?_ ?_);(next=>exact flk);simp (disch:=omega) only [strs,qu,grC,ql,k3,k4,eg,k5,go_sem])
    |((first|apply qc|apply qb);exact rvk;simp only [go_sem];first|exact VLe.refl _|apply qd|apply qa|apply qe|skip)
    |with_reducible first|refine And.intro ?_ ?_|intro _
   all_goals try exact clz
  rw [g3']at c88
  rw [if_neg (by rw [g3];simp)]at hs
  rcases qgd (fun j=>decide (g.name=(gs.getD j default).name)) i with ⟨g4,n,hn0,g4'⟩|⟨g4,g4'⟩
  ·rw [g4']at c91
   rw [if_pos g4]at hs
   have k5:((0:Int)≤n)=True:=eq_true hn0
   have hV:R=7:=by rw [hR,hE (by rw [hs];decide),hs]
   rw [hV]
   simp only [grC,ql]at c90
   simp (disch:=omega) only [List.replicate,strs,qu,grC,ql,k3,k4,eg,Nat.sub_zero,go_sem]
   repeat' first
    |((first|refine cA (c89 _) ?_ ?_|refine cG (fun e=>c89 _) ?_ ?_|refine cA (c88 _) ?_ ?_|refine cG (fun e=>c88 _) ?_ ?_|refine cA (c90 _) ?_ ?_|refine cG (fun e=>c90 _) ?_ ?_|refine cA (c91 _) ?_ ?_|refine cG (fun e=>c91 _) ?_ ?_|refine cU (fun _=>c89 _) ?_ ?_|refine cU (fun _=>c88 _) ?_ ?_|refine cU (fun _=>c90 _) ?_ ?_|refine cU (fun _=>c91 _) ?_ ?_);(next=>exact flk);simp (disch:=omega) only [strs,qu,grC,ql,k3,k4,eg,Nat.sub_zero,k5,go_sem])
    |((first|apply qc|apply qb);exact rvk;simp only [go_sem];first|exact VLe.refl _|apply qd|apply qa|apply qe|skip)
    |with_reducible first|refine And.intro ?_ ?_|intro _
   all_goals try exact clz
  rw [g4']at c91
  rw [if_neg (by rw [g4];simp)]at hs
  simp only [grC,ql]at c90
  by_cases g5:g.mem.length=0
  ·have k5:((g.mem.length:Int)=0)=True:=eq_true (by omega)
   rw [if_pos g5]at hs
   have hV:R=5:=by rw [hR,hE (by rw [hs];decide),hs]
   rw [hV]
   simp (disch:=omega) only [List.replicate,strs,qu,grC,ql,k3,k4,eg,Nat.sub_zero,go_sem]
   repeat' first
    |((first|refine cA (c89 _) ?_ ?_|refine cG (fun e=>c89 _) ?_ ?_|refine cA (c88 _) ?_ ?_|refine cG (fun e=>c88 _) ?_ ?_|refine cA (c90 _) ?_ ?_|refine cG (fun e=>c90 _) ?_ ?_|refine cA (c91 _) ?_ ?_|refine cG (fun e=>c91 _) ?_ ?_|refine cU (fun _=>c89 _) ?_ ?_|refine cU (fun _=>c88 _) ?_ ?_|refine cU (fun _=>c90 _) ?_ ?_|refine cU (fun _=>c91 _) ?_ ?_);(next=>exact flk);simp (disch:=omega) only [strs,qu,grC,ql,k3,k4,eg,Nat.sub_zero,k5,go_sem])
    |((first|apply qc|apply qb);exact rvk;simp only [go_sem];first|exact VLe.refl _|apply qd|apply qa|apply qe|skip)
    |with_reducible first|refine And.intro ?_ ?_|intro _
   all_goals try exact clz
  have k5:((g.mem.length:Int)=0)=False:=eq_false (by omega)
  rw [if_neg g5]at hs
  unfold ql at c92
  obtain ⟨e,he⟩: ∃e,e=qae names.length g.mem:=⟨_,rfl⟩
  rw [←he]at c92 hs
  by_cases g6:e=0
  ·have k6:(e=0)=True:=eq_true g6
   simp (disch:=omega) only [List.replicate,strs,qu,grC,ql,k3,k4,eg,Nat.sub_zero,go_sem]
   repeat' first
    |((first|refine cA (c89 _) ?_ ?_|refine cG (fun e=>c89 _) ?_ ?_|refine cA (c88 _) ?_ ?_|refine cG (fun e=>c88 _) ?_ ?_|refine cA (c90 _) ?_ ?_|refine cG (fun e=>c90 _) ?_ ?_|refine cA (c91 _) ?_ ?_|refine cG (fun e=>c91 _) ?_ ?_|refine cA (c92 _) ?_ ?_|refine cG (fun e=>c92 _) ?_ ?_|refine cU (fun _=>c89 _) ?_ ?_|refine cU (fun _=>c88 _) ?_ ?_|refine cU (fun _=>c90 _) ?_ ?_|refine cU (fun _=>c91 _) ?_ ?_|refine cU (fun _=>c92 _) ?_ ?_);(next=>exact flk);simp (disch:=omega) only [strs,qu,grC,ql,k3,k4,eg,Nat.sub_zero,k5,k6,go_sem])
    |((first|apply qc|apply qb);exact rvk;simp only [go_sem];first|exact VLe.refl _|apply qd|apply qa|apply qe|skip)
    |with_reducible first|refine And.intro ?_ ?_|intro _
   all_goals try exact clz
   refine hK _ _ (i+1) ⟨hi,fun j hj=> ?_⟩ (by omega) (Wk.temps ?_)
   ·by_cases e':j=i
    ·subst e';rw [hs,g6]
    ·exact i2 j (by omega)
   ·(simp only [strs,qu,List.replicate,go_sem,qj,qh,qg,qi];try (repeat' first|(with_reducible refine And.intro ?_ ?_)|(apply qd;omega)|(apply qa;rfl)|exact VLe.refl _))
  ·have k6:(e=0)=False:=eq_false g6
   have hV:R=e:=by rw [hR,hE (by rw [hs];exact g6),hs]
   rw [hV]
   simp (disch:=omega) only [List.replicate,strs,qu,grC,ql,k3,k4,eg,Nat.sub_zero,go_sem]
   repeat' first
    |((first|refine cA (c89 _) ?_ ?_|refine cG (fun e=>c89 _) ?_ ?_|refine cA (c88 _) ?_ ?_|refine cG (fun e=>c88 _) ?_ ?_|refine cA (c90 _) ?_ ?_|refine cG (fun e=>c90 _) ?_ ?_|refine cA (c91 _) ?_ ?_|refine cG (fun e=>c91 _) ?_ ?_|refine cA (c92 _) ?_ ?_|refine cG (fun e=>c92 _) ?_ ?_|refine cU (fun _=>c89 _) ?_ ?_|refine cU (fun _=>c88 _) ?_ ?_|refine cU (fun _=>c90 _) ?_ ?_|refine cU (fun _=>c91 _) ?_ ?_|refine cU (fun _=>c92 _) ?_ ?_);(next=>exact flk);simp (disch:=omega) only [strs,qu,grC,ql,k3,k4,eg,Nat.sub_zero,k5,k6,go_sem])
    |((first|apply qc|apply qb);exact rvk;simp only [go_sem];first|exact VLe.refl _|apply qd|apply qa|apply qe|skip)
    |with_reducible first|refine And.intro ?_ ?_|intro _
   all_goals try exact clz
 ·have k3:((i:Int)<gs.length)=False:=eq_false (by omega)
  rw [qC (fun j (hj:j<gs.length)=>i2 j (by omega))]at hR
  rw [hR]
  simp (disch:=omega) only [List.replicate,strs,qu,k3,go_sem]
  repeat' first
   |((first|apply qc|apply qb);exact rvk;simp only [go_sem];first|exact VLe.refl _|apply qd|apply qa|apply qe|skip)
   |with_reducible first|refine And.intro ?_ ?_|intro _
  all_goals try exact clz
end RC
end
section
open Go Go.Proofs AF HY LN
namespace RC
theorem qyE (l:List Int) (x:Int) (h:List AObj) (hn:l.length≤1000000000):qm Tryz.prog 56 [ql l,.int .i64 x] h (.bool (decide (x∈l))) h:=by
 have hmem: ∀i,i<l.length→(∀j,j<i→l.getD j 0≠x)→l.getD i 0=x→decide (x∈l)=true:=fun i hi _ e=>by
  refine decide_eq_true ?_
  rw [←e,gdqA,qR hi]
  exact List.getElem_mem hi
 have hno:(∀j,j<l.length→l.getD j 0≠x)→decide (x∈l)=false:=fun hh=>by
  refine decide_eq_false fun hm=> ?_
  obtain ⟨i,hi,e⟩:=List.getElem_of_mem hm
  refine hh i hi ?_
  rw [gdqA,qR hi]
  exact e
 obtain ⟨R,hR⟩: ∃R,R=decide (x∈l):=⟨_,rfl⟩
 rw [←hR]at hmem hno ⊢
 refine acO qyh ?_
 simp (disch:=omega) only [qzw,List.replicate,ql,go_sem]
 repeat' first
  |((first|apply qc|apply qb);exact rvk;simp only [go_sem];first|exact VLe.refl _|apply qd|apply qa|apply qe|skip)
  |with_reducible first|refine And.intro ?_ ?_|intro _
 all_goals try exact clz
 refine qn (T:=fun i:Nat=>qI 18 [(0,ql l),(1,.int .i64 x),(5,.int .i64 i)]) (H:=fun _=>h) (inv:=fun i=>i≤l.length∧ ∀j,j<i→l.getD j 0≠x) (m:=fun i=>l.length-i) 0 ⟨Nat.zero_le _,fun j hj=>by omega⟩ (Wk.temps ?_) ?_
 ·(simp only [ql,List.replicate,go_sem,qj,qh,qg,qi];try (repeat' first|(with_reducible refine And.intro ?_ ?_)|(apply qd;omega)|(apply qa;rfl)|exact VLe.refl _))
 rintro i ⟨i1,i2⟩ K hK
 by_cases hi:i<l.length
 ·have k1:((i:Int)<l.length)=True:=eq_true (by omega)
  have hm:=hmem i hi i2
  obtain ⟨v,hv⟩: ∃v,v=l.getD i 0:=⟨_,rfl⟩
  have ev:=hv.symm
  rw [ev]at hm
  by_cases g0:v=x
  ·have k2:(v=x)=True:=eq_true g0
   rw [hm g0]
   simp (disch:=omega) only [List.replicate,ql,k1,k2,ev,go_sem]
   repeat' first
    |((first|apply qc|apply qb);exact rvk;simp only [go_sem];first|exact VLe.refl _|apply qd|apply qa|apply qe|skip)
    |with_reducible first|refine And.intro ?_ ?_|intro _
   all_goals try exact clz
  ·have k2:(v=x)=False:=eq_false g0
   simp (disch:=omega) only [List.replicate,ql,k1,k2,ev,go_sem]
   repeat' first
    |((first|apply qc|apply qb);exact rvk;simp only [go_sem];first|exact VLe.refl _|apply qd|apply qa|apply qe|skip)
    |with_reducible first|refine And.intro ?_ ?_|intro _
   all_goals try exact clz
   refine hK _ _ (i+1) ⟨hi,fun j hj=> ?_⟩ (by omega) (Wk.temps ?_)
   ·by_cases e:j=i
    ·subst e;rw [ev];exact g0
    ·exact i2 j (by omega)
   ·(simp only [ql,List.replicate,go_sem,qj,qh,qg,qi];try (repeat' first|(with_reducible refine And.intro ?_ ?_)|(apply qd;omega)|(apply qa;rfl)|exact VLe.refl _))
 ·have k1:((i:Int)<l.length)=False:=eq_false (by omega)
  rw [hno (fun j hj=>i2 j (by omega))]
  simp (disch:=omega) only [List.replicate,ql,k1,go_sem]
  repeat' first
   |((first|apply qc|apply qb);exact rvk;simp only [go_sem];first|exact VLe.refl _|apply qd|apply qa|apply qe|skip)
   |with_reducible first|refine And.intro ?_ ?_|intro _
  all_goals try exact clz
theorem qvN (k v:Nat) (ty:TypeId) (L:List Int) (x:Int) (h:List AObj) (hk:qA k h=some (.mem v ty (qp L))) (hn:L.length≤1000000000):qm Tryz.prog 56 [.osl k v 1 0 L.length,.int .i64 x] h (.bool (decide (x∈L))) h:=by
 refine qm.borrow ?_ rfl
 have e:([AV.osl k v 1 0 L.length,.int .i64 x]).map (rei (fun _=>true) h 8)= [AV.sl L.length (fun i=>(((qp L).drop i).take 1).map (rei (fun _=>true) h 7)),.int .i64 x]:=by
  simp only [List.map_cons,List.map_nil,rei_osl,if_true,hk,slOf_mem,qw,Nat.zero_add,Nat.mul_one,Nat.le_refl,and_self,rei_int]
 rw [e]
 exact (qyE L x [] hn).le (qqm (jd _ (fun n=>rfl) rfl) (qqm (VLe.refl _) kw.nil)) (VLe.refl _)
theorem fmI (l:List Int):List.flatMap (fun i=> [AV.int .i64 (l.getD i 0)]) (List.range l.length)=qp l:=by
 induction l with
 |nil=>rfl
 |cons a l ih=>
  rw [List.length_cons,List.range_succ_eq_map,List.flatMap_cons,List.flatMap_map]
  show AV.int .i64 a::List.flatMap (fun i=> [AV.int .i64 (l.getD i 0)]) (List.range l.length)=_
  rw [ih]
  rfl
def qfU (names:List Str) (gs:List Gr) (sg:List Str) (i:Nat):List Int:=((List.range i).map fun j=>els names gs (sg.getD j [])).flatten
theorem qir (names:List Str) (gs:List Gr) (sg:List Str) (i:Nat):qfU names gs sg (i+1)=qfU names gs sg i++els names gs (sg.getD i []):=by unfold qfU;rw [List.range_succ,List.map_append,List.flatten_append];simp
theorem qfV {names:List Str} {gs:List Gr} {sg:List Str} {i:Nat} {x:Int}:x∈qfU names gs sg i↔ ∃j,j<i∧x∈els names gs (sg.getD j []):=by
 unfold qfU
 rw [List.mem_flatten]
 constructor
 ·rintro ⟨l,hl,hx⟩
  obtain ⟨j,hj,rfl⟩:=List.mem_map.1 hl
  exact ⟨j,List.mem_range.1 hj,hx⟩
 ·rintro ⟨j,hj,hx⟩
  exact ⟨_,List.mem_map.2 ⟨j,List.mem_range.2 hj,rfl⟩,hx⟩
theorem qa1 {p q:Nat→Bool} {n:Nat} (h: ∀k,k<n→p k=q k):qY p n=qY q n:=by
 unfold qY
 congr 1
 refine List.filter_congr fun k hk=>h k (List.mem_range.1 hk)
theorem qn8 {p:Nat→Bool} {n:Nat}: ∀m,n≤m→(∀k,n≤k→k<m→p k=false)→qY p m=qY p n:=by
 intro m
 induction m with
 |zero=>
  intro h _
  have:n=0:=by omega
  subst this;rfl
 |succ m ih=>
  intro h1 h2
  by_cases e:n=m+1
  ·subst e;rfl
  ·rw [jz,h2 m (by omega) (by omega),if_neg (by simp),List.append_nil,ih (by omega) (fun k a b=>h2 k a (by omega))]
theorem qrc (names:List Str) (gs:List Gr) (s:Str) (M:Nat) (h1:1≤M) (hg: ∀i,(gs.getD i default).mem.length≤M):(els names gs s).length≤M:=by
 unfold els
 split
 ·simpa using h1
 ·exact hg _
theorem qrh {names:List Str} {gs:List Gr} {sg:List Str} (h:qip names gs) (hz: ∀j,j<sg.length→qao names gs sg j=0):
  qY (qdG names gs sg sg.length).testBit 64=qY (fun k=>decide ((k:Int)∈qfU names gs sg sg.length)) names.length:=by
 obtain ⟨_,h2⟩:=qcX h hz
 have e:qY (qdG names gs sg sg.length).testBit 64=qY (fun k=>decide ((k:Int)∈qfU names gs sg sg.length)) 64:=qa1 fun k _=>by
  rw [h2 k]
  exact decide_eq_decide.2 qfV.symm
 rw [e]
 refine qn8 64 (by have:=h.n32;omega) (fun k h1 _=>decide_eq_false fun hm=> ?_)
 obtain ⟨j,hj,hm⟩:=qfV.1 hm
 have h3: ¬(nIx names (sg.getD j [])<0∧gIx gs (sg.getD j [])<0):=by
  intro hc
  have:=hz j hj
  unfold qao at this
  rw [if_pos hc]at this
  cases this
 have:=(zI (qe2 h h3) _ hm).2
 omega
end RC
end
section
open Go Go.Proofs AF HY LN
namespace RC
set_option maxHeartbeats 8000000
theorem _root_.AF.Wk.kill6 {t:List AV} {h l:List AObj} {a b c d e f:AObj} {v:Nat} {ty:TypeId} {cs:List AV}:Wk t (h++a::b::c::d::e::f:: .mem v ty cs::l) t (h++a::b::c::d::e::f:: .emp (v+1)::l):=by
 have:=Wk.kill0 (t:=t) (h:=h++ [a,b,c,d,e,f]) (l:=l) (v:=v) (ty:=ty) (cs:=cs)
 simpa using this
theorem qnv (names:List Str) (gs:List Gr) (sg:List Str) (h:List AObj) (hz:Szs names gs) (hs:sg.length≤1000000) (hgm: ∀i,(gs.getD i default).mem.length≤1000):
  qm Tryz.prog 28 [strs names,qu gs,strs sg] h (.tup [ql (zg names gs sg),.int .i64 (ji names gs sg)]) h:=by
 have c49:=fun h=>sgR names gs h hz
 obtain ⟨z1,z2,z3,z4,z5⟩:=hz
 obtain ⟨R,hR⟩: ∃R,R=ji names gs sg:=⟨_,rfl⟩
 obtain ⟨Q,hQ⟩: ∃Q,Q=zg names gs sg:=⟨_,rfl⟩
 rw [←hR,←hQ]
 unfold zg at hQ
 rw [←hR]at hQ
 unfold ji at hR
 obtain ⟨e,he⟩: ∃e,e=sgE names gs:=⟨_,rfl⟩
 rw [←he]at c49 hR
 by_cases g0: ¬e=0
 ·have k0:(e=0)=False:=eq_false g0
  rw [if_pos g0]at hR
  rw [if_neg (by omega)]at hQ
  rw [hR,hQ]
  refine acO qvi ?_
  simp (disch:=omega) only [qxv,List.replicate,strs,qu,k0,go_sem]
  unfold strs qu at c49
  repeat' first
   |((first|refine cA (c49 _) ?_ ?_|refine cG (fun e=>c49 _) ?_ ?_|refine cU (fun _=>c49 _) ?_ ?_);(next=>exact flk);simp (disch:=omega) only [strs,qu,k0,go_sem])
   |((first|apply qc|apply qb);exact rvk;simp only [go_sem];first|exact VLe.refl _|apply qd|apply qa|apply qe|skip)
   |with_reducible first|refine And.intro ?_ ?_|intro _
  all_goals try exact clz
  exact zd
 have g0:e=0:=Classical.not_not.1 g0
 have k0:(e=0)=True:=eq_true g0
 rw [if_neg (fun hc=>hc g0)]at hR
 have hok:=qbx (he.symm.trans g0)
 have h32:=hok.n32
 unfold strs qu at c49
 refine acO qvi ?_
 simp (disch:=omega) only [qxv,List.replicate,strs,qu,go_sem]
 repeat' first
  |((first|refine cA (c49 _) ?_ ?_|refine cG (fun e=>c49 _) ?_ ?_|refine cU (fun _=>c49 _) ?_ ?_);(next=>exact flk);simp (disch:=omega) only [strs,qu,k0,go_sem])
  |((first|apply qc|apply qb);exact rvk;simp only [go_sem];first|exact VLe.refl _|apply qd|apply qa|apply qe|skip)
  |with_reducible first|refine And.intro ?_ ?_|intro _
 all_goals try exact clz
 have eM:zr [AV.int .i64 0] 0=qp (qfU names gs sg 0):=rfl
 rw [eM]
 refine qn (T:=fun i:Nat×Nat×Nat=>qI 81 [(0,strs names),(1,qu gs),(2,strs sg),(8,.osl (h.length+1) i.2.1 1 0 (qfU names gs sg i.1).length),(9,.int .i64 i.1)]) (H:=fun i=>h++ [.emp 1,.mem i.2.1 3 (qp (qfU names gs sg i.1)),.emp i.2.2,.emp 0,.emp 0,.emp 0,.emp 0,.emp 0])
  (inv:=fun i=>i.1≤sg.length∧(∀j,j<i.1→qao names gs sg j=0)∧(qfU names gs sg i.1).length≤1000*i.1) (m:=fun i=>sg.length-i.1) (0,1,0) ⟨Nat.zero_le _,fun j hj=>absurd hj (Nat.not_lt_zero j),by simp [qfU]⟩ (Wk.temps ?_) ?_
 ·(simp only [strs,qu,qfU,List.range_zero,List.map_nil,List.flatten_nil,List.length_nil,List.replicate,go_sem,qj,qh,qg,qi];try (repeat' first|(with_reducible refine And.intro ?_ ?_)|(apply qd;omega)|(apply qa;rfl)|exact VLe.refl _))
 rintro ⟨i,v,w⟩ ⟨i1,i2,i3⟩ K hK
 simp only at i1 i2 i3 hK
 have hst:=qir names gs sg i
 have hel:=qrc names gs (sg.getD i []) 1000 (by omega) hgm
 obtain ⟨L,hL⟩: ∃L,L=qfU names gs sg i:=⟨_,rfl⟩
 have eL:=hL.symm
 have eC:=qw L
 rw [eL]at hst i3
 by_cases hi:i<sg.length
 ·have k1:((i:Int)<sg.length)=True:=eq_true (by omega)
  have k2:((i:Int)≤sg.length)=True:=eq_true (by omega)
  have hE:=qP (f:=qao names gs sg) hi i2
  have hs:qao names gs sg i=if nIx names (sg.getD i [])<0∧gIx gs (sg.getD i [])<0 then 6 else if zS (fun j=>decide (sg.getD i []=sg.getD j [])) i=true then 7 else 0:=rfl
  obtain ⟨s,hsx⟩: ∃s,s=sg.getD i []:=⟨_,rfl⟩
  have es:=hsx.symm
  simp only [es]at hs hst hel
  have c54:=fun h=>qhB names.length (fun j=>names.getD j []) s h z1
  have c55:=fun h=>qz3 gs.length gs h (by omega)
  have c54b:=fun h=>qhB gs.length (fun j=>(gs.getD j default).name) s h (by omega)
  have c54c:=fun h=>qhB i (fun j=>sg.getD j []) s h (by omega)
  have hn:=kI names s
  have hg:=qaC gs s
  obtain ⟨n,hnx⟩: ∃n,n=nIx names s:=⟨_,rfl⟩
  obtain ⟨g,hgx⟩: ∃g,g=gIx gs s:=⟨_,rfl⟩
  have hnx':qbB (fun j=>decide (s=names.getD j [])) names.length 0=n:=hnx.symm
  have hgx':qbB (fun j=>decide (s=(gs.getD j default).name)) gs.length 0=g:=hgx.symm
  rw [hnx']at c54
  rw [hgx']at c54b
  rw [←hnx]at hn hs
  rw [←hgx]at hg hs
  simp only [grC,ql]at c55
  by_cases g1:n<0∧g<0
  ·have q1:(n<0)=True:=eq_true g1.1
   have q2:(g<0)=True:=eq_true g1.2
   rw [if_pos g1]at hs
   have hV:R=6:=by rw [hR,hE (by rw [hs];decide),hs]
   rw [hV,if_neg (by decide)]at hQ
   rw [hV,hQ]
   simp (disch:=omega) only [List.replicate,strs,qu,grC,ql,k1,k2,es,eL,go_sem]
   repeat' first
    |((first|refine cA (c54 _) ?_ ?_|refine cG (fun e=>c54 _) ?_ ?_|refine cA (c55 _) ?_ ?_|refine cG (fun e=>c55 _) ?_ ?_|refine cA (c54b _) ?_ ?_|refine cG (fun e=>c54b _) ?_ ?_|refine cU (fun _=>c54 _) ?_ ?_|refine cU (fun _=>c55 _) ?_ ?_|refine cU (fun _=>c54b _) ?_ ?_);(next=>exact flk);simp (disch:=omega) only [strs,qu,grC,ql,k1,k2,es,q1,q2,go_sem])
    |((first|apply qc|apply qb);exact rvk;simp only [go_sem];first|exact VLe.refl _|apply qd|apply qa|apply qe|skip)
    |with_reducible first|refine And.intro ?_ ?_|intro _
   all_goals try exact clz
   exact zd
  rw [if_neg g1]at hs
  have qf:((if n<0 then decide (g<0) else false)=true)=False:=eq_false (by
   split
   ·rename_i a;simp;exact Int.not_lt.1 (fun b=>g1 ⟨a,b⟩)
   ·simp)
  rcases qgd (fun j=>decide (s=sg.getD j [])) i with ⟨g2,m,hm0,g2'⟩|⟨g2,g2'⟩
  ·rw [g2']at c54c
   rw [if_pos g2]at hs
   have k3:((0:Int)≤m)=True:=eq_true hm0
   have hV:R=7:=by rw [hR,hE (by rw [hs];decide),hs]
   rw [hV,if_neg (by decide)]at hQ
   rw [hV,hQ]
   by_cases g3:n<0
   ·have q1:(n<0)=True:=eq_true g3
    have q2:(g<0)=False:=eq_false (fun hc=>g1 ⟨g3,hc⟩)
    simp (disch:=omega) only [List.replicate,strs,qu,grC,ql,k1,k2,es,eL,Nat.sub_zero,go_sem]
    repeat' first
     |((first|refine cA (c54 _) ?_ ?_|refine cG (fun e=>c54 _) ?_ ?_|refine cA (c55 _) ?_ ?_|refine cG (fun e=>c55 _) ?_ ?_|refine cA (c54b _) ?_ ?_|refine cG (fun e=>c54b _) ?_ ?_|refine cA (c54c _) ?_ ?_|refine cG (fun e=>c54c _) ?_ ?_|refine cU (fun _=>c54 _) ?_ ?_|refine cU (fun _=>c55 _) ?_ ?_|refine cU (fun _=>c54b _) ?_ ?_|refine cU (fun _=>c54c _) ?_ ?_);(next=>exact flk);simp (disch:=omega) only [strs,qu,grC,ql,k1,k2,es,q1,q2,k3,Nat.sub_zero,go_sem])
     |((first|apply qc|apply qb);exact rvk;simp only [go_sem];first|exact VLe.refl _|apply qd|apply qa|apply qe|skip)
     |with_reducible first|refine And.intro ?_ ?_|intro _
    all_goals try exact clz
    exact zd
   ·have q1:(n<0)=False:=eq_false g3
    simp (disch:=omega) only [List.replicate,strs,qu,grC,ql,k1,k2,es,eL,Nat.sub_zero,go_sem]
    repeat' first
     |((first|refine cA (c54 _) ?_ ?_|refine cG (fun e=>c54 _) ?_ ?_|refine cA (c55 _) ?_ ?_|refine cG (fun e=>c55 _) ?_ ?_|refine cA (c54b _) ?_ ?_|refine cG (fun e=>c54b _) ?_ ?_|refine cA (c54c _) ?_ ?_|refine cG (fun e=>c54c _) ?_ ?_|refine cU (fun _=>c54 _) ?_ ?_|refine cU (fun _=>c55 _) ?_ ?_|refine cU (fun _=>c54b _) ?_ ?_|refine cU (fun _=>c54c _) ?_ ?_);(next=>exact flk);simp (disch:=omega) only [strs,qu,grC,ql,k1,k2,es,q1,k3,Nat.sub_zero,go_sem])
     |((first|apply qc|apply qb);exact rvk;simp only [go_sem];first|exact VLe.refl _|apply qd|apply qa|apply qe|skip)
     |with_reducible first|refine And.intro ?_ ?_|intro _
    all_goals try exact clz
    exact zd
  rw [g2']at c54c
  rw [if_neg (by rw [g2];simp)]at hs
  have hi2: ∀j,j<i+1→qao names gs sg j=0:=fun j hj=>by
   by_cases e':j=i
   ·subst e';exact hs
   ·exact i2 j (by omega)
  have eT:List.take L.length (qp L)=qp L:=List.take_of_length_le (by omega)
  by_cases g3:n<0
  ·have q1:(n<0)=True:=eq_true g3
   have q2:(g<0)=False:=eq_false (fun hc=>g1 ⟨g3,hc⟩)
   have q3:(0≤n)=False:=eq_false (by omega)
   have eE:els names gs s=(gs.getD g.toNat default).mem:=by unfold els;rw [←hnx,←hgx,if_neg (by omega)]
   rcases hg with ⟨k,p1,p2,rfl⟩|⟨_,p2⟩
   ·rw [Int.toNat_natCast]at eE
    obtain ⟨y,hw⟩: ∃y,y=gs.getD k default:=⟨_,rfl⟩
    have ew:=hw.symm
    rw [ew]at eE
    rw [eE]at hst hel
    have q4:((k:Int)<gs.length)=True:=eq_true (by omega)
    have q5:(0≤(k:Int))=True:=eq_true (by omega)
    simp (disch:=omega) only [List.replicate,strs,qu,grC,ql,k1,k2,es,eL,Nat.sub_zero,Nat.mul_one,go_sem]
    repeat' first
     |((first|refine cA (c54 _) ?_ ?_|refine cG (fun e=>c54 _) ?_ ?_|refine cA (c55 _) ?_ ?_|refine cG (fun e=>c55 _) ?_ ?_|refine cA (c54b _) ?_ ?_|refine cG (fun e=>c54b _) ?_ ?_|refine cA (c54c _) ?_ ?_|refine cG (fun e=>c54c _) ?_ ?_|refine cU (fun _=>c54 _) ?_ ?_|refine cU (fun _=>c55 _) ?_ ?_|refine cU (fun _=>c54b _) ?_ ?_|refine cU (fun _=>c54c _) ?_ ?_);(next=>exact flk);simp (disch:=omega) only [strs,qu,grC,ql,k1,k2,es,eL,ew,q1,q2,q3,q4,q5,eC,eT,Nat.sub_zero,Nat.mul_one,go_sem])
     |((first|apply qc|apply qb);exact rvk;simp only [go_sem];first|exact VLe.refl _|apply qd|apply qa|apply qe|skip)
     |with_reducible first|refine And.intro ?_ ?_|intro _
    all_goals try exact clz
    ·rw [fmI];exact qw _
    rw [fmI,←qQ,←List.length_append,←hst]
    refine hK _ _ (i+1,v+1,w) ⟨hi,hi2,by simp only;rw [hst,List.length_append];omega⟩ (by simp only;omega) (Wk.temps ?_)
    (simp only [strs,qu,grC,ql,List.replicate,go_sem,qj,qh,qg,qi];try (repeat' first|(with_reducible refine And.intro ?_ ?_)|(apply qd;omega)|(apply qa;rfl)|exact VLe.refl _))
   ·exact absurd ⟨g3,by omega⟩ g1
  ·have q1:(n<0)=False:=eq_false g3
   have q3:(0≤n)=True:=eq_true (by omega)
   have eE:els names gs s= [n]:=by unfold els;rw [←hnx,if_pos (by omega)]
   rw [eE]at hst hel
   simp (disch:=omega) only [List.replicate,strs,qu,grC,ql,k1,k2,es,eL,Nat.sub_zero,Nat.mul_one,go_sem]
   repeat' first
    |((first|refine cA (c54 _) ?_ ?_|refine cG (fun e=>c54 _) ?_ ?_|refine cA (c55 _) ?_ ?_|refine cG (fun e=>c55 _) ?_ ?_|refine cA (c54b _) ?_ ?_|refine cG (fun e=>c54b _) ?_ ?_|refine cA (c54c _) ?_ ?_|refine cG (fun e=>c54c _) ?_ ?_|refine cU (fun _=>c54 _) ?_ ?_|refine cU (fun _=>c55 _) ?_ ?_|refine cU (fun _=>c54b _) ?_ ?_|refine cU (fun _=>c54c _) ?_ ?_);(next=>exact flk);simp (disch:=omega) only [strs,qu,grC,ql,k1,k2,es,eL,q1,q3,eC,eT,Nat.sub_zero,Nat.mul_one,go_sem])
    |((first|apply qc|apply qb);exact rvk;simp only [go_sem];first|exact VLe.refl _|apply qd|apply qa|apply qe|skip)
    |with_reducible first|refine And.intro ?_ ?_|intro _
   all_goals try exact clz
   have eA:qp L++ [AV.int .i64 n]=qp (L++ [n]):=by rw [qQ];rfl
   have eN:L.length+1=(L++ [n]).length:=by simp
   rw [eA,eN,←hst]
   refine hK _ _ (i+1,v+1,w+1+1) ⟨hi,hi2,by simp only;rw [hst,List.length_append,List.length_singleton];omega⟩ (by simp only;omega) (Wk.trans Wk.kill2 ?_)
   refine Wk.temps ?_
   (simp only [strs,qu,List.replicate,go_sem,qj,qh,qg,qi];try (repeat' first|(with_reducible refine And.intro ?_ ?_)|(apply qd;omega)|(apply qa;rfl)|exact VLe.refl _))
 have k1:((i:Int)<sg.length)=False:=eq_false (by omega)
 obtain rfl:i=sg.length:=by omega
 have hV:R=0:=by rw [hR];exact qC i2
 rw [if_pos hV,qrh hok i2,eL]at hQ
 rw [hV]
 simp (disch:=omega) only [List.replicate,strs,qu,k1,eL,go_sem]
 repeat' first
  |((first|apply qc|apply qb);exact rvk;simp only [go_sem];first|exact VLe.refl _|apply qd|apply qa|apply qe|skip)
  |with_reducible first|refine And.intro ?_ ?_|intro _
 all_goals try exact clz
 have eM2:zr [AV.int .i64 0] 0=qp (qY (fun k=>decide ((k:Int)∈L)) 0):=rfl
 rw [eM2]
 obtain ⟨p,hp⟩: ∃p:Nat→Bool,p=fun k:Nat=>decide ((k:Int)∈L):=⟨_,rfl⟩
 have ep: ∀k:Nat,decide ((k:Int)∈L)=p k:=fun k=>by rw [hp]
 rw [←hp]at hQ ⊢
 refine qn (T:=fun i:Nat×Nat×Nat=>qI 81 [(0,strs names),(8,.osl (h.length+1) v 1 0 L.length),(12,.osl (h.length+5) i.2.1 1 0 (qY p i.1).length),(13,.int .i64 i.1)]) (H:=fun i=>h++ [.emp 1,.mem v 3 (qp L),.emp w,.emp 0,.emp 0,.mem i.2.1 3 (qp (qY p i.1)),.emp i.2.2,.emp 0])
  (inv:=fun i=>i.1≤names.length) (m:=fun i=>names.length-i.1) (0,1,0) (Nat.zero_le _) (Wk.temps ?_) ?_
 ·(simp only [strs,qY,List.range_zero,List.filter_nil,List.map_nil,List.length_nil,List.replicate,go_sem,qj,qh,qg,qi];try (repeat' first|(with_reducible refine And.intro ?_ ?_)|(apply qd;omega)|(apply qa;rfl)|exact VLe.refl _))
 rintro ⟨k,v2,w2⟩ j1 K2 hK2
 simp only at j1 hK2
 have hst2:=jz p k
 have hln2:=qS p k
 obtain ⟨M,hM⟩: ∃M,M=qY p k:=⟨_,rfl⟩
 have eM:=hM.symm
 have eC2:=qw M
 rw [eM]at hst2 hln2
 by_cases hk:k<names.length
 ·have y1:((k:Int)<names.length)=True:=eq_true (by omega)
  have c56:=qvN (h.length+1) v 3 L k (h++ [.emp 1,.mem v 3 (qp L),.emp w,.emp 0,.emp 0,.mem v2 3 (qp M),.emp w2,.emp 0]) (by rw [getO_app];rfl) (by omega)
  rw [ep]at c56
  cases hb:p k with
  |true=>
   rw [hb]at c56 hst2
   have eT2:List.take M.length (qp M)=qp M:=List.take_of_length_le (by omega)
   simp (disch:=omega) only [List.replicate,strs,y1,eM,Nat.mul_one,go_sem]
   repeat' first
    |((first|refine cA (c56) ?_ ?_|refine cG (fun e=>c56) ?_ ?_);(next=>exact flk);simp (disch:=omega) only [strs,y1,eM,eC2,eT2,Nat.mul_one,go_sem])
    |((first|apply qc|apply qb);exact rvk;simp only [go_sem];first|exact VLe.refl _|apply qd|apply qa|apply qe|skip)
    |with_reducible first|refine And.intro ?_ ?_|intro _
   all_goals try exact clz
   rw [if_pos rfl]at hst2
   have eA:qp M++ [AV.int .i64 (k:Int)]=qp (M++ [(k:Int)]):=by rw [qQ];rfl
   have eN:M.length+1=(M++ [(k:Int)]).length:=by simp
   rw [eA,eN,←hst2]
   refine hK2 _ _ (k+1,v2+1,w2+1+1) hk (by simp only;omega) (Wk.trans Wk.kill6 (Wk.temps ?_))
   (simp only [strs,List.replicate,go_sem,qj,qh,qg,qi];try (repeat' first|(with_reducible refine And.intro ?_ ?_)|(apply qd;omega)|(apply qa;rfl)|exact VLe.refl _))
  |false=>
   rw [hb]at c56 hst2
   rw [if_neg (by simp),List.append_nil]at hst2
   simp (disch:=omega) only [List.replicate,strs,y1,eM,Nat.mul_one,go_sem]
   repeat' first
    |((first|refine cA (c56) ?_ ?_|refine cG (fun e=>c56) ?_ ?_);(next=>exact flk);simp (disch:=omega) only [strs,y1,eM,Nat.mul_one,go_sem])
    |((first|apply qc|apply qb);exact rvk;simp only [go_sem];first|exact VLe.refl _|apply qd|apply qa|apply qe|skip)
    |with_reducible first|refine And.intro ?_ ?_|intro _
   all_goals try exact clz
   refine hK2 _ _ (k+1,v2,w2) hk (by simp only;omega) ?_
   simp only [hst2]
   refine Wk.temps ?_
   (simp only [strs,List.replicate,go_sem,qj,qh,qg,qi];try (repeat' first|(with_reducible refine And.intro ?_ ?_)|(apply qd;omega)|(apply qa;rfl)|exact VLe.refl _))
 have y1:((k:Int)<names.length)=False:=eq_false (by omega)
 obtain rfl:k=names.length:=by omega
 rw [hQ,eM]
 simp (disch:=omega) only [List.replicate,strs,y1,eM,go_sem]
 repeat' first
  |((first|apply qc|apply qb);exact rvk;simp only [go_sem];first|exact VLe.refl _|apply qd|apply qa|apply qe|skip)
  |with_reducible first|refine And.intro ?_ ?_|intro _
 all_goals try exact clz
 rw [if_pos (by omega)]
 refine qT ⟨jd _ (fun n=>rfl) rfl,VLe.refl _,trivial⟩
end RC
end
section
open Go Go.Proofs AF HY LN
namespace RC
set_option maxHeartbeats 4000000
theorem qrC (l:List Int) (x:Int) (h:List AObj) (hn:l.length≤1000000000):qm Tryz.prog 111 [ql l,.int .i64 x] h (.bool (decide (x∈l))) h:=by
 have hmem: ∀i,i<l.length→(∀j,j<i→l.getD j 0≠x)→l.getD i 0=x→decide (x∈l)=true:=fun i hi _ e=>by
  refine decide_eq_true ?_
  rw [←e,gdqA,qR hi]
  exact List.getElem_mem hi
 have hno:(∀j,j<l.length→l.getD j 0≠x)→decide (x∈l)=false:=fun hh=>by
  refine decide_eq_false fun hm=> ?_
  obtain ⟨i,hi,e⟩:=List.getElem_of_mem hm
  refine hh i hi ?_
  rw [gdqA,qR hi]
  exact e
 obtain ⟨R,hR⟩: ∃R,R=decide (x∈l):=⟨_,rfl⟩
 rw [←hR]at hmem hno ⊢
 refine acO quH ?_
 simp (disch:=omega) only [qtE,List.replicate,ql,go_sem]
 repeat' first
  |((first|apply qc|apply qb);exact rvk;simp only [go_sem];first|exact VLe.refl _|apply qd|apply qa|apply qe|skip)
  |with_reducible first|refine And.intro ?_ ?_|intro _
 all_goals try exact clz
 refine qn (T:=fun i:Nat=>qI 18 [(0,ql l),(1,.int .i64 x),(5,.int .i64 i)]) (H:=fun _=>h) (inv:=fun i=>i≤l.length∧ ∀j,j<i→l.getD j 0≠x) (m:=fun i=>l.length-i) 0 ⟨Nat.zero_le _,fun j hj=>by omega⟩ (Wk.temps ?_) ?_
 ·(simp only [ql,List.replicate,go_sem,qj,qh,qg,qi];try (repeat' first|(with_reducible refine And.intro ?_ ?_)|(apply qd;omega)|(apply qa;rfl)|exact VLe.refl _))
 rintro i ⟨i1,i2⟩ K hK
 by_cases hi:i<l.length
 ·have k1:((i:Int)<l.length)=True:=eq_true (by omega)
  have hm:=hmem i hi i2
  obtain ⟨v,hv⟩: ∃v,v=l.getD i 0:=⟨_,rfl⟩
  have ev:=hv.symm
  rw [ev]at hm
  by_cases g0:v=x
  ·have k2:(v=x)=True:=eq_true g0
   rw [hm g0]
   simp (disch:=omega) only [List.replicate,ql,k1,k2,ev,go_sem]
   repeat' first
    |((first|apply qc|apply qb);exact rvk;simp only [go_sem];first|exact VLe.refl _|apply qd|apply qa|apply qe|skip)
    |with_reducible first|refine And.intro ?_ ?_|intro _
   all_goals try exact clz
  ·have k2:(v=x)=False:=eq_false g0
   simp (disch:=omega) only [List.replicate,ql,k1,k2,ev,go_sem]
   repeat' first
    |((first|apply qc|apply qb);exact rvk;simp only [go_sem];first|exact VLe.refl _|apply qd|apply qa|apply qe|skip)
    |with_reducible first|refine And.intro ?_ ?_|intro _
   all_goals try exact clz
   refine hK _ _ (i+1) ⟨hi,fun j hj=> ?_⟩ (by omega) (Wk.temps ?_)
   ·by_cases e:j=i
    ·subst e;rw [ev];exact g0
    ·exact i2 j (by omega)
   ·(simp only [ql,List.replicate,go_sem,qj,qh,qg,qi];try (repeat' first|(with_reducible refine And.intro ?_ ?_)|(apply qd;omega)|(apply qa;rfl)|exact VLe.refl _))
 ·have k1:((i:Int)<l.length)=False:=eq_false (by omega)
  rw [hno (fun j hj=>i2 j (by omega))]
  simp (disch:=omega) only [List.replicate,ql,k1,go_sem]
  repeat' first
   |((first|apply qc|apply qb);exact rvk;simp only [go_sem];first|exact VLe.refl _|apply qd|apply qa|apply qe|skip)
   |with_reducible first|refine And.intro ?_ ?_|intro _
  all_goals try exact clz
theorem qud (l:List Int) (h:List AObj) (hl:l.length≤1000000000) (hs:qae 64 l=0):qm Tryz.prog 143 [ql l] h (.int .i64 0) h:=by
 have hz:=kg.1 hs
 refine acO quV ?_
 simp (disch:=omega) only [qtQ,List.replicate,ql,go_sem]
 repeat' first
  |((first|apply qc|apply qb);exact rvk;simp only [go_sem];first|exact VLe.refl _|apply qd|apply qa|apply qe|skip)
  |with_reducible first|refine And.intro ?_ ?_|intro _
 all_goals try exact clz
 refine qn (T:=fun i:Nat=>qI 36 [(0,ql l),(3,.int .i64 i)]) (H:=fun _=>h) (inv:=fun i=>i≤l.length) (m:=fun i=>l.length-i) 0 (Nat.zero_le _) (Wk.temps ?_) ?_
 ·(simp only [ql,List.replicate,go_sem,qj,qh,qg,qi];try (repeat' first|(with_reducible refine And.intro ?_ ?_)|(apply qd;omega)|(apply qa;rfl)|exact VLe.refl _))
 rintro i i1 K hK
 by_cases hi:i<l.length
 ·have k1:((i:Int)<l.length)=True:=eq_true (by omega)
  have hs:=hz i hi
  unfold qbE at hs
  obtain ⟨v,hv⟩: ∃v,v=l.getD i 0:=⟨_,rfl⟩
  obtain ⟨u,hu⟩: ∃u,u=l.getD (i-1) 0:=⟨_,rfl⟩
  have ev:=hv.symm
  have eu:=hu.symm
  rw [ev,eu]at hs
  have hb: ¬(v<0∨64≤v):=fun hc=>by rw [if_pos hc]at hs;cases hs
  rw [if_neg hb]at hs
  have q1:(v<0)=False:=eq_false (by omega)
  have q2:((63:Int)<v)=False:=eq_false (by omega)
  by_cases g3:0<i
  ·have q3:((0:Int)<i)=True:=eq_true (by omega)
   have q4:((i:Int)-1).toNat=i-1:=by omega
   have q5:(0≤(i:Int)-1)=True:=eq_true (by omega)
   have q6:((i:Int)-1<l.length)=True:=eq_true (by omega)
   have q7:(v≤u)=False:=eq_false fun hc=>by rw [if_pos ⟨g3,hc⟩]at hs;cases hs
   simp (disch:=omega) only [List.replicate,ql,k1,ev,eu,q1,q2,q3,q4,q5,q6,q7,go_sem]
   repeat' first
    |((first|apply qc|apply qb);exact rvk;simp only [go_sem];first|exact VLe.refl _|apply qd|apply qa|apply qe|skip)
    |with_reducible first|refine And.intro ?_ ?_|intro _
   all_goals try exact clz
   refine hK _ _ (i+1) hi (by omega) (Wk.temps ?_)
   (simp only [ql,List.replicate,go_sem,qj,qh,qg,qi];try (repeat' first|(with_reducible refine And.intro ?_ ?_)|(apply qd;omega)|(apply qa;rfl)|exact VLe.refl _))
  ·have q3:((0:Int)<i)=False:=eq_false (by omega)
   simp (disch:=omega) only [List.replicate,ql,k1,ev,q1,q2,q3,go_sem]
   repeat' first
    |(refine qo ( .bool false) ?_;simp (disch:=omega) only [ql,k1,ev,q1,q2,q3,go_sem])
    |((first|apply qc|apply qb);exact rvk;simp only [go_sem];first|exact VLe.refl _|apply qd|apply qa|apply qe|skip)
    |with_reducible first|refine And.intro ?_ ?_|intro _
   all_goals try exact clz
   refine hK _ _ (i+1) hi (by omega) (Wk.temps ?_)
   (simp only [ql,List.replicate,go_sem,qj,qh,qg,qi];try (repeat' first|(with_reducible refine And.intro ?_ ?_)|(apply qd;omega)|(apply qa;rfl)|exact VLe.refl _))
 ·have k1:((i:Int)<l.length)=False:=eq_false (by omega)
  simp (disch:=omega) only [List.replicate,ql,k1,go_sem]
  repeat' first
   |((first|apply qc|apply qb);exact rvk;simp only [go_sem];first|exact VLe.refl _|apply qd|apply qa|apply qe|skip)
   |with_reducible first|refine And.intro ?_ ?_|intro _
  all_goals try exact clz
theorem qtz (a b:List Int) (h:List AObj) (ha:a.length≤1000000000) (hb:b.length≤1000000000) (sa:qae 64 a=0) (sb:qae 64 b=0):qm Tryz.prog 110 [ql a,ql b] h (.bool false) h:=by
 have c1:=fun h=>qud a h ha sa
 have c2:=fun h=>qud b h hb sb
 unfold ql at c1 c2
 refine acO quG ?_
 simp (disch:=omega) only [qtD,List.replicate,ql,go_sem]
 repeat' first
  |((first|refine cA (c1 _) ?_ ?_|refine cG (fun e=>c1 _) ?_ ?_|refine cA (c2 _) ?_ ?_|refine cG (fun e=>c2 _) ?_ ?_|refine cU (fun _=>c1 _) ?_ ?_|refine cU (fun _=>c2 _) ?_ ?_);(next=>exact flk);simp (disch:=omega) only [ql,go_sem])
  |((first|apply qc|apply qb);exact rvk;simp only [go_sem];first|exact VLe.refl _|apply qd|apply qa|apply qe|skip)
  |with_reducible first|refine And.intro ?_ ?_|intro _
 all_goals try exact clz
theorem qz5 (a b:List Int) (h:List AObj) (ha:a.length≤1000000000) (hb:b.length≤1000000000) (sa:qae 64 a=0) (sb:qae 64 b=0):
  qm Tryz.prog 71 [ql a,ql b] h (.tup [ql (qY (fun k=>decide ((k:Int)∈a)||decide ((k:Int)∈b)) 64),.int .i64 0]) h:=by
 have c0:=fun h=>qtz a b h ha hb sa sb
 unfold ql at c0
 obtain ⟨p,hp⟩: ∃p:Nat→Bool,p=fun k:Nat=>decide ((k:Int)∈a)||decide ((k:Int)∈b):=⟨_,rfl⟩
 have ep: ∀k:Nat,p k=(decide ((k:Int)∈a)||decide ((k:Int)∈b)):=fun k=>by rw [hp]
 rw [←hp]
 refine acO qyk ?_
 simp (disch:=omega) only [qzz,List.replicate,ql,go_sem]
 repeat' first
  |((first|refine cA (c0 _) ?_ ?_|refine cG (fun e=>c0 _) ?_ ?_|refine cU (fun _=>c0 _) ?_ ?_);(next=>exact flk);simp (disch:=omega) only [ql,go_sem])
  |((first|apply qc|apply qb);exact rvk;simp only [go_sem];first|exact VLe.refl _|apply qd|apply qa|apply qe|skip)
  |with_reducible first|refine And.intro ?_ ?_|intro _
 all_goals try exact clz
 have eM2:zr [AV.int .i64 0] 0=qp (qY p 0):=rfl
 rw [eM2]
 refine qn (T:=fun i:Nat×Nat×Nat=>qI 29 [(0,ql a),(1,ql b),(6,.osl (h.length+1) i.2.1 1 0 (qY p i.1).length),(7,.int .i64 i.1)]) (H:=fun i=>h++ [.emp 1,.mem i.2.1 3 (qp (qY p i.1)),.emp i.2.2,.emp 0])
  (inv:=fun i=>i.1≤64) (m:=fun i=>64-i.1) (0,1,0) (Nat.zero_le _) (Wk.temps ?_) ?_
 ·(simp only [ql,qY,List.range_zero,List.filter_nil,List.map_nil,List.length_nil,List.replicate,go_sem,qj,qh,qg,qi];try (repeat' first|(with_reducible refine And.intro ?_ ?_)|(apply qd;omega)|(apply qa;rfl)|exact VLe.refl _))
 rintro ⟨k,v2,w2⟩ j1 K2 hK2
 simp only at j1 hK2
 have hst2:=jz p k
 have hln2:=qS p k
 obtain ⟨M,hM⟩: ∃M,M=qY p k:=⟨_,rfl⟩
 have eM:=hM.symm
 have eC2:=qw M
 rw [eM]at hst2 hln2
 by_cases hk:k<64
 ·have y1:((k:Int)<64)=True:=eq_true (by omega)
  have c1:=fun h=>qrC a k h ha
  have c2:=fun h=>qrC b k h hb
  have epk:=ep k
  unfold ql at c1 c2
  cases hb1:decide ((k:Int)∈a)with
  |true=>
   rw [hb1]at c1 epk
   rw [Bool.true_or]at epk
   rw [epk,if_pos rfl]at hst2
   have eT2:List.take M.length (qp M)=qp M:=List.take_of_length_le (by omega)
   simp (disch:=omega) only [List.replicate,ql,y1,eM,Nat.mul_one,go_sem]
   repeat' first
    |(refine qo ( .bool false) ?_;simp (disch:=omega) only [ql,y1,eM,eC2,eT2,Nat.mul_one,go_sem])
    |((first|refine cA (c1 _) ?_ ?_|refine cG (fun e=>c1 _) ?_ ?_|refine cU (fun _=>c1 _) ?_ ?_);(next=>exact flk);simp (disch:=omega) only [ql,y1,eM,eC2,eT2,Nat.mul_one,go_sem])
    |((first|apply qc|apply qb);exact rvk;simp only [go_sem];first|exact VLe.refl _|apply qd|apply qa|apply qe|skip)
    |with_reducible first|refine And.intro ?_ ?_|intro _
   all_goals try exact clz
   have eA:qp M++ [AV.int .i64 (k:Int)]=qp (M++ [(k:Int)]):=by rw [qQ];rfl
   have eN:M.length+1=(M++ [(k:Int)]).length:=by simp
   rw [eA,eN,←hst2]
   refine hK2 _ _ (k+1,v2+1,w2+1+1) hk (by simp only;omega) (Wk.trans Wk.kill2 (Wk.temps ?_))
   (simp only [ql,List.replicate,go_sem,qj,qh,qg,qi];try (repeat' first|(with_reducible refine And.intro ?_ ?_)|(apply qd;omega)|(apply qa;rfl)|exact VLe.refl _))
  |false=>
   rw [hb1]at c1 epk
   rw [Bool.false_or]at epk
   cases hb2:decide ((k:Int)∈b)with
   |true=>
    rw [hb2]at c2 epk
    rw [epk,if_pos rfl]at hst2
    have eT2:List.take M.length (qp M)=qp M:=List.take_of_length_le (by omega)
    simp (disch:=omega) only [List.replicate,ql,y1,eM,Nat.mul_one,go_sem]
    repeat' first
     |((first|refine cA (c1 _) ?_ ?_|refine cG (fun e=>c1 _) ?_ ?_|refine cA (c2 _) ?_ ?_|refine cG (fun e=>c2 _) ?_ ?_|refine cU (fun _=>c1 _) ?_ ?_|refine cU (fun _=>c2 _) ?_ ?_);(next=>exact flk);simp (disch:=omega) only [ql,y1,eM,eC2,eT2,Nat.mul_one,go_sem])
     |((first|apply qc|apply qb);exact rvk;simp only [go_sem];first|exact VLe.refl _|apply qd|apply qa|apply qe|skip)
     |with_reducible first|refine And.intro ?_ ?_|intro _
    all_goals try exact clz
    have eA:qp M++ [AV.int .i64 (k:Int)]=qp (M++ [(k:Int)]):=by rw [qQ];rfl
    have eN:M.length+1=(M++ [(k:Int)]).length:=by simp
    rw [eA,eN,←hst2]
    refine hK2 _ _ (k+1,v2+1,w2+1+1) hk (by simp only;omega) (Wk.trans Wk.kill2 (Wk.temps ?_))
    (simp only [ql,List.replicate,go_sem,qj,qh,qg,qi];try (repeat' first|(with_reducible refine And.intro ?_ ?_)|(apply qd;omega)|(apply qa;rfl)|exact VLe.refl _))
   |false=>
    rw [hb2]at c2 epk
    rw [epk,if_neg (by simp),List.append_nil]at hst2
    simp (disch:=omega) only [List.replicate,ql,y1,eM,Nat.mul_one,go_sem]
    repeat' first
     |((first|refine cA (c1 _) ?_ ?_|refine cG (fun e=>c1 _) ?_ ?_|refine cA (c2 _) ?_ ?_|refine cG (fun e=>c2 _) ?_ ?_|refine cU (fun _=>c1 _) ?_ ?_|refine cU (fun _=>c2 _) ?_ ?_);(next=>exact flk);simp (disch:=omega) only [ql,y1,eM,Nat.mul_one,go_sem])
     |((first|apply qc|apply qb);exact rvk;simp only [go_sem];first|exact VLe.refl _|apply qd|apply qa|apply qe|skip)
     |with_reducible first|refine And.intro ?_ ?_|intro _
    all_goals try exact clz
    refine hK2 _ _ (k+1,v2,w2) hk (by simp only;omega) ?_
    simp only [hst2]
    refine Wk.temps ?_
    (simp only [ql,List.replicate,go_sem,qj,qh,qg,qi];try (repeat' first|(with_reducible refine And.intro ?_ ?_)|(apply qd;omega)|(apply qa;rfl)|exact VLe.refl _))
 have y1:((k:Int)<64)=False:=eq_false (by omega)
 obtain rfl:k=64:=by omega
 rw [eM]
 simp (disch:=omega) only [List.replicate,ql,y1,eM,go_sem]
 repeat' first
  |((first|apply qc|apply qb);exact rvk;simp only [go_sem];first|exact VLe.refl _|apply qd|apply qa|apply qe|skip)
  |with_reducible first|refine And.intro ?_ ?_|intro _
 all_goals try exact clz
 rw [if_pos (by omega)]
 refine qT ⟨jd _ (fun n=>rfl) rfl,VLe.refl _,trivial⟩
end RC
end
section
open Go Go.Proofs AF HY LN
namespace RC
set_option maxHeartbeats 4000000
def qe5 (a b:List Int) (i:Nat):List Int:=(a.take i).filter fun x=>decide (x∈b)
theorem qjX {a b:List Int} {i:Nat} (hi:i<a.length):qe5 a b (i+1)=qe5 a b i++if decide (a.getD i 0∈b)=true then [a.getD i 0] else []:=by
 unfold qe5
 rw [List.take_add_one,qR hi,gdqA,qR hi,List.filter_append]
 congr 1
 show List.filter _ [a[i]]=if decide (a[i]∈b)=true then [a[i]] else []
 rw [List.filter_cons]
 split<;>rfl
theorem qnw (a b:List Int) (i:Nat):(qe5 a b i).length≤i:=by
 unfold qe5
 have h1:=List.length_filter_le (fun x=>decide (x∈b)) (a.take i)
 have h2:=List.length_take_le i a
 omega
theorem qzS (a b:List Int) (h:List AObj) (ha:a.length≤1000000) (hb:b.length≤1000000000) (sa:qae 64 a=0) (sb:qae 64 b=0):
  qm Tryz.prog 70 [ql a,ql b] h (.tup [ql (qe5 a b a.length),.int .i64 0]) h:=by
 have c0:=fun h=>qtz a b h (by omega) hb sa sb
 unfold ql at c0
 refine acO qyj ?_
 simp (disch:=omega) only [qzy,List.replicate,ql,go_sem]
 repeat' first
  |((first|refine cA (c0 _) ?_ ?_|refine cG (fun e=>c0 _) ?_ ?_|refine cU (fun _=>c0 _) ?_ ?_);(next=>exact flk);simp (disch:=omega) only [ql,go_sem])
  |((first|apply qc|apply qb);exact rvk;simp only [go_sem];first|exact VLe.refl _|apply qd|apply qa|apply qe|skip)
  |with_reducible first|refine And.intro ?_ ?_|intro _
 all_goals try exact clz
 have eM2:zr [AV.int .i64 0] 0=qp (qe5 a b 0):=rfl
 rw [eM2]
 refine qn (T:=fun i:Nat×Nat×Nat=>qI 32 [(0,ql a),(1,ql b),(6,.osl (h.length+1) i.2.1 1 0 (qe5 a b i.1).length),(7,.int .i64 i.1)]) (H:=fun i=>h++ [.emp 1,.mem i.2.1 3 (qp (qe5 a b i.1)),.emp i.2.2,.emp 0])
  (inv:=fun i=>i.1≤a.length) (m:=fun i=>a.length-i.1) (0,1,0) (Nat.zero_le _) (Wk.temps ?_) ?_
 ·(simp only [ql,qe5,List.take_zero,List.filter_nil,List.length_nil,List.replicate,go_sem,qj,qh,qg,qi];try (repeat' first|(with_reducible refine And.intro ?_ ?_)|(apply qd;omega)|(apply qa;rfl)|exact VLe.refl _))
 rintro ⟨k,v2,w2⟩ j1 K2 hK2
 simp only at j1 hK2
 have hst2:= @qjX a b k
 have hln2:=qnw a b k
 obtain ⟨M,hM⟩: ∃M,M=qe5 a b k:=⟨_,rfl⟩
 have eM:=hM.symm
 have eC2:=qw M
 rw [eM]at hst2 hln2
 by_cases hk:k<a.length
 ·have y1:((k:Int)<a.length)=True:=eq_true (by omega)
  have hst2:=hst2 hk
  obtain ⟨x,hx⟩: ∃x,x=a.getD k 0:=⟨_,rfl⟩
  have ex:=hx.symm
  rw [ex]at hst2
  have c1:=fun h=>qrC b x h hb
  unfold ql at c1
  cases hb1:decide (x∈b)with
  |true=>
   rw [hb1]at c1 hst2
   rw [if_pos rfl]at hst2
   have eT2:List.take M.length (qp M)=qp M:=List.take_of_length_le (by omega)
   simp (disch:=omega) only [List.replicate,ql,y1,eM,ex,Nat.mul_one,go_sem]
   repeat' first
    |((first|refine cA (c1 _) ?_ ?_|refine cG (fun e=>c1 _) ?_ ?_|refine cU (fun _=>c1 _) ?_ ?_);(next=>exact flk);simp (disch:=omega) only [ql,y1,eM,ex,eC2,eT2,Nat.mul_one,go_sem])
    |((first|apply qc|apply qb);exact rvk;simp only [go_sem];first|exact VLe.refl _|apply qd|apply qa|apply qe|skip)
    |with_reducible first|refine And.intro ?_ ?_|intro _
   all_goals try exact clz
   have eA:qp M++ [AV.int .i64 x]=qp (M++ [x]):=by rw [qQ];rfl
   have eN:M.length+1=(M++ [x]).length:=by simp
   rw [eA,eN,←hst2]
   refine hK2 _ _ (k+1,v2+1,w2+1+1) hk (by simp only;omega) (Wk.trans Wk.kill2 (Wk.temps ?_))
   (simp only [ql,List.replicate,go_sem,qj,qh,qg,qi];try (repeat' first|(with_reducible refine And.intro ?_ ?_)|(apply qd;omega)|(apply qa;rfl)|exact VLe.refl _))
  |false=>
   rw [hb1]at c1 hst2
   rw [if_neg (by simp),List.append_nil]at hst2
   simp (disch:=omega) only [List.replicate,ql,y1,eM,ex,Nat.mul_one,go_sem]
   repeat' first
    |((first|refine cA (c1 _) ?_ ?_|refine cG (fun e=>c1 _) ?_ ?_|refine cU (fun _=>c1 _) ?_ ?_);(next=>exact flk);simp (disch:=omega) only [ql,y1,eM,ex,Nat.mul_one,go_sem])
    |((first|apply qc|apply qb);exact rvk;simp only [go_sem];first|exact VLe.refl _|apply qd|apply qa|apply qe|skip)
    |with_reducible first|refine And.intro ?_ ?_|intro _
   all_goals try exact clz
   refine hK2 _ _ (k+1,v2,w2) hk (by simp only;omega) ?_
   simp only [hst2]
   refine Wk.temps ?_
   (simp only [ql,List.replicate,go_sem,qj,qh,qg,qi];try (repeat' first|(with_reducible refine And.intro ?_ ?_)|(apply qd;omega)|(apply qa;rfl)|exact VLe.refl _))
 have y1:((k:Int)<a.length)=False:=eq_false (by omega)
 obtain rfl:k=a.length:=by omega
 rw [eM]
 simp (disch:=omega) only [List.replicate,ql,y1,eM,go_sem]
 repeat' first
  |((first|apply qc|apply qb);exact rvk;simp only [go_sem];first|exact VLe.refl _|apply qd|apply qa|apply qe|skip)
  |with_reducible first|refine And.intro ?_ ?_|intro _
 all_goals try exact clz
 rw [if_pos (by omega)]
 refine qT ⟨jd _ (fun n=>rfl) rfl,VLe.refl _,trivial⟩
theorem qjY (a b:List Int):decide (0<(qe5 a b a.length).length)=a.any fun x=>decide (x∈b):=by
 unfold qe5
 rw [List.take_length]
 cases h:a.any fun x=>decide (x∈b)with
 |true=>
  obtain ⟨x,h1,h2⟩:=List.any_eq_true.1 h
  exact decide_eq_true (List.length_pos_of_mem (List.mem_filter.2 ⟨h1,h2⟩))
 |false=>
  refine decide_eq_false ?_
  rw [List.filter_eq_nil_iff.2 fun x hx=>by simpa using List.any_eq_false.1 h x hx]
  simp
theorem jp {p:Nat→Bool} {n:Nat} {x:Int}:x∈qY p n↔ ∃k:Nat,k<n∧p k=true∧x=k:=by
 unfold qY
 constructor
 ·intro h
  obtain ⟨k,hk,rfl⟩:=List.mem_map.1 h
  obtain ⟨h1,h2⟩:=List.mem_filter.1 hk
  exact ⟨k,List.mem_range.1 h1,h2,rfl⟩
 ·rintro ⟨k,h1,h2,rfl⟩
  exact List.mem_map.2 ⟨k,List.mem_filter.2 ⟨List.mem_range.2 h1,h2⟩,rfl⟩
theorem qgi {p:Nat→Bool} {n:Nat} (hn:n≤64):qae 64 (qY p n)=0:=by
 unfold qae
 refine qC fun i hi=> ?_
 have hpw:(qY p n).Pairwise (· < ·):=by
  unfold qY
  rw [List.pairwise_map]
  refine List.Pairwise.imp ?_ (List.Pairwise.filter _ List.pairwise_lt_range)
  intro a b hab
  show (a:Int)<(b:Int)
  omega
 have g: ∀j (hj:j<(qY p n).length),(qY p n).getD j 0=(qY p n)[j]:=fun j hj=>by rw [gdqA,qR hj];rfl
 unfold qbE
 obtain ⟨k,h1,h2,h3⟩:=jp.1 (List.getElem_mem hi)
 rw [g i hi,if_neg (by rw [h3];omega)]
 split
 ·rename_i hc
  obtain ⟨h4,h5⟩:=hc
  rw [g (i-1) (by omega)]at h5
  have:=List.pairwise_iff_getElem.1 hpw (i-1) i (by omega) hi (by omega)
  omega
 ·rfl
end RC
end
section
open Go Go.Proofs AF HY LN
namespace RC
set_option maxHeartbeats 4000000
theorem smw (ws:List Str) (m:Nat) (k:Nat→Str) (h:List AObj) (h1:ws.length≤1000000000) (h2:m≤1000000000):
  qm Tryz.prog 85 [strs ws,.sl m (fun j=> [.str (k j)])] h (.bool (decide (ws.length=m∧ ∀i,i<ws.length→ws.getD i []=k i))) h:=by
 obtain ⟨R,hR⟩: ∃R,R=decide (ws.length=m∧ ∀i,i<ws.length→ws.getD i []=k i):=⟨_,rfl⟩
 rw [←hR]
 by_cases g:ws.length=m
 ·have k0:((ws.length:Int)=m)=True:=eq_true (by omega)
  refine acO qvz ?_
  simp (disch:=omega) only [qxK,List.replicate,strs,k0,go_sem]
  repeat' first
   |((first|apply qc|apply qb);exact rvk;simp only [go_sem];first|exact VLe.refl _|apply qd|apply qa|apply qe|skip)
   |with_reducible first|refine And.intro ?_ ?_|intro _
  all_goals try exact clz
  refine qn (T:=fun i:Nat=>qI 26 [(0,strs ws),(1,.sl m (fun j=> [.str (k j)])),(5,.int .i64 i)]) (H:=fun _=>h) (inv:=fun i=>i≤ws.length∧ ∀j,j<i→ws.getD j []=k j) (m:=fun i=>ws.length-i) 0 ⟨Nat.zero_le _,fun j hj=>by omega⟩ (Wk.temps ?_) ?_
  ·(simp only [strs,List.replicate,go_sem,qj,qh,qg,qi];try (repeat' first|(with_reducible refine And.intro ?_ ?_)|(apply qd;omega)|(apply qa;rfl)|exact VLe.refl _))
  rintro i ⟨i1,i2⟩ K hK
  by_cases hi:i<ws.length
  ·have k1:((i:Int)<ws.length)=True:=eq_true (by omega)
   have k3:((i:Int)<m)=True:=eq_true (by omega)
   obtain ⟨x,hx⟩: ∃x,x=ws.getD i []:=⟨_,rfl⟩
   have ex:=hx.symm
   by_cases e:x=k i
   ·have k2:(x=k i)=True:=eq_true e
    simp (disch:=omega) only [List.replicate,strs,k1,k2,k3,ex,go_sem]
    repeat' first
     |((first|apply qc|apply qb);exact rvk;simp only [go_sem];first|exact VLe.refl _|apply qd|apply qa|apply qe|skip)
     |with_reducible first|refine And.intro ?_ ?_|intro _
    all_goals try exact clz
    refine hK _ _ (i+1) ⟨hi,fun j hj=> ?_⟩ (by omega) (Wk.temps ?_)
    ·by_cases e':j=i
     ·subst e';rw [ex];exact e
     ·exact i2 j (by omega)
    ·(simp only [strs,List.replicate,go_sem,qj,qh,qg,qi];try (repeat' first|(with_reducible refine And.intro ?_ ?_)|(apply qd;omega)|(apply qa;rfl)|exact VLe.refl _))
   ·have k2:(x=k i)=False:=eq_false e
    have hV:R=false:=by rw [hR];exact decide_eq_false fun hc=>e (by rw [←ex];exact hc.2 i hi)
    rw [hV]
    simp (disch:=omega) only [List.replicate,strs,k1,k2,k3,ex,go_sem]
    repeat' first
     |((first|apply qc|apply qb);exact rvk;simp only [go_sem];first|exact VLe.refl _|apply qd|apply qa|apply qe|skip)
     |with_reducible first|refine And.intro ?_ ?_|intro _
    all_goals try exact clz
  ·have k1:((i:Int)<ws.length)=False:=eq_false (by omega)
   have hV:R=true:=by rw [hR];exact decide_eq_true ⟨g,fun j hj=>i2 j (by omega)⟩
   rw [hV]
   simp (disch:=omega) only [List.replicate,strs,k1,go_sem]
   repeat' first
    |((first|apply qc|apply qb);exact rvk;simp only [go_sem];first|exact VLe.refl _|apply qd|apply qa|apply qe|skip)
    |with_reducible first|refine And.intro ?_ ?_|intro _
   all_goals try exact clz
 ·have k0:((ws.length:Int)=m)=False:=eq_false (by omega)
  have hV:R=false:=by rw [hR];exact decide_eq_false fun hc=>g hc.1
  rw [hV]
  refine acO qvz ?_
  simp (disch:=omega) only [qxK,List.replicate,strs,k0,go_sem]
  repeat' first
   |((first|apply qc|apply qb);exact rvk;simp only [go_sem];first|exact VLe.refl _|apply qd|apply qa|apply qe|skip)
   |with_reducible first|refine And.intro ?_ ?_|intro _
  all_goals try exact clz
theorem qxj (a b:List Str) (h:List AObj) (h1:a.length≤1000000000) (h2:b.length≤1000000000):
  qm Tryz.prog 85 [strs a,strs b] h (.bool (decide (a=b))) h:=by
 have c:=smw a b.length (fun j=>b.getD j []) h h1 h2
 have e:decide (a.length=b.length∧ ∀i,i<a.length→a.getD i []=b.getD i [])=decide (a=b):=decide_eq_decide.2 (qah ([]:Str)).symm
 rw [e]at c
 exact c
end RC
end
section
open Go Go.Proofs AF HY LN
namespace RC
def zZ (names:List Str) (gs:List Gr) (e:En):Nat→List Int×Bool
 |0=>(zg names gs e.sup,false)
 |i+1=>(qY (fun k=>decide ((k:Int)∈(zZ names gs e i).1)||decide ((k:Int)∈zg names gs (e.vars.getD i default).sigla)) 64,(zZ names gs e i).2||(zZ names gs e i).1.any fun x=>decide (x∈zg names gs (e.vars.getD i default).sigla))
theorem zW (names:List Str) (gs:List Gr) (e:En) (i:Nat):zZ names gs e (i+1)=(qY (fun k=>decide ((k:Int)∈(zZ names gs e i).1)||decide ((k:Int)∈zg names gs (e.vars.getD i default).sigla)) 64,(zZ names gs e i).2||(zZ names gs e i).1.any fun x=>decide (x∈zg names gs (e.vars.getD i default).sigla)):=rfl
theorem kO (names:List Str) (gs:List Gr) (sg:List Str):qae 64 (zg names gs sg)=0∧(zg names gs sg).length≤64:=by
 unfold zg
 split
 ·exact ⟨qgi (by omega),qS _ _⟩
 ·exact ⟨rfl,Nat.zero_le _⟩
theorem qeL (names:List Str) (gs:List Gr) (e:En) (i:Nat):qae 64 (zZ names gs e i).1=0∧(zZ names gs e i).1.length≤64:=by
 cases i with
 |zero=>exact kO _ _ _
 |succ i=>rw [zW];exact ⟨qgi (by omega),qS _ _⟩
theorem qm0 (L:List Int): ∀(C:List Int) (j:Nat),L.Nodup→(∀x∈L,0≤x∧x<C.length)→j<C.length→(qb1 C L).getD j 0=C.getD j 0+if (j:Int)∈L then 1 else 0:=by
 induction L with
 |nil=>intro C j _ _ _;simp [qb1]
 |cons n L ih=>
  intro C j hn hL hj
  obtain ⟨h1,h2⟩:=List.nodup_cons.1 hn
  have hb:=hL n (by simp)
  show (qb1 (C.set n.toNat (C.getD n.toNat 0+1)) L).getD j 0=_
  rw [ih _ j h2 (fun x hx=>by rw [List.length_set];exact hL x (by simp [hx])) (by rw [List.length_set];exact hj)]
  by_cases e:(j:Int)=n
  ·have e2:n.toNat=j:=by omega
   have e3: ¬(j:Int)∈L:=by rw [e];exact h1
   rw [if_neg e3,if_pos (by rw [e];simp),e2]
   have:(C.set j (C.getD j 0+1)).getD j 0=C.getD j 0+1:=by
    rw [gdqA,List.getElem?_set_self hj];rfl
   rw [this]
   omega
  ·have e2: ¬n.toNat=j:=by omega
   have:(C.set n.toNat (C.getD n.toNat 0+1)).getD j 0=C.getD j 0:=by
    rw [gdqA,List.getElem?_set_ne e2,←gdqA]
   rw [this]
   congr 1
   simp [e]
theorem kS (p:Nat→Bool) (n:Nat):(qY p n).Nodup:=by
 unfold qY
 rw [List.Nodup,List.pairwise_map]
 refine List.Pairwise.imp ?_ (List.Pairwise.filter _ List.nodup_range)
 intro a b hab hc
 exact hab (by have hx:(a:Int)=(b:Int):=hc;omega)
theorem qcI (names:List Str) (gs:List Gr) (sg:List Str):(zg names gs sg).Nodup:=by
 unfold zg
 split
 ·exact kS _ _
 ·exact List.nodup_nil
structure qw7 (A:List Int) (B:Bool) (C:List Int):Prop where
 len:C.length=32
 rng: ∀x∈A,0≤x∧x<32
 mem: ∀k:Nat,k<32→((k:Int)∈A↔1≤C.getD k 0)
 nn: ∀k:Nat,k<32→0≤C.getD k 0
 tw:B=true↔ ∃k:Nat,k<32∧1<C.getD k 0
theorem qgc {A O A' C:List Int} {B:Bool} (h:qw7 A B C) (ho:O.Nodup) (hr: ∀x∈O,0≤x∧x<32) (hA: ∀x,x∈A'↔x∈A∨x∈O):qw7 A' (B||A.any fun x=>decide (x∈O)) (qb1 C O):=by
 have hl:=h.len
 have hg:=fun (k:Nat) (hk:k<32)=>qm0 O C k ho (fun x hx=>by have:=hr x hx;omega) (by omega)
 refine ⟨by rw [qbK,hl],fun x hx=> ?_,fun k hk=> ?_,fun k hk=> ?_,?_⟩
 ·rcases (hA x).1 hx with hx|hx
  ·exact h.rng x hx
  ·exact hr x hx
 ·rw [hA,h.mem k hk,hg k hk]
  have:=h.nn k hk
  by_cases e:(k:Int)∈O
  ·rw [if_pos e]
   exact ⟨fun _=>by omega,fun _=> .inr e⟩
  ·rw [if_neg e]
   constructor
   ·rintro (h1|h1)
    ·omega
    ·exact absurd h1 e
   ·intro h1;exact .inl (by omega)
 ·rw [hg k hk]
  have:=h.nn k hk
  split<;>omega
 ·rw [Bool.or_eq_true,h.tw,List.any_eq_true]
  constructor
  ·rintro (⟨k,hk,h1⟩|⟨x,hx,h1⟩)
   ·refine ⟨k,hk,?_⟩
    rw [hg k hk]
    split<;>omega
   ·have h1:=of_decide_eq_true h1
    have hx2:=h.rng x hx
    have e:((x.toNat:Nat):Int)=x:=by omega
    refine ⟨x.toNat,by omega,?_⟩
    rw [hg _ (by omega),e,if_pos h1]
    have:=(h.mem x.toNat (by omega)).1 (by rw [e];exact hx)
    omega
  ·rintro ⟨k,hk,h1⟩
   rw [hg k hk]at h1
   by_cases e:(k:Int)∈O
   ·rw [if_pos e]at h1
    exact .inr ⟨(k:Int),(h.mem k hk).2 (by omega),decide_eq_true e⟩
   ·rw [if_neg e]at h1
    exact .inl ⟨k,hk,by omega⟩
theorem qrM:qw7 [] false (List.replicate 32 0):=by
 have g: ∀k:Nat,k<32→(List.replicate 32 (0:Int)).getD k 0=0:=fun k hk=>by
  rw [gdqA,List.getElem?_replicate,if_pos hk];rfl
 refine ⟨by simp,fun x hx=>by simp at hx,fun k hk=> ?_,fun k hk=> ?_,?_⟩
 ·rw [g k hk];simp
 ·rw [g k hk];omega
 ·constructor
  ·intro h;cases h
  ·rintro ⟨k,hk,h1⟩;rw [g k hk]at h1;omega
theorem qeK (names:List Str) (gs:List Gr) (e:En): ∀i,qw7 (zZ names gs e i).1 (zZ names gs e i).2 (cnt names gs e i):=by
 have hO:=fun sg=>zI (@qf4 names gs sg)
 intro i
 induction i with
 |zero=>
  have:=qgc (A':=zg names gs e.sup) qrM (qcI names gs e.sup) (hO e.sup) (fun x=>by simp)
  exact this
 |succ i ih=>
  rw [zW]
  unfold cnt
  refine qgc ih (qcI _ _ _) (hO _) (fun x=> ?_)
  rw [jp]
  constructor
  ·rintro ⟨k,hk,h1,rfl⟩
   simpa using h1
  ·intro hx
   have hb:0≤x∧x<32:=by
    rcases hx with hx|hx
    ·exact ih.rng x hx
    ·exact hO _ x hx
   have e:((x.toNat:Nat):Int)=x:=by omega
   refine ⟨x.toNat,by omega,?_,e.symm⟩
   simp only [e]
   simpa using hx
theorem jQ (names:List Str) (gs:List Gr) (e:En) (i:Nat):qh5 (cnt names gs e i)=(zZ names gs e i).2:=by
 have h:=qeK names gs e i
 unfold qh5
 rw [h.len,Bool.eq_iff_iff,h.tw,qW]
 simp only [decide_eq_true_eq]
end RC
end
