/-
  AF0: the abstract values and the relation between them and the model's values and memory.
-/
import Derived.RangeFuncIn
import Derived.RangeFuncLeaves
import Derived.Room.AppendOwn
import Derived.Laws.OwnMore
set_option linter.all false
set_option linter.unusedSimpArgs false
set_option linter.unusedVariables false
set_option linter.unusedSectionVars false
namespace AF
open Go

/-- Abstract values. `sl n f`: an unchanging slice of n elements, element i being the cells `f i`. -/
inductive AV where
  | undef
  | bool (b : Bool)
  | int (k : IntKind) (n : Int)
  | str (s : List UInt8)
  | sl (n : Nat) (f : Nat → List AV)
  | osl (k ver sz off len : Nat)
  | agg (cs : List AV)
  | tup (vs : List AV)
  | ip (cs : List AV)
  | op (k ver off : Nat)
  | nilp
  | nl
  | fn (f : Fn) (first captured : List AV)
  | yld (k : Nat)
  | nilfn
  | ifc
  | nilif
  | gd (g : Bool) (v : AV)
  | anyb
  deriving Inhabited

/-- A loop over a function: its code. -/
structure LInfo where
  ps : Array Tmp
  asg : Code
  body : Code
  deriving Inhabited

/-- How far a loop over a function is: ready for a round, in one, or left in some way. -/
inductive LS where
  | ready
  | busy
  | ret
  | exit (id : Nat)
  deriving Inhabited

/-- Objects that the code may change: a block of cells (the first ones known), or the record of a loop over a function, with the temporaries of its rounds. -/
inductive AObj where
  | mem (ver : Nat) (ty : TypeId) (cs : List AV)
  | emp (ver : Nat)
  | lp (s : LS) (ts : List AV) (L : LInfo)
  deriving Inhabited

def lsOk (s : LS) (r : Loop) : Prop :=
  match s with
  | .ready => r.state = .ready ∧ r.pending = none
  | .busy => r.state = .busy
  | .ret => r.state = .done ∧ r.pending = some .ret
  | .exit id => r.state = .done ∧ r.pending = some (.exit id)

/-- Where an object lies. -/
structure OB where
  blk : Option Nat
  ver : Nat
  size : Nat
  ty : TypeId

def own (σ : List OB) (b : Nat) : Prop := ∃ (k : Nat) (o : OB), σ[k]? = some o ∧ o.blk = some b

/-- An unchanging value: it reaches cells of blocks that are not owned alone. -/
inductive VI (w : World) (ow : Nat → Prop) : AV → Value → Prop
  | undef {v} : VI w ow .undef v
  | bool {b} : VI w ow (.bool b) (.bool b)
  | int {k n} : VI w ow (.int k n) (.int k n)
  | str {s} : VI w ow (.str s) (.string ⟨s.toArray⟩)
  | nilp : VI w ow .nilp (.pointer none)
  | nl : VI w ow .nl (.slice none 0 0)
  | nilfn : VI w ow .nilfn .nilFunc
  | nilif : VI w ow .nilif .nilIface
  | ifc {t v} : VI w ow .ifc (.iface t v)
  | anyb {b} : VI w ow .anyb (.bool b)
  | nilsl {f} : VI w ow (.sl 0 f) (.slice none 0 0)
  | sl {n f} (sz b off cap : Nat) (vals : Nat → Nat → Value) (hn : n ≤ cap) (hm : cap ≤ maxLen) (hb : 0 < n → ¬ ow b) (hlt : b < w.heap.size)
      (hsz : ∀ i, i < n → (f i).length = sz)
      (hc : ∀ (i j : Nat), i < n → j < sz → w.cell? ⟨b, off + i * sz + j, none⟩ = some (vals i j)) (h1 : ∀ (i j : Nat), i < n → j < sz → (vals i j).oneCell' = true)
      (hv : ∀ (i j : Nat) c, i < n → (f i)[j]? = some c → VI w ow c (vals i j)) : VI w ow (.sl n f) (.slice (some ⟨b, off, none⟩) n cap)
  | agg {cs : List AV} {vs : Array Value} (hl : vs.size = cs.length) (h1 : ∀ (i : Nat) x, vs[i]? = some x → x.oneCell' = true) (h : ∀ (i : Nat) c x, cs[i]? = some c → vs[i]? = some x → VI w ow c x) : VI w ow (.agg cs) (.agg vs)
  | tup {cs : List AV} {vs : Array Value} (hl : vs.size = cs.length) (h : ∀ (i : Nat) c x, cs[i]? = some c → vs[i]? = some x → VI w ow c x) : VI w ow (.tup cs) (.tuple vs)
  | ip {cs : List AV} (b off : Nat) (vals : Nat → Value) (hb : ¬ ow b) (hlt : b < w.heap.size)
      (hc : ∀ (j : Nat), j < cs.length → w.cell? ⟨b, off + j, none⟩ = some (vals j)) (h1 : ∀ (j : Nat), j < cs.length → (vals j).oneCell' = true)
      (hv : ∀ (j : Nat) c, cs[j]? = some c → VI w ow c (vals j)) : VI w ow (.ip cs) (.pointer (some ⟨b, off, none⟩))
  | fn {f : Fn} {cs ds : List AV} {vs us : Array Value} (hl : vs.size = cs.length) (hl' : us.size = ds.length)
      (h : ∀ (i : Nat) c x, cs[i]? = some c → vs[i]? = some x → VI w ow c x) (h' : ∀ (i : Nat) c x, ds[i]? = some c → us[i]? = some x → VI w ow c x) :
      VI w ow (.fn f cs ds) (.func f vs us)

theorem cell_deferred {w : World} {b j : Nat} {d : Option (List Deferred)} (h : w.heap[b]? = some (.deferred d)) (v : Value) : w.cell? ⟨b, j, none⟩ ≠ some v := by
  intro hc
  simp [World.cell?, h] at hc

theorem VI.mono' {w w' : World} {ow ow' : Nat → Prop} (hk : ∀ b, b < w.heap.size → ¬ ow b → w'.heap[b]? = w.heap[b]? ∨ ∃ d, w.heap[b]? = some (.deferred d))
    (hs : w.heap.size ≤ w'.heap.size) (ho : ∀ b, ow' b → ow b ∨ w.heap.size ≤ b) {a : AV} {v : Value} (h : VI w ow a v) : VI w' ow' a v := by
  induction h with
  | undef => exact .undef
  | bool => exact .bool
  | int => exact .int
  | str => exact .str
  | nilp => exact .nilp
  | nl => exact .nl
  | nilfn => exact .nilfn
  | nilif => exact .nilif
  | ifc => exact .ifc
  | anyb => exact .anyb
  | nilsl => exact .nilsl
  | sl sz b off cap vals hn hm hb hlt hsz hc h1 hv ih =>
    refine .sl sz b off cap vals hn hm (fun h0 hw => ?_) (by omega) hsz (fun i j hi hj => ?_) h1 ih
    · rcases ho b hw with h | h
      · exact hb h0 h
      · omega
    · rw [← hc i j hi hj]
      rcases hk b hlt (hb (by omega)) with h | ⟨d, h⟩
      · exact World.cell?_of_block h
      · exact absurd (hc i j hi hj) (cell_deferred h _)
  | agg hl h1 h ih => exact .agg hl h1 ih
  | tup hl h ih => exact .tup hl ih
  | @ip cs b off vals hb hlt hc h1 hv ih =>
    refine .ip b off vals (fun hw => ?_) (by omega) (fun j hj => ?_) h1 ih
    · rcases ho b hw with h | h
      · exact hb h
      · omega
    · rw [← hc j hj]
      rcases hk b hlt hb with h | ⟨d, h⟩
      · exact World.cell?_of_block h
      · exact absurd (hc j hj) (cell_deferred h _)
  | fn hl hl' h h' ih ih' => exact .fn hl hl' ih ih'

theorem VI.mono {w w' : World} {ow ow' : Nat → Prop} (hk : ∀ b, b < w.heap.size → ¬ ow b → w'.heap[b]? = w.heap[b]?)
    (hs : w.heap.size ≤ w'.heap.size) (ho : ∀ b, ow' b → ow b ∨ w.heap.size ≤ b) {a : AV} {v : Value} (h : VI w ow a v) : VI w' ow' a v := by
  induction h with
  | undef => exact .undef
  | bool => exact .bool
  | int => exact .int
  | str => exact .str
  | nilp => exact .nilp
  | nl => exact .nl
  | nilfn => exact .nilfn
  | nilif => exact .nilif
  | ifc => exact .ifc
  | anyb => exact .anyb
  | nilsl => exact .nilsl
  | sl sz b off cap vals hn hm hb hlt hsz hc h1 hv ih =>
    refine .sl sz b off cap vals hn hm (fun h0 hw => ?_) (by omega) hsz (fun i j hi hj => ?_) h1 ih
    · rcases ho b hw with h | h
      · exact hb h0 h
      · omega
    · rw [← hc i j hi hj]
      exact World.cell?_of_block (hk b hlt (hb (by omega)))
  | agg hl h1 h ih => exact .agg hl h1 ih
  | tup hl h ih => exact .tup hl ih
  | ip b off vals hb hlt hc h1 hv ih =>
    refine .ip b off vals (fun hw => ?_) (by omega) (fun j hj => ?_) h1 ih
    · rcases ho b hw with h | h
      · exact hb h
      · omega
    · rw [← hc j hj]
      exact World.cell?_of_block (hk b hlt hb)
  | fn hl hl' h h' ih ih' => exact .fn hl hl' ih ih'

/-- A value that may hold handles to objects. -/
inductive VR (w : World) (σ : List OB) : AV → Value → Prop
  | imm {a v} (h : VI w (own σ) a v) : VR w σ a v
  | osl {k ver sz off len v} (o : OB) (ho : σ[k]? = some o) (hs : ∃ a n c, v = Value.slice a n c) (hv : ver ≤ o.ver)
      (h : o.ver = ver → (o.blk = none ∧ off = 0 ∧ len = 0 ∧ v = .slice none 0 0) ∨
        (∃ b cap, o.blk = some b ∧ v = .slice (some ⟨b, off, none⟩) len cap ∧ len ≤ cap ∧ cap ≤ maxLen ∧ off + cap * sz = o.size)) : VR w σ (.osl k ver sz off len) v
  | op {k ver off v} (o : OB) (ho : σ[k]? = some o) (hs : ∃ a, v = Value.pointer a) (hv : ver ≤ o.ver) (h : o.ver = ver → ∃ b, o.blk = some b ∧ v = .pointer (some ⟨b, off, none⟩)) : VR w σ (.op k ver off) v
  | yld {k : Nat} {v} (o : OB) (ho : σ[k]? = some o) (hs : ∃ b, v = Value.func (.yield b) #[] #[]) (h : o.ver = 0 → ∃ b, o.blk = some b ∧ v = .func (.yield b) #[] #[]) : VR w σ (.yld k) v
  | agg {cs : List AV} {vs : Array Value} (hl : vs.size = cs.length) (h1 : ∀ (i : Nat) x, vs[i]? = some x → x.oneCell' = true) (h : ∀ (i : Nat) c x, cs[i]? = some c → vs[i]? = some x → VR w σ c x) : VR w σ (.agg cs) (.agg vs)
  | tup {cs : List AV} {vs : Array Value} (hl : vs.size = cs.length) (h : ∀ (i : Nat) c x, cs[i]? = some c → vs[i]? = some x → VR w σ c x) : VR w σ (.tup cs) (.tuple vs)
  | fn {f : Fn} {cs ds : List AV} {vs us : Array Value} (hl : vs.size = cs.length) (hl' : us.size = ds.length)
      (h : ∀ (i : Nat) c x, cs[i]? = some c → vs[i]? = some x → VR w σ c x) (h' : ∀ (i : Nat) c x, ds[i]? = some c → us[i]? = some x → VR w σ c x) :
      VR w σ (.fn f cs ds) (.func f vs us)
  | gd {g v x} (h : g = true → VR w σ v x) (h' : g = false → x = Go.undef) : VR w σ (.gd g v) x

/-- What a step of the code may do to the memory. -/
structure Ext (w : World) (σ : List OB) (w' : World) (σ' : List OB) : Prop where
  os : w'.os = w.os
  tape : w'.tape = w.tape
  output : w'.output = w.output
  size : w.heap.size ≤ w'.heap.size
  keep : ∀ b, b < w.heap.size → ¬ own σ b → w'.heap[b]? = w.heap[b]?
  own : ∀ b, own σ' b → own σ b ∨ w.heap.size ≤ b
  obj : ∀ (k : Nat) (o : OB), σ[k]? = some o → ∃ o' : OB, σ'[k]? = some o' ∧ o.ver ≤ o'.ver ∧ (o'.ver = o.ver → o' = o)
  loops : ∀ (b : Nat) r, w.heap[b]? = some (.loop r) → ∃ r', w'.heap[b]? = some (.loop r')

theorem Ext.refl (w : World) (σ : List OB) : Ext w σ w σ :=
  ⟨rfl, rfl, rfl, Nat.le_refl _, fun _ _ _ => rfl, fun _ h => .inl h, fun _ o h => ⟨o, h, Nat.le_refl _, fun _ => rfl⟩, fun _ r h => ⟨r, h⟩⟩

theorem Ext.trans {w w' w'' : World} {σ σ' σ'' : List OB} (h : Ext w σ w' σ') (h' : Ext w' σ' w'' σ'') : Ext w σ w'' σ'' where
  os := h'.os.trans h.os
  tape := h'.tape.trans h.tape
  output := h'.output.trans h.output
  size := Nat.le_trans h.size h'.size
  keep b hb ho := by
    rw [h'.keep b (Nat.lt_of_lt_of_le hb h.size) (fun hw => (h.own b hw).elim ho (fun hx => by omega)), h.keep b hb ho]
  loops b r hb := by
    obtain ⟨r', h1⟩ := h.loops b r hb
    exact h'.loops b r' h1
  own b hb := by
    rcases h'.own b hb with h1 | h1
    · exact h.own b h1
    · exact .inr (Nat.le_trans h.size h1)
  obj k o hk := by
    obtain ⟨o', h1, h2, h3⟩ := h.obj k o hk
    obtain ⟨o'', g1, g2, g3⟩ := h'.obj k o' h1
    refine ⟨o'', g1, Nat.le_trans h2 g2, fun e => ?_⟩
    have e1 : o'.ver = o.ver := by omega
    have e2 := h3 e1
    rw [g3 (by omega), e2]

theorem VI.ext {w w' : World} {σ σ' : List OB} (h : Ext w σ w' σ') {a : AV} {v : Value} (hv : VI w (AF.own σ) a v) : VI w' (AF.own σ') a v :=
  hv.mono h.keep h.size h.own

theorem VR.ext {w w' : World} {σ σ' : List OB} (h : Ext w σ w' σ') {a : AV} {v : Value} (hv : VR w σ a v) : VR w' σ' a v := by
  induction hv with
  | imm hi => exact .imm (hi.ext h)
  | osl o ho hs hv hh =>
    obtain ⟨o', h1, h2, h3⟩ := h.obj _ o ho
    refine .osl o' h1 hs (by omega) (fun e => ?_)
    have e1 := h3 (by omega)
    subst e1
    exact hh e
  | op o ho hs hv hh =>
    obtain ⟨o', h1, h2, h3⟩ := h.obj _ o ho
    refine .op o' h1 hs (by omega) (fun e => ?_)
    have e1 := h3 (by omega)
    subst e1
    exact hh e
  | yld o ho hs hh =>
    obtain ⟨o', h1, h2, h3⟩ := h.obj _ o ho
    refine .yld o' h1 hs (fun e => ?_)
    have e1 := h3 (by omega)
    subst e1
    exact hh e
  | agg hl h1 h ih => exact .agg hl h1 ih
  | tup hl h ih => exact .tup hl ih
  | fn hl hl' h h' ih ih' => exact .fn hl hl' ih ih'
  | gd h h' ih => exact .gd ih h'

end AF
