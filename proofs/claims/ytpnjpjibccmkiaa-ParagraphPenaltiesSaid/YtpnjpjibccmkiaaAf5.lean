/-
  AF5: the operations that change nothing: what the model's operation does is what the evaluator says.
-/
import Derived.Test.YtpnjpjibccmkiaaAf4
import Derived.WalkKit
import Derived.ProofKit
set_option linter.all false
set_option linter.unusedSimpArgs false
set_option linter.unusedVariables false
set_option linter.unusedSectionVars false
namespace AF
open Go

section inv
variable {w : World} {σ : List OB} {x : Value}
theorem vr_int {k : IntKind} {n : Int} (h : VR w σ (.int k n) x) : x = .int k n := by
  cases h with | imm h => cases h; rfl
theorem vr_bool {b : Bool} (h : VR w σ (.bool b) x) : x = .bool b := by
  cases h with | imm h => cases h; rfl
theorem vr_anyb (h : VR w σ .anyb x) : ∃ b, x = .bool b := by
  cases h with | imm h => cases h; exact ⟨_, rfl⟩
theorem vr_str {s : List UInt8} (h : VR w σ (.str s) x) : x = .string ⟨s.toArray⟩ := by
  cases h with | imm h => cases h; rfl
theorem vr_nl (h : VR w σ .nl x) : x = .slice none 0 0 := by
  cases h with | imm h => cases h; rfl
theorem vr_nilp (h : VR w σ .nilp x) : x = .pointer none := by
  cases h with | imm h => cases h; rfl
theorem vr_nilfn (h : VR w σ .nilfn x) : x = .nilFunc := by
  cases h with | imm h => cases h; rfl
theorem vr_nilif (h : VR w σ .nilif x) : x = .nilIface := by
  cases h with | imm h => cases h; rfl
theorem vr_ifc (h : VR w σ .ifc x) : ∃ t v, x = .iface t v := by
  cases h with | imm h => cases h; exact ⟨_, _, rfl⟩
theorem vr_agg {cs : List AV} (h : VR w σ (.agg cs) x) : ∃ vs : Array Value, x = .agg vs ∧ vs.size = cs.length ∧ (∀ (i : Nat) y, vs[i]? = some y → y.oneCell' = true) ∧ ∀ (i : Nat) c y, cs[i]? = some c → vs[i]? = some y → VR w σ c y := by
  cases h with
  | imm h =>
    cases h with
    | agg hl h1 hh => exact ⟨_, rfl, hl, h1, fun i c y hc hy => .imm (hh i c y hc hy)⟩
  | agg hl h1 hh => exact ⟨_, rfl, hl, h1, hh⟩
theorem vr_tup {cs : List AV} (h : VR w σ (.tup cs) x) : ∃ vs : Array Value, x = .tuple vs ∧ vs.size = cs.length ∧ ∀ (i : Nat) c y, cs[i]? = some c → vs[i]? = some y → VR w σ c y := by
  cases h with
  | imm h =>
    cases h with
    | tup hl hh => exact ⟨_, rfl, hl, fun i c y hc hy => .imm (hh i c y hc hy)⟩
  | tup hl hh => exact ⟨_, rfl, hl, hh⟩
theorem vr_fn {f : Fn} {cs ds : List AV} (h : VR w σ (.fn f cs ds) x) : ∃ vs us : Array Value, x = .func f vs us ∧ vs.size = cs.length ∧ us.size = ds.length ∧
    (∀ (i : Nat) c y, cs[i]? = some c → vs[i]? = some y → VR w σ c y) ∧ (∀ (i : Nat) c y, ds[i]? = some c → us[i]? = some y → VR w σ c y) := by
  cases h with
  | imm h =>
    cases h with
    | fn hl hl' hh hh' => exact ⟨_, _, rfl, hl, hl', fun i c y hc hy => .imm (hh i c y hc hy), fun i c y hc hy => .imm (hh' i c y hc hy)⟩
  | fn hl hl' hh hh' => exact ⟨_, _, rfl, hl, hl', hh, hh'⟩
theorem vr_ip {cs : List AV} (h : VR w σ (.ip cs) x) : ∃ (b off : Nat) (vals : Nat → Value), x = .pointer (some ⟨b, off, none⟩) ∧ ¬ own σ b ∧ b < w.heap.size ∧
    (∀ (j : Nat), j < cs.length → w.cell? ⟨b, off + j, none⟩ = some (vals j)) ∧ (∀ (j : Nat), j < cs.length → (vals j).oneCell' = true) ∧ ∀ (j : Nat) c, cs[j]? = some c → VI w (own σ) c (vals j) := by
  cases h with
  | imm h =>
    cases h with
    | ip b off vals hb hlt hc h1 hv => exact ⟨b, off, vals, rfl, hb, hlt, hc, h1, hv⟩
theorem vr_sl {n : Nat} {f : Nat → List AV} (h : VR w σ (.sl n f) x) : (n = 0 ∧ x = .slice none 0 0) ∨ ∃ (sz b off cap : Nat) (vals : Nat → Nat → Value),
    x = .slice (some ⟨b, off, none⟩) n cap ∧ n ≤ cap ∧ cap ≤ maxLen ∧ (0 < n → ¬ own σ b) ∧ b < w.heap.size ∧ (∀ i, i < n → (f i).length = sz) ∧
    (∀ (i j : Nat), i < n → j < sz → w.cell? ⟨b, off + i * sz + j, none⟩ = some (vals i j)) ∧ (∀ (i j : Nat), i < n → j < sz → (vals i j).oneCell' = true) ∧ ∀ (i j : Nat) c, i < n → (f i)[j]? = some c → VI w (own σ) c (vals i j) := by
  cases h with
  | imm h =>
    cases h with
    | nilsl => exact .inl ⟨rfl, rfl⟩
    | sl sz b off cap vals hn hm hb hlt hsz hc h1 hv => exact .inr ⟨sz, b, off, cap, vals, rfl, hn, hm, hb, hlt, hsz, hc, h1, hv⟩
theorem vr_osl {k ver sz off len : Nat} (h : VR w σ (.osl k ver sz off len) x) : ∃ o : OB, σ[k]? = some o ∧ ver ≤ o.ver ∧ (o.ver = ver →
    (o.blk = none ∧ off = 0 ∧ len = 0 ∧ x = .slice none 0 0) ∨ ∃ b cap, o.blk = some b ∧ x = .slice (some ⟨b, off, none⟩) len cap ∧ len ≤ cap ∧ cap ≤ maxLen ∧ off + cap * sz = o.size) := by
  cases h with
  | imm h => cases h
  | osl o ho hs hv hh => exact ⟨o, ho, hv, hh⟩
theorem vr_op {k ver off : Nat} (h : VR w σ (.op k ver off) x) : ∃ o : OB, σ[k]? = some o ∧ ver ≤ o.ver ∧ (o.ver = ver → ∃ b, o.blk = some b ∧ x = .pointer (some ⟨b, off, none⟩)) := by
  cases h with
  | imm h => cases h
  | op o ho hs hv hh => exact ⟨o, ho, hv, hh⟩
theorem vr_yld {k : Nat} (h : VR w σ (.yld k) x) : ∃ o : OB, σ[k]? = some o ∧ (o.ver = 0 → ∃ b, o.blk = some b ∧ x = .func (.yield b) #[] #[]) := by
  cases h with
  | imm h => cases h
  | yld o ho hs hh => exact ⟨o, ho, hh⟩
theorem vr_oslS {k ver sz off len : Nat} (h : VR w σ (.osl k ver sz off len) x) : ∃ a n c, x = .slice a n c := by
  cases h with
  | imm h => cases h
  | osl o ho hs hv hh => exact hs
theorem vr_opS {k ver off : Nat} (h : VR w σ (.op k ver off) x) : ∃ a, x = .pointer a := by
  cases h with
  | imm h => cases h
  | op o ho hs hv hh => exact hs
theorem vr_yldS {k : Nat} (h : VR w σ (.yld k) x) : ∃ b, x = .func (.yield b) #[] #[] := by
  cases h with
  | imm h => cases h
  | yld o ho hs hh => exact hs
theorem vr_gd {g : Bool} {v : AV} (h : VR w σ (.gd g v) x) : (g = true → VR w σ v x) ∧ (g = false → x = Go.undef) := by
  cases h with
  | imm h => cases h
  | gd h h' => exact ⟨h, h'⟩
theorem vr_strip {v : AV} (h : VR w σ v x) (hf : v.flag = true) : VR w σ v.strip x := by
  cases v <;> first | exact h | exact (vr_gd h).1 hf
theorem vr_i {k : IntKind} {n : Int} : VR w σ (.int k n) (.int k n) := .imm .int
theorem vr_b {b : Bool} : VR w σ (.bool b) (.bool b) := .imm .bool
theorem vr_s {s : List UInt8} : VR w σ (.str s) (.string ⟨s.toArray⟩) := .imm .str
theorem vr_undef {x : Value} : VR w σ .undef x := .imm .undef
end inv

theorem VRs.strips {w : World} {σ : List OB} : ∀ {vs : List AV} {xs : List Value}, VRs w σ vs xs → flags vs → VRs w σ (AF.strips vs) xs := by
  intro vs
  induction vs with
  | nil => intro xs h _; exact h
  | cons v r ih =>
    intro xs h hf
    cases xs with
    | nil => simp [VRs] at h
    | cons x xs =>
      have hr : VRs w σ r xs := ⟨by simpa using h.1, fun i c y hc hy => h.2 (i + 1) c y (by simpa using hc) (by simpa using hy)⟩
      have h0 := h.2 0 v x rfl rfl
      have := ih hr hf.2
      refine ⟨by simp [AF.strips, this.1], fun i c y hc hy => ?_⟩
      cases i with
      | zero => simp [AF.strips] at hc hy; subst hc hy; exact vr_strip h0 hf.1
      | succ i => exact this.2 i c y (by simpa [AF.strips] using hc) (by simpa using hy)

theorem VRs.one {w : World} {σ : List OB} {a : AV} {xs : List Value} (h : VRs w σ [a] xs) : ∃ x, xs = [x] ∧ VR w σ a x := by
  match xs, h with
  | [x], h => exact ⟨x, rfl, h.2 0 a x rfl rfl⟩
theorem VRs.two {w : World} {σ : List OB} {a c : AV} {xs : List Value} (h : VRs w σ [a, c] xs) : ∃ x y, xs = [x, y] ∧ VR w σ a x ∧ VR w σ c y := by
  match xs, h with
  | [x, y], h => exact ⟨x, y, rfl, h.2 0 a x rfl rfl, h.2 1 c y rfl rfl⟩
theorem VRs.three {w : World} {σ : List OB} {a c e : AV} {xs : List Value} (h : VRs w σ [a, c, e] xs) : ∃ x y z, xs = [x, y, z] ∧ VR w σ a x ∧ VR w σ c y ∧ VR w σ e z := by
  match xs, h with
  | [x, y, z], h => exact ⟨x, y, z, rfl, h.2 0 a x rfl rfl, h.2 1 c y rfl rfl, h.2 2 e z rfl rfl⟩
theorem VRs.cons {w : World} {σ : List OB} {a : AV} {as : List AV} {xs : List Value} (h : VRs w σ (a :: as) xs) : ∃ x r, xs = x :: r ∧ VR w σ a x ∧ VRs w σ as r := by
  match xs, h with
  | x :: r, h => exact ⟨x, r, rfl, h.2 0 a x rfl rfl, ⟨by simpa using h.1, fun i c y hc hy => h.2 (i + 1) c y (by simpa using hc) (by simpa using hy)⟩⟩
theorem VRs.nil {w : World} {σ : List OB} {xs : List Value} (h : VRs w σ [] xs) : xs = [] := by
  match xs, h with
  | [], _ => rfl

/-- Constants. -/
theorem ofV_vi {w : World} {ow : Nat → Prop} {v : Value} {a : AV} (h : ofV v = some a) : VI w ow a v := by
  unfold ofV at h
  split at h <;> cases h <;> constructor

theorem ofV_one {v : Value} {a : AV} (h : ofV v = some a) : v.oneCell' = true := by
  unfold ofV at h
  split at h <;> first | rfl | cases h

theorem ofVs_one : ∀ {l : List Value} {as : List AV}, ofVs l = some as → ∀ (i : Nat) x, l[i]? = some x → x.oneCell' = true := by
  intro l
  induction l with
  | nil => intro as _ i x h; simp at h
  | cons v r ih =>
    intro as h i x hx
    simp only [ofVs] at h
    split at h
    · rename_i a l' ha hl
      cases i with
      | zero => simp at hx; subst hx; exact ofV_one ha
      | succ i => exact ih hl i x (by simpa using hx)
    · cases h

theorem ofVs_vi {w : World} {ow : Nat → Prop} : ∀ {l : List Value} {as : List AV}, ofVs l = some as → l.length = as.length ∧ ∀ (i : Nat) c x, as[i]? = some c → l[i]? = some x → VI w ow c x := by
  intro l
  induction l with
  | nil => intro as h; cases h; exact ⟨rfl, fun i c x hc => by simp at hc⟩
  | cons v r ih =>
    intro as h
    simp only [ofVs] at h
    split at h
    · rename_i a l' ha hl
      cases h
      obtain ⟨h1, h2⟩ := ih hl
      refine ⟨by simp [h1], fun i c x hc hx => ?_⟩
      cases i with
      | zero => simp at hc hx; subst hc hx; exact ofV_vi ha
      | succ i => exact h2 i c x (by simpa using hc) (by simpa using hx)
    · cases h

theorem cvX_vr {w : World} {σ : List OB} {t : List AV} {a : Act} (hs : a.tmps.size = t.length) (ht : ∀ (i : Nat) c x, t[i]? = some c → a.tmps[i]? = some x → VR w σ c x)
    {o : Operand} {x : X} (h : cvX o = some x) : VR w σ (ev t x) (a.eval o) := by
  unfold cvX at h
  split at h
  · rename_i n
    cases h
    have hg : ∀ (n : Nat) (l : List AV), getA n l = (l[n]?).getD .undef := by
      intro n l
      induction l generalizing n with
      | nil => cases n <;> rfl
      | cons a l ih => cases n with
        | zero => rfl
        | succ n => simp [getA, ih]
    simp only [ev, hg, Act.eval]
    cases hc : t[n]? with
    | none => exact vr_undef
    | some c =>
      have hlt : n < t.length := (List.getElem?_eq_some_iff.1 hc).1
      have hlt' : n < a.tmps.size := hs.symm ▸ hlt
      have hx : a.tmps[n]? = some a.tmps[n] := Array.getElem?_eq_getElem hlt'
      have := ht n c _ hc hx
      simpa [Array.getD, hlt'] using this
  · rename_i cs
    cases hv : ofVs cs.toList with
    | none => simp [hv] at h
    | some l =>
      simp [hv] at h
      subst h
      obtain ⟨h1, h2⟩ := ofVs_vi (w := w) (ow := own σ) hv
      exact .imm (.agg (by simpa using h1) (fun i x hx => ofVs_one hv i x (by simpa using hx)) fun i c x hc hx => h2 i c x hc (by simpa using hx))
  · rename_i cs
    split at h
    · rename_i hcs
      cases h
      have : cs = #[] := by simpa using hcs
      subst this
      exact .imm (.tup rfl fun i c x hc => by simp at hc)
    · cases h
  · rename_i v _ _
    cases hv : ofV v with
    | none => simp [hv] at h
    | some l =>
      simp [hv] at h
      subst h
      exact .imm (ofV_vi hv)
  · rename_i f
    cases h
    exact .imm (.fn rfl rfl (fun i c x hc => by simp at hc) (fun i c x hc => by simp at hc))
  · cases h

theorem cvXs_vr {w : World} {σ : List OB} {t : List AV} {a : Act} (hs : a.tmps.size = t.length) (ht : ∀ (i : Nat) c x, t[i]? = some c → a.tmps[i]? = some x → VR w σ c x) :
    ∀ {os : List Operand} {xs : List X}, cvXs os = some xs → VRs w σ (evs t xs) (os.map a.eval) := by
  intro os
  induction os with
  | nil => intro xs h; cases h; exact ⟨rfl, fun i c x hc => by simp [evs] at hc⟩
  | cons o r ih =>
    intro xs h
    simp only [cvXs] at h
    split at h
    · rename_i x l hx hl
      cases h
      have h1 := ih hl
      refine ⟨by simp [evs, h1.1], fun i c y hc hy => ?_⟩
      cases i with
      | zero => simp [evs] at hc hy; subst hc hy; exact cvX_vr hs ht hx
      | succ i => exact h1.2 i c y (by simpa [evs] using hc) (by simpa using hy)
    · cases h

end AF
