/-
  AF19: giving up knowledge: values that stay as they are, objects that are changed no more.
-/
import Derived.Test.YtpnjpjibccmkiaaAf18
set_option linter.all false
set_option linter.unusedSimpArgs false
set_option linter.unusedVariables false
set_option linter.unusedSectionVars false
namespace AF
open Go

/-- The first value says no less than the second. -/
def VLe (a b : AV) : Prop := ∀ (w : World) (σ : List OB) (x : Value), VR w σ a x → VR w σ b x
/-- The same for values without handles. -/
def ILe (a b : AV) : Prop := ∀ (w : World) (ow : Nat → Prop) (x : Value), VI w ow a x → VI w ow b x

theorem VLe.refl (a : AV) : VLe a a := fun _ _ _ h => h
theorem ILe.refl (a : AV) : ILe a a := fun _ _ _ h => h
theorem VLe.of_eq {a b : AV} (h : a = b) : VLe a b := h ▸ VLe.refl a
theorem VLe.undef (a : AV) : VLe a .undef := fun _ _ _ _ => .imm .undef
theorem ILe.undef (a : AV) : ILe a .undef := fun _ _ _ _ => .undef
theorem VLe.trans {a b c : AV} (h : VLe a b) (h' : VLe b c) : VLe a c := fun w σ x hx => h' w σ x (h w σ x hx)

def ILes : List AV → List AV → Prop
  | [], [] => True
  | a :: l, b :: m => ILe a b ∧ ILes l m
  | _, _ => False
def VLes : List AV → List AV → Prop
  | [], [] => True
  | a :: l, b :: m => VLe a b ∧ VLes l m
  | _, _ => False

theorem ILes.refl : ∀ l, ILes l l
  | [] => trivial
  | a :: l => ⟨ILe.refl a, ILes.refl l⟩
theorem VLes.refl : ∀ l, VLes l l
  | [] => trivial
  | a :: l => ⟨VLe.refl a, VLes.refl l⟩
theorem ILes.length : ∀ {l m : List AV}, ILes l m → m.length = l.length
  | [], [], _ => rfl
  | _ :: _, _ :: _, h => by simp [ILes.length h.2]
theorem VLes.length : ∀ {l m : List AV}, VLes l m → m.length = l.length
  | [], [], _ => rfl
  | _ :: _, _ :: _, h => by simp [VLes.length h.2]
theorem ILes.get : ∀ {l m : List AV}, ILes l m → ∀ (i : Nat) b, m[i]? = some b → ∃ a, l[i]? = some a ∧ ILe a b
  | [], [], _, i, b, h => by simp at h
  | x :: l, y :: m, h, 0, b, hb => by simp at hb; subst hb; exact ⟨x, rfl, h.1⟩
  | x :: l, y :: m, h, i + 1, b, hb => by simpa using ILes.get h.2 i b (by simpa using hb)
theorem VLes.get : ∀ {l m : List AV}, VLes l m → ∀ (i : Nat) b, m[i]? = some b → ∃ a, l[i]? = some a ∧ VLe a b
  | [], [], _, i, b, h => by simp at h
  | x :: l, y :: m, h, 0, b, hb => by simp at hb; subst hb; exact ⟨x, rfl, h.1⟩
  | x :: l, y :: m, h, i + 1, b, hb => by simpa using VLes.get h.2 i b (by simpa using hb)

/-- Immutable slices: element by element. -/
theorem ILe.sl {n : Nat} {f g : Nat → List AV} (h : ∀ i, i < n → ILes (f i) (g i)) : ILe (.sl n f) (.sl n g) := by
  intro w ow x hx
  cases hx with
  | nilsl => exact .nilsl
  | sl sz b off cap vals hn hm hb hlt hsz hc h1 hv =>
    refine .sl sz b off cap vals hn hm hb hlt (fun i hi => by rw [(h i hi).length]; exact hsz i hi) hc h1 (fun i j c hi hj => ?_)
    obtain ⟨a, ha, hab⟩ := (h i hi).get j c hj
    exact hab w ow _ (hv i j a hi ha)
theorem ILe.sl_eq {n : Nat} {f g : Nat → List AV} (h : ∀ i, i < n → f i = g i) : ILe (.sl n f) (.sl n g) := ILe.sl fun i hi => h i hi ▸ ILes.refl _
theorem ILe.nl {f : Nat → List AV} : ILe .nl (.sl 0 f) := by
  intro w ow x hx
  cases hx
  exact .nilsl
theorem ILe.anyb {b : Bool} : ILe (.bool b) .anyb := by
  intro w ow x hx
  cases hx
  exact .anyb
theorem ILe.agg {cs ds : List AV} (h : ILes cs ds) : ILe (.agg cs) (.agg ds) := by
  intro w ow x hx
  cases hx with
  | agg hl h1 hv =>
    refine .agg (by rw [hl, h.length]) h1 (fun i c x hc hx => ?_)
    obtain ⟨a, ha, hab⟩ := h.get i c hc
    exact hab w ow _ (hv i a x ha hx)

/-- Values whose relation speaks of unchanging memory alone. -/
def AV.still : AV → Bool
  | .osl .. | .op .. | .yld _ | .agg _ | .tup _ | .fn .. | .gd .. => false
  | _ => true

theorem vr_still {w : World} {σ : List OB} {v : AV} {x : Value} (hs : v.still = true) (h : VR w σ v x) : VI w (own σ) v x := by
  cases h with
  | imm h => exact h
  | _ => cases hs

theorem VLe.still {a b : AV} (hs : a.still = true) (h : ILe a b) : VLe a b := fun w σ x hx => .imm (h w (own σ) x (vr_still hs hx))
theorem VLe.sl {n : Nat} {f g : Nat → List AV} (h : ∀ i, i < n → ILes (f i) (g i)) : VLe (.sl n f) (.sl n g) := VLe.still rfl (ILe.sl h)
theorem VLe.sl_eq {n m : Nat} {f g : Nat → List AV} (hn : n = m) (h : ∀ i, i < n → f i = g i) : VLe (.sl n f) (.sl m g) := by subst hn; exact VLe.still rfl (ILe.sl_eq h)
theorem VLe.nl {n : Nat} {f : Nat → List AV} (hn : n = 0) : VLe .nl (.sl n f) := by subst hn; exact VLe.still rfl ILe.nl
theorem VLe.agg {cs ds : List AV} (h : VLes cs ds) : VLe (.agg cs) (.agg ds) := by
  intro w σ x hx
  obtain ⟨vs, rfl, hl, h1, hv⟩ := vr_agg hx
  refine .agg (by rw [hl, h.length]) h1 (fun i c x hc hx => ?_)
  obtain ⟨a, ha, hab⟩ := h.get i c hc
  exact hab w σ _ (hv i a x ha hx)
theorem VLe.tup {cs ds : List AV} (h : VLes cs ds) : VLe (.tup cs) (.tup ds) := by
  intro w σ x hx
  obtain ⟨vs, rfl, hl, hv⟩ := vr_tup hx
  refine .tup (by rw [hl, h.length]) (fun i c x hc hx => ?_)
  obtain ⟨a, ha, hab⟩ := h.get i c hc
  exact hab w σ _ (hv i a x ha hx)

/-- A value, the objects that `fz` names seen as unchanging. -/
def rei (fz : Nat → Bool) (h : List AObj) : Nat → AV → AV
  | 0, _ => .undef
  | n + 1, v => match v with
    | .osl k ver sz off len => if fz k then (match getO k h with
        | some (.mem ve _ cs) => if ve = ver ∧ off + len * sz ≤ cs.length then .sl len (fun i => ((cs.drop (off + i * sz)).take sz).map (rei fz h n)) else .undef
        | some (.emp ve) => if ve = ver then .nl else .undef
        | _ => .undef) else .undef
    | .op k ver off => if fz k then (match cellsOf h k ver with
        | some cs => .ip ((cs.drop off).map (rei fz h n))
        | none => .undef) else .undef
    | .yld _ => .undef
    | .gd .. => .undef
    | .agg cs => .agg (cs.map (rei fz h n))
    | .tup cs => .tup (cs.map (rei fz h n))
    | .fn f a b => .fn f (a.map (rei fz h n)) (b.map (rei fz h n))
    | v => v

theorem rei_vi {w : World} {σ : List OB} {h : List AObj} (H : HR w σ h) {fz : Nat → Bool} {ow : Nat → Prop} (how : ∀ b, ow b → ∃ (j : Nat) (o : OB), fz j = false ∧ σ[j]? = some o ∧ o.blk = some b) :
    ∀ (n : Nat) {v : AV} {x : Value}, VR w σ v x → VI w ow (rei fz h n v) x := by
  have hown : ∀ b, ow b → own σ b := fun b hb => (how b hb).elim fun j ⟨o, _, h1, h2⟩ => ⟨j, o, h1, h2⟩
  have still : ∀ {v x}, VI w (own σ) v x → VI w ow v x := fun h => h.mono (fun _ _ _ => rfl) (Nat.le_refl _) (fun b hb => .inl (hown b hb))
  have notown : ∀ {k : Nat} {o : OB} {b : Nat}, fz k = true → σ[k]? = some o → o.blk = some b → ¬ ow b := by
    intro k o b hk ho hb hw
    obtain ⟨j, o', h1, h2, h3⟩ := how b hw
    have := H.inj k j o o' b ho h2 hb h3
    subst this
    rw [hk] at h1
    cases h1
  intro n
  induction n with
  | zero => intro v x _; exact .undef
  | succ n ih =>
    intro v x hv
    cases v with
    | osl k ver sz off len =>
      simp only [rei]
      split
      · rename_i hk
        have hl := osl_live (k := k) (ver := ver) H hv
        split
        · rename_i ve ty cs hg
          split
          · rename_i hc
            obtain ⟨rfl, hle⟩ := hc
            rcases hl (by simp [liveS, hg]) with ⟨o, _, _, _, g4, _⟩ | ⟨cs', o, b, cap, arr, g1, rfl, g2, g3, g4, g5, g6, g7, g8, g9, g10, g12, g11⟩
            · rw [getO] at hg; rw [g4] at hg; cases hg
            · rw [getO, g1] at hg
              cases hg
              have hlt := (Array.getElem?_eq_some_iff.1 g8).1
              have harr : ∀ i j, i < len → j < sz → off + i * sz + j < cs.length := by
                intro i j hi hj
                have : (i + 1) * sz ≤ len * sz := Nat.mul_le_mul_right _ hi
                rw [Nat.add_mul, Nat.one_mul] at this
                omega
              refine .sl sz b off cap (fun i j => arr.getD (off + i * sz + j) Go.undef) g2 g3 (fun _ => notown hk g5 g7) hlt (fun i hi => ?_) (fun i j hi hj => ?_) (fun i j hi hj => ?_) (fun i j c hi hj => ?_)
              · have : (i + 1) * sz ≤ len * sz := Nat.mul_le_mul_right _ hi
                rw [Nat.add_mul, Nat.one_mul] at this
                simp
                omega
              · have := harr i j hi hj
                have h2 : off + i * sz + j < arr.size := by omega
                rw [cell_of g8]
                simp [h2]
              · have := harr i j hi hj
                have h2 : off + i * sz + j < arr.size := by omega
                exact g12 _ _ this (by simp [h2])
              · rw [List.getElem?_map, Option.map_eq_some_iff] at hj
                obtain ⟨c0, hj, rfl⟩ := hj
                rw [List.getElem?_take] at hj
                split at hj
                · rename_i hjs
                  rw [List.getElem?_drop] at hj
                  have := harr i j hi hjs
                  have h2 : off + i * sz + j < arr.size := by omega
                  exact ih (g11 _ c0 _ hj (by simp [h2]))
                · cases hj
          · exact .undef
        · rename_i ve hg
          split
          · rename_i hc
            subst hc
            rcases hl (by simp [liveS, hg]) with ⟨o, _, _, _, _, _, _, rfl⟩ | ⟨cs', o, b, cap, arr, g1, _⟩
            · exact .nl
            · rw [getO, g1] at hg; cases hg
          · exact .undef
        · exact .undef
      · exact .undef
    | op k ver off =>
      simp only [rei]
      split
      · rename_i hk
        split
        · rename_i cs hc
          obtain ⟨cs', o, b, arr, g1, rfl, g2, g3, g4, g5, g6, g7, g9, g8⟩ := op_live H hv (by simp [hc])
          rw [hc] at g1
          cases g1
          have hlt := (Array.getElem?_eq_some_iff.1 g5).1
          refine .ip b off (fun j => arr.getD (off + j) Go.undef) (notown hk g2 g4) hlt (fun j hj => ?_) (fun j hj => ?_) (fun j c hj => ?_)
          · simp at hj
            have h2 : off + j < arr.size := by omega
            rw [cell_of g5]
            simp [h2]
          · simp at hj
            have h2 : off + j < arr.size := by omega
            exact g9 (off + j) _ (by omega) (by simp [h2])
          · rw [List.getElem?_map, Option.map_eq_some_iff] at hj
            obtain ⟨c0, hj, rfl⟩ := hj
            rw [List.getElem?_drop] at hj
            have := (List.getElem?_eq_some_iff.1 hj).1
            have h2 : off + j < arr.size := by omega
            exact ih (g8 _ c0 _ hj (by simp [h2]))
        · exact .undef
      · exact .undef
    | yld k => exact .undef
    | gd g v => exact .undef
    | agg cs =>
      obtain ⟨vs, rfl, hl, h1, hv⟩ := vr_agg hv
      refine .agg (by simp [hl]) h1 (fun i c x hc hx => ?_)
      rw [List.getElem?_map, Option.map_eq_some_iff] at hc
      obtain ⟨c0, hc, rfl⟩ := hc
      exact ih (hv i c0 x hc hx)
    | tup cs =>
      obtain ⟨vs, rfl, hl, hv⟩ := vr_tup hv
      refine .tup (by simp [hl]) (fun i c x hc hx => ?_)
      rw [List.getElem?_map, Option.map_eq_some_iff] at hc
      obtain ⟨c0, hc, rfl⟩ := hc
      exact ih (hv i c0 x hc hx)
    | fn f a b =>
      obtain ⟨us, zs, rfl, l1, l2, v1, v2⟩ := vr_fn hv
      refine .fn (by simp [l1]) (by simp [l2]) (fun i c x hc hx => ?_) (fun i c x hc hx => ?_)
      · rw [List.getElem?_map, Option.map_eq_some_iff] at hc
        obtain ⟨c0, hc, rfl⟩ := hc
        exact ih (v1 i c0 x hc hx)
      · rw [List.getElem?_map, Option.map_eq_some_iff] at hc
        obtain ⟨c0, hc, rfl⟩ := hc
        exact ih (v2 i c0 x hc hx)
    | undef => exact still (vr_still rfl hv)
    | bool b => exact still (vr_still rfl hv)
    | int k n => exact still (vr_still rfl hv)
    | str s => exact still (vr_still rfl hv)
    | sl n f => exact still (vr_still rfl hv)
    | ip cs => exact still (vr_still rfl hv)
    | nilp => exact still (vr_still rfl hv)
    | nl => exact still (vr_still rfl hv)
    | nilfn => exact still (vr_still rfl hv)
    | ifc => exact still (vr_still rfl hv)
    | nilif => exact still (vr_still rfl hv)
    | anyb => exact still (vr_still rfl hv)

/-- A value, the objects that `fz` names seen as unchanging; handles to others stay. -/
def frz (fz : Nat → Bool) (h : List AObj) : Nat → AV → AV
  | 0, _ => .undef
  | n + 1, v => match v with
    | .osl k ver sz off len => if fz k then rei fz h (n + 1) (.osl k ver sz off len) else .osl k ver sz off len
    | .op k ver off => if fz k then rei fz h (n + 1) (.op k ver off) else .op k ver off
    | .yld k => if fz k then .undef else .yld k
    | .gd g v => .gd g (frz fz h n v)
    | .agg cs => .agg (cs.map (frz fz h n))
    | .tup cs => .tup (cs.map (frz fz h n))
    | .fn f a b => .fn f (a.map (frz fz h n)) (b.map (frz fz h n))
    | v => v

theorem frz_vr {w : World} {σ σ' : List OB} {h : List AObj} (H : HR w σ h) {fz : Nat → Bool} (how : ∀ b, own σ' b → ∃ (j : Nat) (o : OB), fz j = false ∧ σ[j]? = some o ∧ o.blk = some b)
    (hkeep : ∀ (j : Nat) (o : OB), fz j = false → σ[j]? = some o → σ'[j]? = some o) :
    ∀ (n : Nat) {v : AV} {x : Value}, VR w σ v x → VR w σ' (frz fz h n v) x := by
  have hown : ∀ b, own σ' b → own σ b := fun b hb => (how b hb).elim fun j ⟨o, _, h1, h2⟩ => ⟨j, o, h1, h2⟩
  have still : ∀ {v x}, v.still = true → VR w σ v x → VR w σ' v x := fun hs h => .imm ((vr_still hs h).mono (fun _ _ _ => rfl) (Nat.le_refl _) (fun b hb => .inl (hown b hb)))
  intro n
  induction n with
  | zero => intro v x _; exact .imm .undef
  | succ n ih =>
    intro v x hv
    cases v with
    | osl k ver sz off len =>
      simp only [frz]
      split
      · exact .imm (rei_vi H how (n + 1) hv)
      · rename_i hk
        cases hv with
        | imm h => cases h
        | osl o ho hs hle hh => exact .osl o (hkeep k o (by simpa using hk) ho) hs hle hh
    | op k ver off =>
      simp only [frz]
      split
      · exact .imm (rei_vi H how (n + 1) hv)
      · rename_i hk
        cases hv with
        | imm h => cases h
        | op o ho hs hle hh => exact .op o (hkeep k o (by simpa using hk) ho) hs hle hh
    | yld k =>
      simp only [frz]
      split
      · exact .imm .undef
      · rename_i hk
        cases hv with
        | imm h => cases h
        | yld o ho hs hh => exact .yld o (hkeep k o (by simpa using hk) ho) hs hh
    | gd g v =>
      obtain ⟨h1, h2⟩ := vr_gd hv
      exact .gd (fun hg => ih (h1 hg)) h2
    | agg cs =>
      obtain ⟨vs, rfl, hl, h1, hv⟩ := vr_agg hv
      refine .agg (by simp [hl]) h1 (fun i c x hc hx => ?_)
      rw [List.getElem?_map, Option.map_eq_some_iff] at hc
      obtain ⟨c0, hc, rfl⟩ := hc
      exact ih (hv i c0 x hc hx)
    | tup cs =>
      obtain ⟨vs, rfl, hl, hv⟩ := vr_tup hv
      refine .tup (by simp [hl]) (fun i c x hc hx => ?_)
      rw [List.getElem?_map, Option.map_eq_some_iff] at hc
      obtain ⟨c0, hc, rfl⟩ := hc
      exact ih (hv i c0 x hc hx)
    | fn f a b =>
      obtain ⟨us, zs, rfl, l1, l2, v1, v2⟩ := vr_fn hv
      refine .fn (by simp [l1]) (by simp [l2]) (fun i c x hc hx => ?_) (fun i c x hc hx => ?_)
      · rw [List.getElem?_map, Option.map_eq_some_iff] at hc
        obtain ⟨c0, hc, rfl⟩ := hc
        exact ih (v1 i c0 x hc hx)
      · rw [List.getElem?_map, Option.map_eq_some_iff] at hc
        obtain ⟨c0, hc, rfl⟩ := hc
        exact ih (v2 i c0 x hc hx)
    | undef => exact still rfl hv
    | bool b => exact still rfl hv
    | int k n => exact still rfl hv
    | str s => exact still rfl hv
    | sl n f => exact still rfl hv
    | ip cs => exact still rfl hv
    | nilp => exact still rfl hv
    | nl => exact still rfl hv
    | nilfn => exact still rfl hv
    | ifc => exact still rfl hv
    | nilif => exact still rfl hv
    | anyb => exact still rfl hv

theorem VOut.of {n : Nat} {h : List AObj} {v r : AV} (fuel : Nat) (hv : VLe (frz (fun k => decide (n ≤ k)) h fuel v) r) : VOut n h v r := by
  intro w σ x H hx
  refine hv w _ x (frz_vr H (fun b hb => ?_) (fun j o hj ho => ?_) fuel hx)
  · obtain ⟨k, o, h1, h2⟩ := hb
    rw [List.getElem?_take] at h1
    split at h1
    · exact ⟨k, o, by simp; omega, h1, h2⟩
    · cases h1
  · rw [List.getElem?_take, if_pos (by simpa using hj)]
    exact ho

/-- The end of a function that leaves the objects of its caller as they are. -/
theorem fnQ_pure {rs : List RV} {h0 tl : List AObj} {K : AV → List AObj → Prop} {t : List AV} {r : AV} (hok : rvsOk t (h0 ++ tl) rs) (hK : K r h0) (hv : VLe (frz (fun k => decide (h0.length ≤ k)) (h0 ++ tl) 8 (retA (rvsVal t (h0 ++ tl) rs))) r) :
    fnQ rs h0 K .ret t (h0 ++ tl) :=
  ⟨r, h0, hK, hok, ⟨tl, rfl⟩, rfl, fun o ho => .inl ho, VOut.of 8 hv⟩

/-- Knowledge of temporaries given up. -/
theorem Wk.temps {t t' : List AV} {h : List AObj} (hl : VLes t t') : Wk t h t' h := by
  intro N w σ a H
  refine ⟨σ, ⟨H.hr, by rw [hl.length]; exact H.sz, fun i c x hc hx => ?_, H.df⟩, Ext.refl w σ⟩
  obtain ⟨b, hb, hle⟩ := hl.get i c hc
  exact hle w σ x (H.tm i b x hb hx)

theorem Wk.refl (t : List AV) (h : List AObj) : Wk t h t h := Wk.temps (VLes.refl t)
theorem Wk.trans {t t' t'' : List AV} {h h' h'' : List AObj} (h1 : Wk t h t' h') (h2 : Wk t' h' t'' h'') : Wk t h t'' h'' := by
  intro N w σ a H
  obtain ⟨σ', H', e⟩ := h1 N w σ a H
  obtain ⟨σ'', H'', e'⟩ := h2 N w σ' a H'
  exact ⟨σ'', H'', e.trans e'⟩

def killO : List Nat → List AObj → List AObj
  | [], h => h
  | k :: ks, h => killO ks (setO k h (.emp (verOf (getO k h) + 1)))
def sitesOk : List Nat → List AObj → Bool
  | [], _ => true
  | k :: ks, h => site h k && sitesOk ks (setO k h (.emp (verOf (getO k h) + 1)))

theorem kill_spec {w : World} : ∀ (ks : List Nat) {σ : List OB} {h : List AObj}, HR w σ h → sitesOk ks h = true → ∃ σ', HR w σ' (killO ks h) ∧ Ext w σ w σ' ∧
    (∀ (j : Nat) (o : OB), j ∉ ks → σ[j]? = some o → σ'[j]? = some o) ∧ ∀ b, own σ' b → ∃ (j : Nat) (o : OB), j ∉ ks ∧ σ[j]? = some o ∧ o.blk = some b := by
  intro ks
  induction ks with
  | nil => intro σ h H _; exact ⟨σ, H, Ext.refl w σ, fun _ _ _ h => h, fun b ⟨j, o, h1, h2⟩ => ⟨j, o, by simp, h1, h2⟩⟩
  | cons k ks ih =>
    intro σ h H hs
    simp only [sitesOk, Bool.and_eq_true] at hs
    obtain ⟨o, ho, hver⟩ := site_spec H hs.1
    obtain ⟨H1, e1⟩ := H.kill ho
    have hs2 := hs.2
    rw [hver] at hs2
    obtain ⟨σ', g1, g2, g3, g4⟩ := ih H1 hs2
    have hset : ∀ (j : Nat) (o' : OB), j ≠ k → ((σ.set k { o with blk := none, ver := o.ver + 1 })[j]? = some o' ↔ σ[j]? = some o') := by
      intro j o' hj
      rw [List.getElem?_set_ne (fun e => hj e.symm)]
    refine ⟨σ', by simpa [killO, hver, setO] using g1, e1.trans g2, fun j o' hj hjo => ?_, fun b hb => ?_⟩
    · simp only [List.mem_cons, not_or] at hj
      exact g3 j o' hj.2 ((hset j o' hj.1).2 hjo)
    · obtain ⟨j, o', h1, h2, h3⟩ := g4 b hb
      by_cases e : j = k
      · subst e
        rw [List.getElem?_set_self ((List.getElem?_eq_some_iff.1 ho).1)] at h2
        cases h2
        cases h3
      · exact ⟨j, o', by simp [e, h1], (hset j o' e).1 h2, h3⟩

/-- Objects that are changed no more: the handles to them become unchanging values. -/
theorem Wk.freeze (ks : List Nat) {t : List AV} {h : List AObj} (hs : sitesOk ks h = true) : Wk t h (t.map (frz (fun k => ks.contains k) h 8)) (killO ks h) := by
  intro N w σ a H
  obtain ⟨σ', g1, g2, g3, g4⟩ := kill_spec ks H.hr hs
  refine ⟨σ', ⟨g1, by simp [H.sz], fun i c x hc hx => ?_, df_ext g2 H.df⟩, g2⟩
  rw [List.getElem?_map, Option.map_eq_some_iff] at hc
  obtain ⟨c0, hc, rfl⟩ := hc
  exact frz_vr H.hr (fun b hb => (g4 b hb).elim fun j ⟨o, h1, h2, h3⟩ => ⟨j, o, by simpa using h1, h2, h3⟩) (fun j o hj ho => g3 j o (by simpa using hj) ho) 8 (H.tm i c0 x hc hx)

theorem VRs.le {w : World} {σ : List OB} {l m : List AV} {xs : List Value} (h : VLes l m) (hv : VRs w σ l xs) : VRs w σ m xs :=
  ⟨by rw [hv.1, h.length], fun i c x hc hx => (h.get i c hc).elim fun a ⟨ha, hle⟩ => hle w σ x (hv.2 i a x ha hx)⟩

theorem ACalls.le {P : Program} {f : FuncId} {args args' : List AV} {h h' : List AObj} {r r' : AV} (hc : ACalls P f args' h r h') (ha : VLes args args') (hr : VLe r r') : ACalls P f args h r' h' :=
  ⟨hc.1, fun w σ xs H hv => (hc.2 w σ xs H (hv.le ha)).mono fun e w' ⟨v, σ', h1, h2, h3, h4⟩ => ⟨v, σ', h1, h2, hr w' σ' v h3, h4⟩⟩

theorem ACallsQ.le {P : Program} {f : FuncId} {args args' : List AV} {h : List AObj} {R R' : AV → List AObj → Prop} (hc : ACallsQ P f args' h R) (ha : VLes args args') (hr : ∀ v h', R v h' → ∃ v', VLe v v' ∧ R' v' h') : ACallsQ P f args h R' :=
  ⟨hc.1, fun w σ xs H hv => (hc.2 w σ xs H (hv.le ha)).mono fun e w' ⟨v, σ', r, h', h0, h1, h2, h3, h4⟩ => (hr r h' h0).elim fun r' ⟨hle, h5⟩ => ⟨v, σ', r', h', h5, h1, h2, hle w' σ' v h3, h4⟩⟩

/-- A value without slices and pointers. -/
def flatV : AV → Bool
  | .bool _ | .int .. | .str _ | .undef | .nilp | .nl | .nilfn | .nilif | .ifc => true
  | .agg cs => flatVs cs
  | .tup cs => flatVs cs
  | _ => false
where flatVs : List AV → Bool
  | [] => true
  | v :: r => flatV v && flatVs r

theorem flatVs_iff : ∀ {cs : List AV}, flatV.flatVs cs = true ↔ ∀ c ∈ cs, flatV c = true := by
  intro cs
  induction cs with
  | nil => simp [flatV.flatVs]
  | cons c cs ih => simp [flatV.flatVs, ih]

theorem vi_flat {w : World} {ow ow' : Nat → Prop} {v : AV} {x : Value} (h : VI w ow v x) (hf : flatV v = true) : VI w ow' v x := by
  induction h with
  | undef => exact .undef
  | bool => exact .bool
  | int => exact .int
  | str => exact .str
  | nilp => exact .nilp
  | nl => exact .nl
  | nilfn => exact .nilfn
  | nilif => exact .nilif
  | ifc => exact .ifc
  | anyb => exact .anyb
  | agg hl h1 h ih =>
    simp only [flatV, flatVs_iff] at hf
    exact .agg hl h1 (fun i c x hc hx => ih i c x hc hx (hf c (List.mem_of_getElem? hc)))
  | tup hl h ih =>
    simp only [flatV, flatVs_iff] at hf
    exact .tup hl (fun i c x hc hx => ih i c x hc hx (hf c (List.mem_of_getElem? hc)))
  | _ => cases hf

/-- A call that only looks: its arguments may be seen as unchanging while it runs. -/
theorem ACalls.borrow {P : Program} {f : FuncId} {args : List AV} {h : List AObj} {r : AV} (hc : ACalls P f (args.map (rei (fun _ => true) h 8)) [] r []) (hr : flatV r = true) : ACalls P f args h r h := by
  refine ⟨hc.1, fun w σ xs H hv => ?_⟩
  have H0 : HR w [] [] := ⟨rfl, by simp, by simp, by simp⟩
  have h0 : ∀ b, ¬ own [] b := fun b ⟨k, o, h1, _⟩ => by simp at h1
  have hv0 : VRs w [] (args.map (rei (fun _ => true) h 8)) xs := ⟨by rw [hv.1]; simp, fun i c x hc hx => by
    rw [List.getElem?_map, Option.map_eq_some_iff] at hc
    obtain ⟨c0, hc, rfl⟩ := hc
    exact .imm (rei_vi H (fun b hb => (h0 b hb).elim) 8 (hv.2 i c0 x hc hx))⟩
  refine (hc.2 w [] xs H0 hv0).mono ?_
  rintro e w' ⟨v, σ', rfl, g1, g2, g3⟩
  have hσ : σ' = [] := by have := g1.len; simpa using this
  subst hσ
  have hg : w.grownBy w' none := ⟨g3.os, g3.tape, g3.output, g3.size, fun b hb _ => g3.keep b hb (h0 b)⟩
  obtain ⟨k1, k2⟩ := H.grow hg
  refine ⟨v, σ, rfl, k1, ?_, k2⟩
  have : ∀ {v : AV} {x : Value}, VR w' [] v x → flatV v = true → VI w' (own σ) v x := by
    intro v x hv
    induction hv with
    | imm h => exact fun hf => vi_flat h hf
    | agg hl h1 h ih =>
      intro hf
      simp only [flatV, flatVs_iff] at hf
      exact .agg hl h1 (fun i c x hc hx => ih i c x hc hx (hf c (List.mem_of_getElem? hc)))
    | tup hl h ih =>
      intro hf
      simp only [flatV, flatVs_iff] at hf
      exact .tup hl (fun i c x hc hx => ih i c x hc hx (hf c (List.mem_of_getElem? hc)))
    | _ => intro hf; cases hf
  exact .imm (this g2 hr)

end AF
