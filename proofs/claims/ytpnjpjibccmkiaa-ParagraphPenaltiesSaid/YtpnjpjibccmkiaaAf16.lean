/-
  AF16: new objects behind the others, and their end.
-/
import Derived.Test.YtpnjpjibccmkiaaAf15
set_option linter.all false
set_option linter.unusedSimpArgs false
set_option linter.unusedVariables false
set_option linter.unusedSectionVars false
namespace AF
open Go

theorem HR.push {w w' : World} {σ : List OB} {h : List AObj} (H : HR w σ h) (hg : w.grownBy w' none) {o' : OB} {a' : AObj} (hb : ∀ b, o'.blk = some b → w.heap.size ≤ b ∧ b < w'.heap.size)
    (ho : Ext w σ w' (σ ++ [o']) → OR w' (σ ++ [o']) a' o') : HR w' (σ ++ [o']) (h ++ [a']) ∧ Ext w σ w' (σ ++ [o']) := by
  have hget : ∀ (j : Nat) (x : OB), (σ ++ [o'])[j]? = some x → (σ[j]? = some x) ∨ (j = σ.length ∧ x = o') := by
    intro j x hj
    rw [List.getElem?_append] at hj
    split at hj
    · exact .inl hj
    · rename_i hn
      rw [List.getElem?_singleton] at hj
      split at hj
      · exact .inr ⟨by omega, by simpa using hj.symm⟩
      · cases hj
  have hext : Ext w σ w' (σ ++ [o']) := by
    refine ⟨hg.os, hg.tape, hg.output, hg.size, fun b hb' _ => hg.block b hb' (by simp), ?_, fun k o hk => ⟨o, ?_, Nat.le_refl _, fun _ => rfl⟩, fun b r hr => ⟨r, (hg.block b (Array.getElem?_eq_some_iff.1 hr).1 (by simp)).trans hr⟩⟩
    · rintro b ⟨j, x, hj, hx⟩
      rcases hget j x hj with hj' | ⟨_, rfl⟩
      · exact .inl ⟨j, x, hj', hx⟩
      · exact .inr (hb b hx).1
    · rw [List.getElem?_append_left (List.getElem?_eq_some_iff.1 hk).1]; exact hk
  refine ⟨⟨by simp [H.len], ?_, ?_, ?_⟩, hext⟩
  · intro i j oi oj b hi hj bi bj
    rcases hget i oi hi with hi' | ⟨rfl, rfl⟩ <;> rcases hget j oj hj with hj' | ⟨rfl, rfl⟩
    · exact H.inj i j oi oj b hi' hj' bi bj
    · have := H.lt i oi b hi' bi
      have := (hb b bj).1
      omega
    · have := H.lt j oj b hj' bj
      have := (hb b bi).1
      omega
    · rfl
  · intro k o b hk hb'
    rcases hget k o hk with hk' | ⟨_, rfl⟩
    · exact Nat.lt_of_lt_of_le (H.lt k o b hk' hb') hg.size
    · exact (hb b hb').2
  · intro k a o ha hk
    rcases hget k o hk with hk' | ⟨rfl, rfl⟩
    · have : k < h.length := by rw [← H.len]; exact (List.getElem?_eq_some_iff.1 hk').1
      rw [List.getElem?_append_left this] at ha
      exact (H.obj k a o ha hk').ext hext (fun b hx => hg.block b (H.lt k o b hk' hx) (by simp))
    · rw [H.len, List.getElem?_append_right (Nat.le_refl _)] at ha
      simp at ha
      subst ha
      exact ho hext

theorem lowVs_iff {n : Nat} : ∀ {cs : List AV}, lowV.lowVs n cs = true ↔ ∀ c ∈ cs, lowV n c = true := by
  intro cs
  induction cs with
  | nil => simp [lowV.lowVs]
  | cons c cs ih => simp [lowV.lowVs, ih]

theorem vi_low {w : World} {ow : Nat → Prop} {n : Nat} {c : AV} {x : Value} (h : VI w ow c x) : lowV n c = true := by
  have all : ∀ {cs : List AV} {vs : Array Value}, vs.size = cs.length → (∀ (i : Nat) c x, cs[i]? = some c → vs[i]? = some x → lowV n c = true) → lowV.lowVs n cs = true := by
    intro cs vs hl h
    rw [lowVs_iff]
    intro c hc
    obtain ⟨i, hi⟩ := List.getElem?_of_mem hc
    have : i < vs.size := by rw [hl]; exact (List.getElem?_eq_some_iff.1 hi).1
    exact h i c vs[i] hi (by simp [this])
  induction h with
  | agg hl h1 h ih => simp only [lowV]; exact all hl ih
  | tup hl h ih => simp only [lowV]; exact all hl ih
  | fn hl hl' h h' ih ih' => simp only [lowV, Bool.and_eq_true]; exact ⟨all hl ih, all hl' ih'⟩
  | _ => rfl

theorem vr_low {w : World} {σ : List OB} {n : Nat} (hn : σ.length ≤ n) {c : AV} {x : Value} (h : VR w σ c x) : lowV n c = true := by
  have all : ∀ {cs : List AV} {vs : Array Value}, vs.size = cs.length → (∀ (i : Nat) c x, cs[i]? = some c → vs[i]? = some x → lowV n c = true) → lowV.lowVs n cs = true := by
    intro cs vs hl h
    rw [lowVs_iff]
    intro c hc
    obtain ⟨i, hi⟩ := List.getElem?_of_mem hc
    have : i < vs.size := by rw [hl]; exact (List.getElem?_eq_some_iff.1 hi).1
    exact h i c vs[i] hi (by simp [this])
  induction h with
  | imm h => exact vi_low h
  | osl o ho hs hv hh => have := (List.getElem?_eq_some_iff.1 ho).1; simp only [lowV, decide_eq_true_eq]; omega
  | op o ho hs hv hh => have := (List.getElem?_eq_some_iff.1 ho).1; simp only [lowV, decide_eq_true_eq]; omega
  | yld o ho hs hh => have := (List.getElem?_eq_some_iff.1 ho).1; simp only [lowV, decide_eq_true_eq]; omega
  | agg hl h1 h ih => simp only [lowV]; exact all hl ih
  | tup hl h ih => simp only [lowV]; exact all hl ih
  | fn hl hl' h h' ih ih' => simp only [lowV, Bool.and_eq_true]; exact ⟨all hl ih, all hl' ih'⟩
  | @gd g v x h h' ih =>
    cases g with
    | true => simpa [lowV] using ih rfl
    | false => rfl

theorem own_take {σ : List OB} {n : Nat} {b : Nat} (h : own (σ.take n) b) : own σ b := by
  obtain ⟨k, o, h1, h2⟩ := h
  rw [List.getElem?_take] at h1
  split at h1
  · exact ⟨k, o, h1, h2⟩
  · cases h1

theorem vr_take {w : World} {σ : List OB} {n : Nat} {c : AV} {x : Value} (h : VR w σ c x) (hl : lowV n c = true) : VR w (σ.take n) c x := by
  have ag : ∀ {k : Nat} {o : OB}, σ[k]? = some o → k < n → (σ.take n)[k]? = some o := by
    intro k o ho hk
    rw [List.getElem?_take, if_pos hk]
    exact ho
  induction h with
  | imm h => exact .imm (h.mono (fun _ _ _ => rfl) (Nat.le_refl _) (fun b hb => .inl (own_take hb)))
  | osl o ho hs hv hh => exact .osl o (ag ho (by simpa [lowV] using hl)) hs hv hh
  | op o ho hs hv hh => exact .op o (ag ho (by simpa [lowV] using hl)) hs hv hh
  | yld o ho hs hh => exact .yld o (ag ho (by simpa [lowV] using hl)) hs hh
  | agg hz h1 h ih =>
    simp only [lowV, lowVs_iff] at hl
    exact .agg hz h1 (fun i c x hc hx => ih i c x hc hx (hl c (List.mem_of_getElem? hc)))
  | tup hz h ih =>
    simp only [lowV, lowVs_iff] at hl
    exact .tup hz (fun i c x hc hx => ih i c x hc hx (hl c (List.mem_of_getElem? hc)))
  | fn hz hz' h h' ih ih' =>
    simp only [lowV, Bool.and_eq_true, lowVs_iff] at hl
    exact .fn hz hz' (fun i c x hc hx => ih i c x hc hx (hl.1 c (List.mem_of_getElem? hc))) (fun i c x hc hx => ih' i c x hc hx (hl.2 c (List.mem_of_getElem? hc)))
  | @gd g v x h h' ih =>
    refine .gd (fun hg => ih hg ?_) h'
    subst hg
    simpa [lowV] using hl

theorem or_low {w : World} {σ : List OB} {n : Nat} (hn : σ.length ≤ n) {a : AObj} {o : OB} (h : OR w σ a o) : lowO n a := by
  cases a with
  | emp ver => trivial
  | mem ver ty cs =>
    obtain ⟨_, _, b, arr, _, _, h3, h4, _, h6⟩ := h
    intro c hc
    obtain ⟨i, hi⟩ := List.getElem?_of_mem hc
    have : i < arr.size := Nat.lt_of_lt_of_le (List.getElem?_eq_some_iff.1 hi).1 h4
    exact vr_low hn (h6 i c arr[i] hi (by simp [this]))
  | lp s ts L =>
    obtain ⟨_, b, r, _, _, _, _, _, _, h7, h8⟩ := h
    intro c hc
    obtain ⟨i, hi⟩ := List.getElem?_of_mem hc
    have : i < r.tmps.size := by rw [h7]; exact (List.getElem?_eq_some_iff.1 hi).1
    exact vr_low hn (h8 i c r.tmps[i] hi (by simp [this]))

theorem or_take {w : World} {σ : List OB} {n : Nat} {a : AObj} {o : OB} (h : OR w σ a o) (hl : lowO n a) : OR w (σ.take n) a o := by
  cases a with
  | emp ver => exact h
  | mem ver ty cs =>
    obtain ⟨h0, h1, b, arr, h2, h3, h4, h5, h6, h7⟩ := h
    exact ⟨h0, h1, b, arr, h2, h3, h4, h5, h6, fun i c x hc hx => vr_take (h7 i c x hc hx) (hl c (List.mem_of_getElem? hc))⟩
  | lp s ts L =>
    obtain ⟨h1, b, r, h2, h3, g1, g2, g3, g4, g5, g6⟩ := h
    exact ⟨h1, b, r, h2, h3, g1, g2, g3, g4, g5, fun i c x hc hx => vr_take (g6 i c x hc hx) (hl c (List.mem_of_getElem? hc))⟩

/-- The objects behind the first ones are dropped. -/
theorem HR.trunc {w0 w : World} {σ0 σ : List OB} {h0 hh tl : List AObj} (H0 : HR w0 σ0 h0) (E : Ext w0 σ0 w σ) (H : HR w σ (hh ++ tl)) (hl : hh.length = h0.length) (low : ∀ o ∈ hh, o ∈ h0 ∨ lowO h0.length o) :
    HR w (σ.take h0.length) hh ∧ Ext w0 σ0 w (σ.take h0.length) := by
  have hget : ∀ (j : Nat) (x : OB), (σ.take h0.length)[j]? = some x → σ[j]? = some x ∧ j < h0.length := by
    intro j x hj
    rw [List.getElem?_take] at hj
    split at hj
    · exact ⟨hj, ‹_›⟩
    · cases hj
  have hlen : σ.length = hh.length + tl.length := by rw [H.len]; simp
  refine ⟨⟨by simp; omega, ?_, ?_, ?_⟩, ⟨E.os, E.tape, E.output, E.size, E.keep, fun b hb => E.own b (own_take hb), fun k o hk => ?_, E.loops⟩⟩
  · intro i j oi oj b hi hj bi bj
    exact H.inj i j oi oj b (hget i oi hi).1 (hget j oj hj).1 bi bj
  · intro k o b hk hb
    exact H.lt k o b (hget k o hk).1 hb
  · intro k a o ha hk
    have hlow : lowO h0.length a := by
      rcases low a (List.mem_of_getElem? ha) with h | h
      · obtain ⟨i, hi⟩ := List.getElem?_of_mem h
        have hi' : i < σ0.length := by rw [H0.len]; exact (List.getElem?_eq_some_iff.1 hi).1
        exact or_low (by rw [H0.len]; exact Nat.le_refl _) (H0.obj i a σ0[i] hi (List.getElem?_eq_getElem hi'))
      · exact h
    refine or_take (H.obj k a o ?_ (hget k o hk).1) hlow
    rw [List.getElem?_append_left (List.getElem?_eq_some_iff.1 ha).1]
    exact ha
  · obtain ⟨o', g1, g2, g3⟩ := E.obj k o hk
    refine ⟨o', ?_, g2, g3⟩
    rw [List.getElem?_take, if_pos (by rw [← H0.len]; exact (List.getElem?_eq_some_iff.1 hk).1)]
    exact g1

end AF
