/-
  AFJ: functions that change an object of their caller; ends without 'return'.
-/
import Derived.Test.YtpnjpjibccmkiaaAfI
set_option linter.all false
set_option linter.unusedSimpArgs false
set_option linter.unusedVariables false
set_option linter.unusedSectionVars false
namespace AF
open Go
theorem fnQ_eff {rs : List RV} {h0 h' tl : List AObj} {K : AV → List AObj → Prop} {t : List AV} {r : AV} (hok : rvsOk t (h' ++ tl) rs) (hl : h'.length = h0.length) (hlow : ∀ o ∈ h', o ∈ h0 ∨ lowO h0.length o) (hK : K r h')
    (hv : VLe (frz (fun k => decide (h0.length ≤ k)) (h' ++ tl) 8 (retA (rvsVal t (h' ++ tl) rs))) r) : fnQ rs h0 K .ret t (h' ++ tl) :=
  ⟨r, h', hK, hok, ⟨tl, rfl⟩, hl, hlow, VOut.of 8 hv⟩
theorem fnQ_effn {rs : List RV} {h0 h' tl : List AObj} {K : AV → List AObj → Prop} {t : List AV} {r : AV} (hok : rvsOk t (h' ++ tl) rs) (hl : h'.length = h0.length) (hlow : ∀ o ∈ h', o ∈ h0 ∨ lowO h0.length o) (hK : K r h')
    (hv : VLe (frz (fun k => decide (h0.length ≤ k)) (h' ++ tl) 8 (retA (rvsVal t (h' ++ tl) rs))) r) : fnQ rs h0 K .normal t (h' ++ tl) :=
  ⟨r, h', hK, hok, ⟨tl, rfl⟩, hl, hlow, VOut.of 8 hv⟩
section
variable {k v : Nat} {h l : List AObj} {o o' : AObj} {ty : TypeId} {cs : List AV}
theorem getO_left (hk : k < h.length) : getO k (h ++ l) = getO k h := by unfold getO; rw [List.getElem?_append_left hk]
theorem setO_left (hk : k < h.length) : setO k (h ++ l) o = setO k h o ++ l := by unfold setO; rw [List.set_append_left _ _ hk]
theorem len_setO : (setO k h o).length = h.length := by unfold setO; simp
theorem getO_setO (hk : k < h.length) : getO k (setO k h o) = some o := by unfold getO setO; rw [List.getElem?_set_self hk]
theorem setO_setO : setO k (setO k h o) o' = setO k h o' := by unfold setO; rw [List.set_set]
theorem cellsOf_of (e : getO k h = some (.mem v ty cs)) : cellsOf h k v = some cs := by unfold cellsOf; rw [e]; simp
theorem getO_lt (e : getO k h = some o) : k < h.length := by unfold getO at e; exact (List.getElem?_eq_some_iff.1 e).1
theorem mem_setO {x : AObj} (hx : x ∈ setO k h o) : x ∈ h ∨ x = o := by
  unfold setO at hx
  exact List.mem_or_eq_of_mem_set hx
theorem cellsOf_left (hk : k < h.length) : cellsOf (h ++ l) k v = cellsOf h k v := by unfold cellsOf; rw [getO_left hk]
end
section
variable {k v w n : Nat} {h l : List AObj} {o o' : AObj} {ty : TypeId} {cs : List AV}
theorem getO_set (hk : k < h.length) : getO k (setO k h o ++ l) = some o := by rw [getO_left (by rw [len_setO]; exact hk), getO_setO hk]
theorem cellsOf_set (hk : k < h.length) : cellsOf (setO k h (.mem w ty cs) ++ l) k v = if w = v then some cs else none := by unfold cellsOf; rw [getO_set hk]
theorem setO_set (hk : k < h.length) : setO k (setO k h o ++ l) o' = setO k h o' ++ l := by rw [setO_left (by rw [len_setO]; exact hk), setO_setO]
theorem getO_seta : getO (h.length + n) (setO k h o ++ l) = l[n]? := by
  have := @getO_app (setO k h o) l n
  rwa [len_setO] at this
theorem getO_seta0 : getO h.length (setO k h o ++ l) = l[0]? := by
  have := @getO_app0 (setO k h o) l
  rwa [len_setO] at this
theorem setO_seta : setO (h.length + n) (setO k h o ++ l) o' = setO k h o ++ l.set n o' := by
  have := @setO_app (setO k h o) l n o'
  rwa [len_setO] at this
theorem setO_seta0 : setO h.length (setO k h o ++ l) o' = setO k h o ++ l.set 0 o' := by
  have := @setO_app0 (setO k h o) l o'
  rwa [len_setO] at this
theorem cellsOf_seta : cellsOf (setO k h o ++ l) (h.length + n) v = cellsOf l n v := by unfold cellsOf; rw [getO_seta]; rfl
theorem cellsOf_seta0 : cellsOf (setO k h o ++ l) h.length v = cellsOf l 0 v := by unfold cellsOf; rw [getO_seta0]; rfl
theorem site_seta : site (setO k h o ++ l) (h.length + n) = site l n := by unfold site; rw [getO_seta]; rfl
theorem site_seta0 : site (setO k h o ++ l) h.length = site l 0 := by unfold site; rw [getO_seta0]; rfl
theorem liveS_seta : liveS (setO k h o ++ l) (h.length + n) v = liveS l n v := by unfold liveS; rw [getO_seta]; rfl
theorem liveS_seta0 : liveS (setO k h o ++ l) h.length v = liveS l 0 v := by unfold liveS; rw [getO_seta0]; rfl
theorem liveS_left (hk : k < h.length) : liveS (h ++ l) k v = liveS h k v := by unfold liveS; rw [getO_left hk]
end
attribute [go_sem] getO_seta getO_seta0 setO_seta setO_seta0 cellsOf_seta cellsOf_seta0 site_seta site_seta0 liveS_seta liveS_seta0
theorem setO_same {k : Nat} {h : List AObj} {o : AObj} (e : getO k h = some o) : setO k h o = h := by
  unfold getO at e; unfold setO
  obtain ⟨h1, h2⟩ := List.getElem?_eq_some_iff.1 e
  rw [← h2]; exact List.set_getElem_self h1
theorem retA_nil : retA [] = .tup [] := rfl
attribute [go_sem] retA_nil
theorem lowVs_nil {n : Nat} : lowV.lowVs n [] = true := rfl
end AF
