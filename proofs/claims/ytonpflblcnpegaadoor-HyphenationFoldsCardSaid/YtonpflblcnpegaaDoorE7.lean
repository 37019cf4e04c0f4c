import Derived.Test.YtonpflblcnpegaaDoorE6
set_option linter.all false
set_option linter.unusedSimpArgs false
set_option linter.unusedVariables false
set_option linter.unusedSectionVars false
open Go Go.Proofs AF HY
namespace HY
set_option maxRecDepth 100000
def clusF (s : List UInt8) : AV := .fn (.func 76) [] [.ip [.str s]]
def clusX (s : List UInt8) : List (List AV) := (clusters s).map fun x => [.int .i64 (x.1 : Int), .str x.2]
theorem clusX_len (s : List UInt8) : (clusX s).length = (clus s).length := by simp [clusX, clus]
theorem clusX_get (s : List UInt8) {i : Nat} (hi : i < (clusX s).length) : ∃ n : Nat, (clusX s)[i] = [.int .i64 (n : Int), .str ((clus s).getD i [])] := by
  have h1 : i < (clusters s).length := by simpa [clusX] using hi
  refine ⟨((clusters s)[i]).1, ?_⟩
  simp [clusX, clus, List.getD_eq_getElem?_getD, h1]
theorem t91 (s : List UInt8) (h : List AObj) : ACalls Tryd.prog 43 [.str s] h (clusF s) h := by
  refine acalls_of fn43d (by simp) ?_
  simp only [List.length_cons, List.length_nil, Nat.reduceAdd, Nat.reduceSub, List.replicate, List.cons_append, List.nil_append, List.append_nil]
  simp (disch := omega) only [c43d, go_sem, wrap64_id, Int.tdiv_eq_ediv_of_nonneg, Int.tmod_eq_emod_of_nonneg]
  repeat' first
    | ((first | refine fnQ_pure1 ?_ ?_ | refine fnQ_pure0 ?_ ?_); (next => repeat' first | exact rvs_n | refine rvs_t ?_ | (simp [go_sem]; done)); simp only [go_sem]; (first | exact VLe.refl _ | refine VLe_int ?_ | refine VLe_bool ?_ | refine VLe_str ?_ | skip))
    | (with_reducible refine And.intro ?_ ?_)
    | with_reducible intro _
  all_goals first
    | omega
    | (rename_i hx; revert hx; simp; done)
    | (simp; done)
    | skip
theorem flag_clusF (s : List UInt8) : (clusF s).flag = true := rfl
theorem strip_clusF (s : List UInt8) : (clusF s).strip = clusF s := rfl
attribute [go_sem] flag_clusF strip_clusF
theorem _root_.AF.LowI.app {h a b : List AObj} (e : b.length = a.length) (hb : ∀ o ∈ b, o ∈ a ∨ (lowO (h.length + a.length) o ∧ lowO (h.length + a.length + 1) o)) : LowI (h ++ a) (h ++ b) := by
  refine ⟨by simp [e], fun o ho => ?_⟩
  rw [List.length_append]
  rcases List.mem_append.1 ho with ho | ho
  · exact .inl (List.mem_append_left _ ho)
  · rcases hb o ho with h1 | h1
    · exact .inl (List.mem_append_right _ h1)
    · exact .inr h1
theorem low_strC {l : List (List UInt8)} {n : Nat} {c : AV} (h : c ∈ strC l) : lowV n c = true := by
  unfold strC at h
  rw [List.mem_map] at h
  obtain ⟨x, _, rfl⟩ := h
  rfl
theorem take_getD (l : List (List UInt8)) {i : Nat} (h : i < l.length) : l.take (i + 1) = l.take i ++ [l.getD i []] := by
  rw [List.take_add_one, List.getElem?_eq_getElem h]
  simp [List.getD_eq_getElem?_getD, h]
set_option maxHeartbeats 4000000 in
theorem t67 (s : List UInt8) (h : List AObj) (hs : s.length ≤ 1000000000) : ACalls Tryd.prog 16 [.str s] h (strs (clus s)) h := by
  have hcl := clus_len s
  have hit := it114 s hs
  refine acalls_of fn16d (by simp) ?_
  simp only [List.length_cons, List.length_nil, Nat.reduceAdd, Nat.reduceSub, List.replicate, List.cons_append, List.nil_append, List.append_nil]
  simp (disch := omega) only [c16d, madeA, go_sem, wrap64_id, Int.tdiv_eq_ediv_of_nonneg, Int.tmod_eq_emod_of_nonneg]
  repeat' first
    | ((first | refine callA_pure (t91 s _) ?_ ?_); (next => repeat' first | exact flags_n | refine flags_c (by first | rfl | assumption) ?_); simp (disch := omega) only [madeA, go_sem, wrap64_id, Int.tdiv_eq_ediv_of_nonneg, Int.tmod_eq_emod_of_nonneg])
    | ((first | refine callG_pure (fun e => ⟨?_, t91 s _⟩) ?_); (next => repeat' first | exact flags_n | refine flags_c (by first | rfl | assumption) ?_); simp (disch := omega) only [madeA, go_sem, wrap64_id, Int.tdiv_eq_ediv_of_nonneg, Int.tmod_eq_emod_of_nonneg])
    | ((first | refine fnQ_pure1 ?_ ?_ | refine fnQ_pure0 ?_ ?_); (next => repeat' first | exact rvs_n | refine rvs_t ?_ | (simp [go_sem]; done)); simp only [go_sem]; (first | exact VLe.refl _ | refine VLe_int ?_ | refine VLe_bool ?_ | refine VLe_str ?_ | skip))
    | (with_reducible refine And.intro ?_ ?_)
    | with_reducible intro _
  all_goals first
    | omega
    | (rename_i hx; revert hx; simp; done)
    | (simp; done)
    | skip
  refine range_iter (xs := clusX s) hit (by intro a ha; simp [clusX] at ha; obtain ⟨_, _, _, rfl⟩ := ha; rfl)
    (S := fun i hh => (i = 0 ∧ hh = h ++ [.emp 1, .mem 1 33 [.nl], .emp 0, .emp 0]) ∨ (0 < i ∧ ∃ (v w : Nat) (x : List UInt8), hh = h ++ [.emp 1, .mem 1 33 [.osl (h.length + 3) v 1 0 i], .mem w 9 [.str x], .mem v 9 (strC ((clus s).take i))]))
    (E := fun _ _ => False) ?_ (fun _ _ h => h.elim) ?_ ?_ ?_ ?_ (fun _ _ h => h.elim)
  · rintro i hh (⟨rfl, rfl⟩ | ⟨_, v, w, x, rfl⟩)
    · exact LowI.refl _
    · refine LowI.app rfl (fun o ho => ?_)
      simp only [List.mem_cons, List.not_mem_nil, or_false] at ho
      rcases ho with rfl | rfl | rfl | rfl
      · left; simp
      · right; constructor <;> (intro c hc; simp at hc; subst hc; simp [lowV] <;> omega)
      · right; constructor <;> (intro c hc; simp at hc; subst hc; rfl)
      · right; constructor <;> exact fun c hc => low_strC hc
  · exact .inl ⟨rfl, rfl⟩
  · simp [lowV, lowV.lowVs, clusF]
    try omega
  · rintro i hh tl L hi hS hlen
    obtain ⟨n, hx⟩ := clusX_get s hi
    rw [clusX_len] at hi
    rw [hx]
    have hts := take_getD (clus s) hi
    simp only [setsA]
    rcases hS with ⟨rfl, rfl⟩ | ⟨hpos, v, w, x, rfl⟩
    · simp (disch := omega) only [List.append_assoc, eq_self, madeA, go_sem, wrap64_id, Int.tdiv_eq_ediv_of_nonneg, Int.tmod_eq_emod_of_nonneg]
      repeat' first
        | ((first | refine fnQ_pure1 ?_ ?_ | refine fnQ_pure0 ?_ ?_); (next => repeat' first | exact rvs_n | refine rvs_t ?_ | (simp [go_sem]; done)); simp only [go_sem]; (first | exact VLe.refl _ | refine VLe_int ?_ | refine VLe_bool ?_ | refine VLe_str ?_ | skip))
        | (with_reducible refine And.intro ?_ ?_)
        | with_reducible intro _
      all_goals first
        | omega
        | (rename_i hx; revert hx; simp; done)
        | (simp; done)
        | skip
      refine ⟨h ++ [.emp 1, .mem 1 33 [.osl (h.length + 3) 1 1 0 1], .mem 1 9 [.str ((clus s).getD 0 [])], .mem 1 9 [.str ((clus s).getD 0 [])]], by simp, by simp, .inr ⟨by omega, 1, 1, (clus s).getD 0 [], ?_⟩⟩
      rw [hts]; rfl
    · have eL : (strC ((clus s).take i)).length = i := by rw [strC_len, List.length_take]; omega
      have eT : List.take i (strC ((clus s).take i)) = strC ((clus s).take i) := List.take_of_length_le (by omega)
      simp (disch := omega) only [List.append_assoc, eq_self, madeA, eL, eT, go_sem, wrap64_id, Int.tdiv_eq_ediv_of_nonneg, Int.tmod_eq_emod_of_nonneg]
      repeat' first
        | ((first | refine fnQ_pure1 ?_ ?_ | refine fnQ_pure0 ?_ ?_); (next => repeat' first | exact rvs_n | refine rvs_t ?_ | (simp [go_sem]; done)); simp only [go_sem]; (first | exact VLe.refl _ | refine VLe_int ?_ | refine VLe_bool ?_ | refine VLe_str ?_ | skip))
        | (with_reducible refine And.intro ?_ ?_)
        | with_reducible intro _
      all_goals first
        | omega
        | (rename_i hx; revert hx; simp; done)
        | (simp; done)
        | skip
      refine ⟨h ++ [.emp 1, .mem 1 33 [.osl (h.length + 3) (v + 1) 1 0 (i + 1)], .mem (w + 1) 9 [.str ((clus s).getD i [])], .mem (v + 1) 9 (strC ((clus s).take i) ++ [.str ((clus s).getD i [])])], by simp, by simp, ?_⟩
      have hfin : ∃ (v' w' : Nat) (x' : List UInt8), h ++ [AObj.emp 1, .mem 1 33 [.osl (h.length + 3) (v + 1) 1 0 (i + 1)], .mem (w + 1) 9 [.str ((clus s).getD i [])], .mem (v + 1) 9 (strC ((clus s).take i) ++ [.str ((clus s).getD i [])])] = h ++ [.emp 1, .mem 1 33 [.osl (h.length + 3) v' 1 0 (i + 1)], .mem w' 9 [.str x'], .mem v' 9 (strC ((clus s).take (i + 1)))] := ⟨v + 1, w + 1, (clus s).getD i [], by rw [hts, strC_snoc]⟩
      first
        | exact .inr ⟨by omega, hfin⟩
        | exact .inr hfin
        | exact hfin
  · rintro hh hS
    rw [clusX_len] at hS
    rcases hS with ⟨h0, rfl⟩ | ⟨hpos, v, w, x, rfl⟩
    · have e : clus s = [] := List.eq_nil_of_length_eq_zero h0
      rw [e]
      simp (disch := omega) only [go_sem, wrap64_id, Int.tdiv_eq_ediv_of_nonneg, Int.tmod_eq_emod_of_nonneg]
      repeat' first
        | ((first | refine fnQ_pure1 ?_ ?_ | refine fnQ_pure0 ?_ ?_); (next => repeat' first | exact rvs_n | refine rvs_t ?_ | (simp [go_sem]; done)); simp only [go_sem]; (first | exact VLe.refl _ | refine VLe_int ?_ | refine VLe_bool ?_ | refine VLe_str ?_ | skip))
        | (with_reducible refine And.intro ?_ ?_)
        | with_reducible intro _
      all_goals first
        | omega
        | (rename_i hx; revert hx; simp; done)
        | (simp; done)
        | skip
      exact VLe_nl
    · rw [List.take_length]
      have eL := strC_len (clus s)
      simp (disch := omega) only [eL, go_sem, wrap64_id, Int.tdiv_eq_ediv_of_nonneg, Int.tmod_eq_emod_of_nonneg]
      repeat' first
        | ((first | refine fnQ_pure1 ?_ ?_ | refine fnQ_pure0 ?_ ?_); (next => repeat' first | exact rvs_n | refine rvs_t ?_ | (simp [go_sem]; done)); simp only [go_sem]; (first | exact VLe.refl _ | refine VLe_int ?_ | refine VLe_bool ?_ | refine VLe_str ?_ | skip))
        | (with_reducible refine And.intro ?_ ?_)
        | with_reducible intro _
      all_goals first
        | omega
        | (rename_i hx; revert hx; simp; done)
        | (simp; done)
        | skip
      rw [if_pos (by omega)]
      exact strs_of rfl
end HY
