import Derived.Test.YtonpflblcnpegaaDoorE18
set_option linter.all false
set_option linter.unusedSimpArgs false
set_option linter.unusedVariables false
set_option linter.unusedSectionVars false
open Go Go.Proofs AF HY
namespace HY
set_option maxRecDepth 100000
theorem callV_eff {P : Program} {f : Nat} {first cap args : List AV} {d : Option Nat} {nx : Nx} {t : List AV} {h h' : List AObj} {v : AV} (hc : ACalls P f (first ++ args ++ cap) h v h') (hn : nx (putA t d v) h') : callV P (.fn (.func f) first cap :: args) d nx t h := ⟨v, h', hc, hn⟩
theorem intsC_set (all : List Int) {a : Nat} (x : Int) (ha : a < all.length) : List.take a (intsC all) ++ [.int .i64 x] ++ List.drop (a + 1) (intsC all) = intsC (all.set a x) := by
  unfold intsC
  rw [List.map_set, List.set_eq_take_append_cons_drop, if_pos (by simpa using ha), List.append_assoc]
  rfl
theorem intsC_get {all : List Int} {a : Nat} (ha : a < all.length) : (intsC all)[a]? = some (.int .i64 (all.getD a 0)) := by simp [intsC, List.getD_eq_getElem?_getD, ha]
theorem intsC_low {all : List Int} {n : Nat} : lowO n (.mem 1 3 (intsC all)) := by
  intro c hc
  unfold intsC at hc
  rw [List.mem_map] at hc
  obtain ⟨x, _, rfl⟩ := hc
  rfl
theorem madeA_ints (n : Nat) : madeA [.int .i64 0] n = intsC (List.replicate n 0) := by
  induction n with
  | zero => rfl
  | succ n ih => simp only [madeA, ih, List.replicate_succ]; rfl
theorem t137 (k v k2 n a : Nat) (all : List Int) (z x : Int) (h : List AObj) (hk : getO k h = some (.mem v 26 [.osl k2 1 1 0 n])) (hk2 : getO k2 h = some (.mem 1 3 (intsC all))) (hn : all.length = n) (ha : a < n) (hz : z = a) :
    ACalls Tryd.prog 74 [.int .i64 z, .int .i64 x, .op k v 0] h (.tup []) (setO k2 h (.mem 1 3 (intsC (all.set a (max (all.getD a 0) x))))) := by
  subst hz
  subst hn
  have hc := cellsOf_of hk
  have hc2 := cellsOf_of hk2
  have hg := intsC_get ha
  have hlen := intsC_len all
  have hst := intsC_set all (max (all.getD a 0) x) ha
  refine acalls_of fn74d (by simp) ?_
  simp only [List.length_cons, List.length_nil, Nat.reduceAdd, Nat.reduceSub, List.replicate, List.cons_append, List.nil_append, List.append_nil]
  simp (disch := omega) only [c74d, hc, hc2, hk2, hg, hlen, go_sem, wrap64_id, Int.tdiv_eq_ediv_of_nonneg, Int.tmod_eq_emod_of_nonneg]
  repeat' first
    | ((first | refine fnQ_pure1 ?_ ?_ | refine fnQ_pure0 ?_ ?_); (next => repeat' first | exact rvs_n | refine rvs_t ?_ | (simp [go_sem]; done)); simp only [go_sem]; (first | exact VLe.refl _ | refine VLe_int ?_ | refine VLe_bool ?_ | refine VLe_str ?_ | skip))
    | (with_reducible refine And.intro ?_ ?_)
    | with_reducible intro _
  all_goals first
    | omega
    | (rename_i hx; revert hx; simp; done)
    | (simp; done)
    | skip
  rw [hst]
  refine fnQ_effn0 trivial len_setO (fun o ho => ?_) ⟨rfl, rfl⟩ (VLe.refl _)
  rcases mem_setO ho with h4 | rfl
  · exact .inl h4
  · exact .inr intsC_low
theorem src_sl (h : List AObj) (L : List (List UInt8)) : Src h (strs L) L.length (strC L) := by
  refine ⟨rfl, rfl, fun X => rfl, fun X => rfl, fun X => ?_, fun k v z p m _ => rfl⟩
  show some (L.length, (List.range L.length).flatMap fun i => [AV.str (L.getD i [])]) = _
  congr 2
  rw [← List.map_eq_flatMap]
  unfold strC
  apply List.ext_getElem
  · simp
  · intro i h1 h2
    simp at h1
    simp [List.getD_eq_getElem?_getD, h1]
theorem src_osl {h : List AObj} {k v : Nat} {ty : TypeId} {L : List (List UInt8)} (hk : getO k h = some (.mem v ty (strC L))) : Src h (.osl k v 1 0 L.length) L.length (strC L) := by
  have hkl := getO_lt hk
  refine ⟨rfl, rfl, fun X => ?_, fun X => rfl, fun X => ?_, fun k' v' z p m hk' => ?_⟩
  · show (liveS (h ++ X) k v = true) = True
    rw [liveS_left hkl]
    unfold liveS
    rw [hk]
    simp
  · rw [sliceCells_osl, getO_left hkl, hk, slcOf_mem, if_pos (by rw [strC_len]; simp)]
    simp [strC_len]
    try exact List.take_of_length_le (by rw [strC_len]; exact Nat.le_refl _)
  · show (k' != k) = true
    rw [bne_iff_ne]
    omega
theorem c135_units (w : List UInt8) (b : Nat) (H : List AObj) (hw : w.length ≤ 1000000000 - 2) (h1 : getO (b + 1) H = some (.mem 1 9 [.str [46]])) (h2 : getO (b + 2) H = some (.mem 1 9 [.str [46]]))
    (h3 : getO (b + 3) H = some (.mem 1 33 [.osl (b + 1) 1 1 0 1, strs (clus (fold w)), .osl (b + 2) 1 1 0 1])) : ACalls Tryd.prog 73 [.osl (b + 3) 1 1 0 3] H (strs (unitsOf w)) H := by
  have hcl := clus_len (fold w)
  rw [fold_len] at hcl
  have e : unitsOf w = [[[46]], clus (fold w), [[46]]].flatten := by simp [unitsOf]
  rw [e]
  refine t135 [[[46]], clus (fold w), [[46]]] (fun i => if i = 0 then .osl (b + 1) 1 1 0 1 else if i = 1 then strs (clus (fold w)) else .osl (b + 2) 1 1 0 1) H (b + 3) 1 _ h3 rfl ?_ (by simp) (by simp; omega) (by simp) (by simp)
  intro i hi
  have : i = 0 ∨ i = 1 ∨ i = 2 := by have : i < 3 := hi; omega
  rcases this with rfl | rfl | rfl
  · exact ⟨rfl, src_osl (L := [[46]]) h1⟩
  · exact ⟨rfl, src_sl H _⟩
  · exact ⟨rfl, src_osl (L := [[46]]) h2⟩
theorem intsV_mid {p : List Int} {k m n : Nat} {fz : Nat → Bool} {h : List AObj} (e : k + m ≤ p.length) : VLe (.sl m fun i => ((List.drop (k + i) (intsC p)).take 1).map (rei fz h (n + 1))) (intsV ((p.drop k).take m)) := by
  refine VLe_sl (by rw [List.length_take, List.length_drop]; omega) (fun i hi => ?_)
  rw [List.length_take, List.length_drop] at hi
  have h1 : k + i < (intsC p).length := by rw [intsC_len]; omega
  rw [List.drop_eq_getElem_cons h1]
  simp [intsC, List.getD_eq_getElem?_getD, show i < m by omega, show k + i < p.length by omega]
  rfl
theorem madeA1 {z : List AV} : madeA z 1 = z := by simp [madeA]
theorem madeA3 {z : List AV} : madeA z 3 = z ++ (z ++ z) := by simp [madeA]
def ob131 (b : Nat) (A : List (List UInt8)) (len : Nat) (all : List Int) (O : AObj) : List AObj :=
  [.emp 1, .mem 1 9 [.str [46]], .mem 1 9 [.str [46]], .mem 1 33 [.osl (b + 1) 1 1 0 1, strs A, .osl (b + 2) 1 1 0 1], .mem 1 3 (intsC all), .mem 1 26 [.osl (b + 4) 1 1 0 len], .mem 1 89 [.fn (.func 74) [] [.op (b + 5) 1 0]], O]
def wfPats (ps : List Pat) : Prop := ∀ i, i < ps.length → (ps.getD i default).levels.length = (clus (fold (ps.getD i default).letters)).length + 1
set_option maxHeartbeats 4000000 in
theorem t131 (ps : List Pat) (w : List UInt8) (h : List AObj) (hok : okPats ps) (hw : w.length ≤ 1000000) (hw0 : 0 < (clus (fold w)).length) (hwf : wfPats ps) : ACalls Tryd.prog 41 [patsV ps, .str w] h (intsV (levelsOf ps w)) h := by
  have hcl := clus_len (fold w)
  rw [fold_len] at hcl
  obtain ⟨A, hA⟩ : ∃ A, A = clus (fold w) := ⟨_, rfl⟩
  have c136 : ∀ h, ACalls Tryd.prog 62 [.str w] h (strs A) h := fun h => by rw [hA]; exact t136 w h (by omega)
  have hul : (unitsOf w).length = A.length + 2 := by rw [hA]; simp [unitsOf]
  obtain ⟨l, hl⟩ : ∃ l, l = unitsOf w := ⟨_, rfl⟩
  have c135 : ∀ H : List AObj, getO (h.length + 1) H = some (.mem 1 9 [.str [46]]) → getO (h.length + 2) H = some (.mem 1 9 [.str [46]]) → getO (h.length + 3) H = some (.mem 1 33 [.osl (h.length + 1) 1 1 0 1, strs A, .osl (h.length + 2) 1 1 0 1]) →
      ACalls Tryd.prog 73 [.osl (h.length + 3) 1 1 0 3] H (strs l) H := fun H h1 h2 h3 => by
    rw [hl]; rw [hA] at h3; exact c135_units w h.length H (by omega) h1 h2 h3
  unfold levelsOf
  rw [← hl] at hul ⊢
  rw [← hA] at hw0 hcl
  obtain ⟨hpl, hp⟩ := hok
  have hz : ((l.length : Int) + 1).toNat = l.length + 1 := by omega
  refine acalls_of fn41d (by simp) ?_
  simp only [List.length_cons, List.length_nil, Nat.reduceAdd, Nat.reduceSub, List.replicate, List.cons_append, List.nil_append, List.append_nil]
  simp (disch := omega) only [c41d, patsV, strs, madeA1, madeA3, hz, madeA_ints, go_sem, wrap64_id, Int.tdiv_eq_ediv_of_nonneg, Int.tmod_eq_emod_of_nonneg]
  repeat' first
    | ((first | refine callA_pure (c136 _) ?_ ?_ | refine callA_pure (c135 _ (by simp only [strs, go_sem]) (by simp only [strs, go_sem]) (by simp only [strs, go_sem])) ?_ ?_); (next => repeat' first | exact flags_n | refine flags_c (by first | rfl | assumption) ?_); simp (disch := omega) only [patsV, strs, madeA1, madeA3, hz, madeA_ints, go_sem, wrap64_id, Int.tdiv_eq_ediv_of_nonneg, Int.tmod_eq_emod_of_nonneg])
    | ((first | refine callG_pure (fun e => ⟨?_, c136 _⟩) ?_ | refine callG_pure (fun e => ⟨?_, c135 _ (by simp only [strs, go_sem]) (by simp only [strs, go_sem]) (by simp only [strs, go_sem])⟩) ?_); (next => repeat' first | exact flags_n | refine flags_c (by first | rfl | assumption) ?_); simp (disch := omega) only [patsV, strs, madeA1, madeA3, hz, madeA_ints, go_sem, wrap64_id, Int.tdiv_eq_ediv_of_nonneg, Int.tmod_eq_emod_of_nonneg])
    | ((first | refine fnQ_pure1 ?_ ?_ | refine fnQ_pure0 ?_ ?_); (next => repeat' first | exact rvs_n | refine rvs_t ?_ | (simp [go_sem]; done)); simp only [go_sem]; (first | exact VLe.refl _ | refine VLe_int ?_ | refine VLe_bool ?_ | refine VLe_str ?_ | skip))
    | (with_reducible refine And.intro ?_ ?_)
    | with_reducible intro _
  all_goals first
    | omega
    | (rename_i hx; revert hx; simp; done)
    | (simp; done)
    | skip
  refine loop_of (T := fun i : Nat × List Int × AObj => spar 57 [(5, strs l), (6, .op (h.length + 5) 1 0), (7, .op (h.length + 6) 1 0), (24, patsV ps), (25, .int .i64 ps.length), (26, .int .i64 i.1)]) (H := fun i => h ++ ob131 h.length A (l.length + 1) i.2.1 i.2.2)
    (inv := fun i => i.1 ≤ ps.length ∧ i.2.1.length = l.length + 1 ∧ allLevels ps l = (ps.drop i.1).foldl (addPat l) i.2.1 ∧ site [i.2.2] 0 = true) (m := fun i => ps.length - i.1) (0, List.replicate (l.length + 1) 0, .emp 0) ⟨by simp, by simp, by simp [allLevels], rfl⟩ (Wk.temps ?_) ?_
  · (simp only [strs, patsV, spar, List.foldl, List.replicate, go_sem, VLes_nil, VLes_cons, VLe_undef_iff, VLe_self]; try (repeat' first | (with_reducible refine And.intro ?_ ?_) | (refine VLe_int ?_; omega) | (refine VLe_bool ?_; rfl) | exact VLe.refl _))
  rintro ⟨i, all, O⟩ ⟨i1, i2, i3, i4⟩ K hK
  simp only at i1 i2 i3 i4 hK
  have i4' : ∀ m, site (O :: m) 0 = true := fun _ => i4
  by_cases hi : i < ps.length
  · obtain ⟨b1, b2⟩ := hp i hi
    have hwp := hwf i hi
    rw [drop_pat hi, List.foldl_cons] at i3
    obtain ⟨p, hpp⟩ : ∃ p, p = ps.getD i default := ⟨_, rfl⟩
    have epp := hpp.symm
    rw [← hpp] at i3 b1 b2 hwp
    obtain ⟨pat, hpat⟩ : ∃ pat, pat = clus (fold p.letters) := ⟨_, rfl⟩
    have c136p : ∀ h, ACalls Tryd.prog 62 [.str p.letters] h (strs pat) h := fun h => by rw [hpat]; exact t136 _ h b1
    have hpl2 := clus_len (fold p.letters)
    rw [fold_len] at hpl2
    rw [← hpat] at hwp hpl2
    have c138 := fun h => t138 pat l h
    have hit := it142 pat l (by omega) (by omega)
    simp (disch := omega) only [spar, List.foldl, List.replicate, patsV, patC, epp, i4', ob131, go_sem, wrap64_id, Int.tdiv_eq_ediv_of_nonneg, Int.tmod_eq_emod_of_nonneg]
    repeat' first
      | ((first | refine callA_pure (c136p _) ?_ ?_ | refine callA_pure (c138 _) ?_ ?_); (next => repeat' first | exact flags_n | refine flags_c (by first | rfl | assumption) ?_); simp (disch := omega) only [patsV, patC, epp, i4', strs, ob131, go_sem, wrap64_id, Int.tdiv_eq_ediv_of_nonneg, Int.tmod_eq_emod_of_nonneg])
      | ((first | refine callG_pure (fun e => ⟨?_, c136p _⟩) ?_ | refine callG_pure (fun e => ⟨?_, c138 _⟩) ?_); (next => repeat' first | exact flags_n | refine flags_c (by first | rfl | assumption) ?_); simp (disch := omega) only [patsV, patC, epp, i4', strs, ob131, go_sem, wrap64_id, Int.tdiv_eq_ediv_of_nonneg, Int.tmod_eq_emod_of_nonneg])
      | ((first | refine fnQ_pure1 ?_ ?_ | refine fnQ_pure0 ?_ ?_); (next => repeat' first | exact rvs_n | refine rvs_t ?_ | (simp [go_sem]; done)); simp only [go_sem]; (first | exact VLe.refl _ | refine VLe_int ?_ | refine VLe_bool ?_ | refine VLe_str ?_ | skip))
      | (with_reducible refine And.intro ?_ ?_)
      | with_reducible intro _
    all_goals first
      | omega
      | (rename_i hx; revert hx; simp; done)
      | (simp; done)
      | skip
    obtain ⟨OO, hOO⟩ : ∃ x : AObj, x = .mem (verOf (some O) + 1) 32 [.str p.letters, intsV p.levels] := ⟨_, rfl⟩
    obtain ⟨ov, hov⟩ : ∃ x : Nat, x = verOf (some O) + 1 := ⟨_, rfl⟩
    rw [← hov] at hOO ⊢
    rw [show h ++ [AObj.emp 1, AObj.mem 1 9 [AV.str [46]], AObj.mem 1 9 [AV.str [46]], AObj.mem 1 33 [AV.osl (h.length + 1) 1 1 0 1, AV.sl A.length fun i => [AV.str (A.getD i [])], AV.osl (h.length + 2) 1 1 0 1],
        AObj.mem 1 3 (intsC all), AObj.mem 1 26 [AV.osl (h.length + 4) 1 1 0 (l.length + 1)], AObj.mem 1 89 [AV.fn (Fn.func 74) [] [AV.op (h.length + 5) 1 0]],
        AObj.mem ov 32 [AV.str p.letters, intsV p.levels]] = h ++ ob131 h.length A (l.length + 1) all OO by rw [hOO]; rfl]
    refine range_iter (xs := posX pat l) hit (by intro a ha; simp [posX] at ha; obtain ⟨_, _, rfl⟩ := ha; rfl)
      (S := fun j hh => hh = h ++ ob131 h.length A (l.length + 1) (((positions pat l).take j).foldl (fun a i => addAt a i p.levels) all) OO)
      (E := fun _ _ => False) ?_ (fun _ _ h => h.elim) ?_ ?_ ?_ ?_ (fun _ _ h => h.elim)
    · rintro j hh rfl
      refine LowI.app rfl (fun o ho => ?_)
      simp only [ob131, List.mem_cons, List.not_mem_nil, or_false] at ho
      rcases ho with rfl | rfl | rfl | rfl | rfl | rfl | rfl | rfl
      case inr.inr.inr.inr.inl => exact .inr ⟨intsC_low, intsC_low⟩
      all_goals (left; simp [ob131])
    · simp
    · simp [lowV, lowV.lowVs, placesF, intsV, ob131]
      try omega
    · rintro j hh tl L hj rfl hlen
      have hjp : j < (positions pat l).length := by simpa [posX] using hj
      have hxj : (posX pat l)[j] = [.int .i64 (((positions pat l)[j] : Nat) : Int)] := by simp [posX]
      rw [hxj]
      have hqm : (positions pat l)[j] < l.length + 1 - pat.length := by
        have := List.getElem_mem hjp
        unfold positions at this
        rw [List.mem_filter, List.mem_range] at this
        exact this.1
      have hst : ((positions pat l).take (j + 1)).foldl (fun a i => addAt a i p.levels) all = addAt (((positions pat l).take j).foldl (fun a i => addAt a i p.levels) all) (positions pat l)[j] p.levels := by
        rw [List.take_add_one, List.getElem?_eq_getElem hjp, Option.toList_some, List.foldl_append]; rfl
      obtain ⟨q, hq⟩ : ∃ q, q = (positions pat l)[j] := ⟨_, rfl⟩
      obtain ⟨all1, hall1⟩ : ∃ a, a = ((positions pat l).take j).foldl (fun a i => addAt a i p.levels) all := ⟨_, rfl⟩
      have hal : all1.length = l.length + 1 := by rw [hall1, foldl_len (fun a x => addAt_len _ _ _), i2]
      rw [← hq, ← hall1] at hst
      rw [← hq] at hqm ⊢
      rw [← hall1]
      simp only [setsA]
      subst hOO
      simp (disch := omega) only [List.append_assoc, eq_self, ob131, strs, intsV, go_sem, wrap64_id, Int.tdiv_eq_ediv_of_nonneg, Int.tmod_eq_emod_of_nonneg]
      repeat' first
        | ((first | refine fnQ_pure1 ?_ ?_ | refine fnQ_pure0 ?_ ?_); (next => repeat' first | exact rvs_n | refine rvs_t ?_ | (simp [go_sem]; done)); simp only [go_sem]; (first | exact VLe.refl _ | refine VLe_int ?_ | refine VLe_bool ?_ | refine VLe_str ?_ | skip))
        | (with_reducible refine And.intro ?_ ?_)
        | with_reducible intro _
      all_goals first
        | omega
        | (rename_i hx; revert hx; simp; done)
        | (simp; done)
        | skip
      refine loop_of (T := fun k : Nat × List Int => spar 57 [(7, .op (h.length + 6) 1 0), (10, .int .i64 q), (37, intsV p.levels), (38, .int .i64 p.levels.length), (39, .int .i64 k.1)])
        (H := fun k => h ++ (AObj.emp 1 :: AObj.mem 1 9 [AV.str [46]] :: AObj.mem 1 9 [AV.str [46]] :: AObj.mem 1 33 [AV.osl (h.length + 1) 1 1 0 1, strs A, AV.osl (h.length + 2) 1 1 0 1] :: AObj.mem 1 3 (intsC k.2) ::
          AObj.mem 1 26 [AV.osl (h.length + 4) 1 1 0 (l.length + 1)] :: AObj.mem 1 89 [AV.fn (Fn.func 74) [] [AV.op (h.length + 5) 1 0]] :: AObj.mem ov 32 [AV.str p.letters, intsV p.levels] :: AObj.lp LS.busy _ L :: tl))
        (inv := fun k => k.1 ≤ p.levels.length ∧ k.2.length = l.length + 1 ∧ addAt all1 q p.levels = addAt k.2 (q + k.1) (p.levels.drop k.1)) (m := fun k => p.levels.length - k.1) (0, all1) ⟨by simp, hal, by simp⟩ (Wk.temps ?_) ?_
      · (simp only [intsV, spar, List.foldl, List.replicate, go_sem, VLes_nil, VLes_cons, VLe_undef_iff, VLe_self]; try (repeat' first | (with_reducible refine And.intro ?_ ?_) | (refine VLe_int ?_; omega) | (refine VLe_bool ?_; rfl) | exact VLe.refl _))
      rintro ⟨k, all2⟩ ⟨k1, k2, k3⟩ K2 hK2
      simp only at k1 k2 k3 hK2
      by_cases hk : k < p.levels.length
      · have e : p.levels.drop k = p.levels.getD k 0 :: p.levels.drop (k + 1) := by rw [List.drop_eq_getElem_cons hk]; simp [List.getD_eq_getElem?_getD, hk]
        rw [e] at k3
        simp only [addAt] at k3
        simp (disch := omega) only [spar, List.foldl, List.replicate, strs, intsV, go_sem, wrap64_id, Int.tdiv_eq_ediv_of_nonneg, Int.tmod_eq_emod_of_nonneg]
        repeat' first
          | ((first | refine fnQ_pure1 ?_ ?_ | refine fnQ_pure0 ?_ ?_); (next => repeat' first | exact rvs_n | refine rvs_t ?_ | (simp [go_sem]; done)); simp only [go_sem]; (first | exact VLe.refl _ | refine VLe_int ?_ | refine VLe_bool ?_ | refine VLe_str ?_ | skip))
          | (with_reducible refine And.intro ?_ ?_)
          | with_reducible intro _
        all_goals first
          | omega
          | (rename_i hx; revert hx; simp; done)
          | (simp; done)
          | skip
        refine callV_eff (t137 (h.length + 5) 1 (h.length + 4) (l.length + 1) (q + k) all2 _ _ _ (by simp only [go_sem]) (by simp only [go_sem]) k2 (by omega) (by omega)) ?_
        simp (disch := omega) only [strs, intsV, go_sem, wrap64_id, Int.tdiv_eq_ediv_of_nonneg, Int.tmod_eq_emod_of_nonneg]
        repeat' first
          | ((first | refine fnQ_pure1 ?_ ?_ | refine fnQ_pure0 ?_ ?_); (next => repeat' first | exact rvs_n | refine rvs_t ?_ | (simp [go_sem]; done)); simp only [go_sem]; (first | exact VLe.refl _ | refine VLe_int ?_ | refine VLe_bool ?_ | refine VLe_str ?_ | skip))
          | (with_reducible refine And.intro ?_ ?_)
          | with_reducible intro _
        all_goals first
          | omega
          | (rename_i hx; revert hx; simp; done)
          | (simp; done)
          | skip
        refine hK2 _ _ (k + 1, all2.set (q + k) (max (all2.getD (q + k) 0) (p.levels.getD k 0))) ⟨by simp only; omega, by simp only [List.length_set]; exact k2, by rw [k3]; rfl⟩ (by simp only; omega) (Wk.temps ?_)
        (simp only [intsV, spar, List.foldl, List.replicate, go_sem, VLes_nil, VLes_cons, VLe_undef_iff, VLe_self]; try (repeat' first | (with_reducible refine And.intro ?_ ?_) | (refine VLe_int ?_; omega) | (refine VLe_bool ?_; rfl) | exact VLe.refl _))
      · have e : k = p.levels.length := by omega
        subst e
        rw [List.drop_length] at k3
        simp only [addAt] at k3
        simp (disch := omega) only [spar, List.foldl, List.replicate, strs, intsV, go_sem, wrap64_id, Int.tdiv_eq_ediv_of_nonneg, Int.tmod_eq_emod_of_nonneg]
        repeat' first
          | ((first | refine fnQ_pure1 ?_ ?_ | refine fnQ_pure0 ?_ ?_); (next => repeat' first | exact rvs_n | refine rvs_t ?_ | (simp [go_sem]; done)); simp only [go_sem]; (first | exact VLe.refl _ | refine VLe_int ?_ | refine VLe_bool ?_ | refine VLe_str ?_ | skip))
          | (with_reducible refine And.intro ?_ ?_)
          | with_reducible intro _
        all_goals first
          | omega
          | (rename_i hx; revert hx; simp; done)
          | (simp; done)
          | skip
        rw [hst, k3]
        exact ⟨h ++ ob131 h.length A (l.length + 1) all2 (.mem ov 32 [.str p.letters, intsV p.levels]), by rw [List.append_assoc]; rfl, by simp [ob131], rfl⟩
    · rintro hh rfl
      have hpx : (posX pat l).length = (positions pat l).length := by simp [posX]
      rw [hpx, List.take_length]
      have hnx : (positions pat l).foldl (fun a i => addAt a i p.levels) all = addPat l all p := by unfold addPat; rw [← hpat]
      rw [hnx]
      simp (disch := omega) only [spar, List.foldl, List.replicate, strs, intsV, go_sem, wrap64_id, Int.tdiv_eq_ediv_of_nonneg, Int.tmod_eq_emod_of_nonneg]
      repeat' first
        | ((first | refine fnQ_pure1 ?_ ?_ | refine fnQ_pure0 ?_ ?_); (next => repeat' first | exact rvs_n | refine rvs_t ?_ | (simp [go_sem]; done)); simp only [go_sem]; (first | exact VLe.refl _ | refine VLe_int ?_ | refine VLe_bool ?_ | refine VLe_str ?_ | skip))
        | (with_reducible refine And.intro ?_ ?_)
        | with_reducible intro _
      all_goals first
        | omega
        | (rename_i hx; revert hx; simp; done)
        | (simp; done)
        | skip
      subst hOO
      refine hK _ _ (i + 1, addPat l all p, .mem ov 32 [.str p.letters, intsV p.levels]) ⟨by simp only; omega, by simp only; rw [addPat_len, i2], i3, rfl⟩ (by simp only; omega) (Wk.temps ?_)
      (simp only [strs, patsV, patC, intsV, spar, List.foldl, List.replicate, go_sem, VLes_nil, VLes_cons, VLe_undef_iff, VLe_self]; try (repeat' first | (with_reducible refine And.intro ?_ ?_) | (refine VLe_int ?_; omega) | (refine VLe_bool ?_; rfl) | exact VLe.refl _))
  · have e : i = ps.length := by omega
    subst e
    rw [List.drop_length, List.foldl_nil] at i3
    have hlen := intsC_len all
    have hx1 : ((l.length : Int) - 1).toNat - (2 : Int).toNat = l.length - 1 - 2 := by omega
    simp (disch := omega) only [spar, List.foldl, List.replicate, strs, ob131, hx1, hlen, go_sem, wrap64_id, Int.tdiv_eq_ediv_of_nonneg, Int.tmod_eq_emod_of_nonneg]
    repeat' first
      | ((first | refine fnQ_pure1 ?_ ?_ | refine fnQ_pure0 ?_ ?_); (next => repeat' first | exact rvs_n | refine rvs_t ?_ | (simp [go_sem]; done)); simp only [go_sem]; (first | exact VLe.refl _ | refine VLe_int ?_ | refine VLe_bool ?_ | refine VLe_str ?_ | skip))
      | (with_reducible refine And.intro ?_ ?_)
      | with_reducible intro _
    all_goals first
      | omega
      | (rename_i hx; revert hx; simp; done)
      | (simp; done)
      | skip
    rw [i3, if_pos (by rw [hlen, i2, show Int.toNat 2 = 2 from rfl]; omega)]
    exact intsV_mid (by rw [i2]; omega)
end HY
