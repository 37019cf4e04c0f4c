/-
  AFW: the walk's rules, as one set.
-/
import Derived.Test.YtpnjpjibccmkiaaAf19
import Derived.Test.YtpnjpjibccmkiaaAfG
set_option linter.all false
set_option linter.unusedSimpArgs false
set_option linter.unusedVariables false
set_option linter.unusedSectionVars false
namespace AF
open Go
attribute [go_sem] getA_0 setA_0 getA_1 setA_1 getA_2 setA_2 getA_3 setA_3 getA_4 setA_4 getA_5 setA_5 getA_6 setA_6 getA_7 setA_7 getA_s8 setA_s8 getA_s32 setA_s32 ev_t ev_c strip_bool flag_bool solid_bool cells_bool strip_int flag_int solid_int cells_int strip_str flag_str solid_str cells_str strip_sl flag_sl solid_sl cells_sl strip_osl flag_osl solid_osl cells_osl strip_agg flag_agg solid_agg strip_tup flag_tup cells_tup strip_ip flag_ip solid_ip cells_ip strip_op flag_op solid_op cells_op strip_nilp flag_nilp solid_nilp cells_nilp strip_nl flag_nl solid_nl cells_nl strip_fn flag_fn solid_fn cells_fn strip_yld flag_yld solid_yld cells_yld strip_nilfn flag_nilfn solid_nilfn cells_nilfn strip_ifc flag_ifc solid_ifc cells_ifc strip_nilif flag_nilif solid_nilif cells_nilif strip_undef flag_undef cells_agg strip_gd flag_gd w_mv wg_mv w_bin wg_bin w_bool wg_bool w_un wg_un w_conv wg_conv w_isnil wg_isnil w_aeq wg_aeq w_fld wg_fld w_ext wg_ext w_build wg_build w_mkfn wg_mkfn w_slen wg_slen w_sidx wg_sidx w_sslc wg_sslc w_mm wg_mm w_len wg_len w_idxA wg_idxA w_idxArr wg_idxArr w_fldA wg_fldA w_load wg_load w_nilchk wg_nilchk w_slc wg_slc w_pick wg_pick w_nilo w_alloc w_box w_store w_mkslc w_bslc w_app w_apps w_call wg_call w_callv w_nil evs_nil evs_cons strips_nil strips_cons flags_nil flags_cons binV_iadd binC_iadd binV_isub binC_isub binV_imul binC_imul binV_iquo binC_iquo binV_irem binC_irem binV_ishl binC_ishl binV_ishr binC_ishr binV_ieql binC_ieql binV_ineq binC_ineq binV_ilss binC_ilss binV_ileq binC_ileq binV_igtr binC_igtr binV_igeq binC_igeq binV_iand binC_iand binV_ior binC_ior binV_ixor binC_ixor binV_iandNot binC_iandNot binV_sadd binC_sadd binV_seql binC_seql binV_sneq binC_sneq binV_slss binC_slss binV_sleq binC_sleq binV_sgtr binC_sgtr binV_sgeq binC_sgeq valP_bool okP_bool valP_not okP_not valP_neg okP_neg valP_conv okP_conv valP_isnil_ptr okP_isnil_ptr valP_isnil_func okP_isnil_func valP_isnil_iface okP_isnil_iface valP_isnil_sl okP_isnil_sl valP_isnil_nl okP_isnil_nl condA_anyb strip_anyb flag_anyb solid_anyb cells_anyb nilT_nilp nilT_nilfn nilT_nilif nilT_nl nilT_ip nilT_fn nilT_ifc valP_aeq okP_aeq valP_fld okP_fld cutOk_n cutOk_s valP_ext okP_ext valP_build okP_build fillOk_nil fillOk_cons fillA_nil fillA_cons valP_mkfn okP_mkfn valP_sidx okP_sidx valP_sslh0 okP_sslh0 valL_sllh0 okL_sllh0 valL_oslh0 okL_oslh0 valP_ssl0 okP_ssl0 valL_sll0 okL_sll0 valL_osl0 okL_osl0 valP_ssh0 okP_ssh0 valL_slh0 okL_slh0 valL_osh0 okL_osh0 valP_ss0 okP_ss0 valL_sl0 okL_sl0 valL_os0 okL_os0 valP_max2 valP_min2 valP_max3 valP_min3 okP_mm2 okP_mm3 valL_lensl okL_lensl valL_lennl okL_lennl valP_slen okP_slen valL_lenosl okL_lenosl valL_idxsl okL_idxsl valL_idxosl okL_idxosl valL_arrip okL_arrip valL_arrop okL_arrop valL_fldip okL_fldip valL_fldop okL_fldop valL_ldip okL_ldip valL_ldop okL_ldop valL_ncip okL_ncip valL_ncop okL_ncop valL_ncfn okL_ncfn cut_none cut_some guardA_b guardA_gd guardOk_b guardOk_gd pickOk_b pickOk_gd pickV_bbb pickV_gbb pickV_bbg pickV_gbg pickV_bgb pickV_ggb pickV_bgg pickV_ggg c_skip c_ops c_seq c_cond c_block c_exit c_ret at_n at_e at_r ib_n ib_r ib_e
attribute [go_sem] and_true true_and List.drop_zero List.drop_succ_cons List.getElem?_cons_zero List.getElem?_cons_succ Option.getD_some List.length_cons List.length_nil Int.toNat_natCast beq_true imp_self and_self implies_true Bool.and_true Bool.and_false Bool.or_false decide_eq_true_eq Bool.and_eq_true

theorem rvsOk_nil (t : List AV) (h : List AObj) : rvsOk t h [] = True := rfl
theorem rvsOk_tmp (n : Nat) (l : List RV) (t : List AV) (h : List AObj) : rvsOk t h (.tmp n :: l) = rvsOk t h l := by simp [rvsOk, RV.ok]
theorem rvsVal_nil (t : List AV) (h : List AObj) : rvsVal t h [] = [] := rfl
theorem rvsVal_tmp (n : Nat) (l : List RV) (t : List AV) (h : List AObj) : rvsVal t h (.tmp n :: l) = getA n t :: rvsVal t h l := rfl
theorem retA_one (v : AV) : retA [v] = v := rfl
theorem retA_two (v u : AV) (l : List AV) : retA (v :: u :: l) = .tup (v :: u :: l) := rfl
theorem condA_bool (c : Bool) (A B : Nx) (t : List AV) (h : List AObj) : condA (.bool c) A B t h = ((c = true → A t h) ∧ (c = false → B t h)) := rfl
theorem wrap64_id {n : Int} (h0 : -9223372036854775808 ≤ n) (h1 : n ≤ 9223372036854775807) : IntKind.i64.wrap n = n := by
  have e1 : (2 : Int) ^ IntKind.bits IntKind.i64 = 18446744073709551616 := rfl
  have e2 : (2 : Int) ^ (IntKind.bits IntKind.i64 - 1) = 9223372036854775808 := rfl
  have e3 : IntKind.signed IntKind.i64 = true := rfl
  unfold IntKind.wrap
  rw [e1, e2, e3]
  simp only [Bool.true_and, decide_eq_true_eq]
  split <;> omega
/-- The end, as the walk comes to it. -/
theorem fnQ_ret {rs : List RV} {h0 : List AObj} {K : AV → List AObj → Prop} {t : List AV} {hh tl : List AObj} {r : AV} (e : hh = h0 ++ tl) (hok : rvsOk t hh rs) (hK : K r h0) (hv : VLe (frz (fun k => decide (h0.length ≤ k)) hh 8 (retA (rvsVal t hh rs))) r) :
    fnQ rs h0 K .ret t hh := by subst e; exact fnQ_pure hok hK hv
/-- A loop: what is known at the head of a round, as a function of ghosts; a measure. -/
theorem loop_of {P : Program} {b : Nat} {x : C} {Q : Ex → Nx} {ι : Type} {t : List AV} {h : List AObj} (T : ι → List AV) (H : ι → List AObj) (inv : ι → Prop) (m : ι → Nat) (i0 : ι) (h0 : inv i0) (hw : Wk t h (T i0) (H i0))
    (round : ∀ i, inv i → ∀ K : Nx, (∀ t' h' j, inv j → m j < m i → Wk t' h' (T j) (H j) → K t' h') → codeA P b x (Ex.andThen K Q) (T i) (H i)) : codeA P b (.loop x) Q t h := by
  refine ⟨fun n t h => ∃ i, inv i ∧ m i = n ∧ t = T i ∧ h = H i, ⟨m i0, T i0, H i0, hw, i0, h0, rfl, rfl, rfl⟩, ?_⟩
  rintro n t' h' ⟨i, hi, rfl, rfl, rfl⟩
  exact round i hi _ (fun t'' h'' j hj hlt hw => ⟨m j, T j, H j, hlt, hw, j, hj, rfl, rfl, rfl⟩)

/-- Temporaries: most of them nothing. -/
def spar (n : Nat) (l : List (Nat × AV)) : List AV := l.foldl (fun t p => setA p.1 t p.2) (List.replicate n .undef)
theorem VLes.nil : VLes [] [] := trivial
theorem VLes.cons_undef {a : AV} {l m : List AV} (h : VLes l m) : VLes (a :: l) (.undef :: m) := ⟨VLe.undef a, h⟩
theorem VLes.cons_eq {a b : AV} {l m : List AV} (e : a = b) (h : VLes l m) : VLes (a :: l) (b :: m) := ⟨VLe.of_eq e, h⟩
theorem VLe_undef_iff (a : AV) : VLe a .undef = True := by simp [VLe.undef]
theorem VLe_self (a : AV) : VLe a a = True := by simp [VLe.refl]
theorem VLe_int {k : IntKind} {a b : Int} (h : a = b) : VLe (.int k a) (.int k b) := h ▸ VLe.refl _
theorem VLes_nil : VLes [] [] = True := rfl
theorem VLes_cons {a b : AV} {l m : List AV} : VLes (a :: l) (b :: m) = (VLe a b ∧ VLes l m) := rfl
theorem fnQ_pure0 {rs : List RV} {h : List AObj} {t : List AV} {r : AV} (hok : rvsOk t h rs) (hv : VLe (frz (fun k => decide (h.length ≤ k)) h 8 (retA (rvsVal t h rs))) r) : fnQ rs h (fun r1 h1 => r1 = r ∧ h1 = h) .ret t h :=
  fnQ_ret (tl := []) (by simp) hok ⟨rfl, rfl⟩ hv
theorem fnQ_pure1 {rs : List RV} {h tl : List AObj} {t : List AV} {r : AV} (hok : rvsOk t (h ++ tl) rs) (hv : VLe (frz (fun k => decide (h.length ≤ k)) (h ++ tl) 8 (retA (rvsVal t (h ++ tl) rs))) r) : fnQ rs h (fun r1 h1 => r1 = r ∧ h1 = h) .ret t (h ++ tl) :=
  fnQ_ret rfl hok ⟨rfl, rfl⟩ hv
section
variable {fz : Nat → Bool} {h : List AObj} {n : Nat}
theorem frz_int {k : IntKind} {a : Int} : frz fz h (n + 1) (.int k a) = .int k a := rfl
theorem frz_bool {a : Bool} : frz fz h (n + 1) (.bool a) = .bool a := rfl
theorem frz_str {a : List UInt8} : frz fz h (n + 1) (.str a) = .str a := rfl
theorem frz_sl {m : Nat} {f : Nat → List AV} : frz fz h (n + 1) (.sl m f) = .sl m f := rfl
theorem frz_nl : frz fz h (n + 1) .nl = .nl := rfl
theorem frz_nilp : frz fz h (n + 1) .nilp = .nilp := rfl
theorem frz_nilfn : frz fz h (n + 1) .nilfn = .nilfn := rfl
theorem frz_ifc : frz fz h (n + 1) .ifc = .ifc := rfl
theorem frz_nilif : frz fz h (n + 1) .nilif = .nilif := rfl
theorem frz_undef : frz fz h (n + 1) .undef = .undef := rfl
theorem frz_ip {cs : List AV} : frz fz h (n + 1) (.ip cs) = .ip cs := rfl
theorem frz_agg {cs : List AV} : frz fz h (n + 1) (.agg cs) = .agg (cs.map (frz fz h n)) := rfl
theorem frz_tup {cs : List AV} : frz fz h (n + 1) (.tup cs) = .tup (cs.map (frz fz h n)) := rfl
theorem frz_fn {f : Fn} {a b : List AV} : frz fz h (n + 1) (.fn f a b) = .fn f (a.map (frz fz h n)) (b.map (frz fz h n)) := rfl
theorem frz_gd {g : Bool} {v : AV} : frz fz h (n + 1) (.gd g v) = .gd g (frz fz h n v) := rfl
end
attribute [go_sem] frz_int frz_bool frz_str frz_sl frz_nl frz_nilp frz_nilfn frz_ifc frz_nilif frz_undef frz_ip frz_agg frz_tup frz_fn frz_gd if_true if_false List.map_cons List.map_nil
attribute [go_sem] condA_bool rvsOk_nil rvsOk_tmp rvsVal_nil rvsVal_tmp retA_one retA_two
end AF
