/- Chapter 14 (slot): awake. Seat-free. -/
import Derived.Test.YtejdjpjaahfnaaaU6
set_option linter.unusedVariables false
set_option linter.unusedSimpArgs false
set_option maxHeartbeats 4000000
set_option maxRecDepth 20000
namespace Go.Proofs.Ytejdjpjaahfnaaa.K
open Go.RowKit
attribute [local irreducible] strEq strOfNums Calls WL WC WQ WX Code.wp wpList bodyPost
theorem sec_wrA {x y : Rc} (hx : OkR x) (hy : OkR y) (hwx : RcW x) (hwy : RcW y) : Sec (wrA x) (wrA y) ↔ x.ep < y.ep := by
  unfold Sec
  rw [toR_wrA hx hwx, toR_wrA hy hwy]
  exact ⟨fun h => h.2.elim (fun h => absurd (okRd_wrA hx hwx) h) id, fun h => ⟨okRd_wrA hy hwy, .inr h⟩⟩
theorem okRd_z128 : ¬ OkRd z128 := fun h => by
  have h1 := (rdR_t h).2
  rw [rd_z128.2] at h1
  exact absurd h1 (by decide)
theorem okRd_nil : ¬ OkRd [] := fun h => by have := h.1; simp at this
theorem slot_CloseN_calls (a b : List Int) (A B : Option Addr) (m c k d : Nat) (w : World) (hl : a.length = m) (hb : ∀ x ∈ a, 0 ≤ x ∧ x < 256) (hc : m ≤ c ∧ c ≤ 9223372036854775807) (hC : Cells w A (a.map (.int .u8))) (hl2 : b.length = k) (hb2 : ∀ x ∈ b, 0 ≤ x ∧ x < 256) (hc2 : k ≤ d ∧ d ≤ 9223372036854775807) (hD : Cells w B (b.map (.int .u8))) (h : cloS a b = []) :
    Calls Try.prog 29 #[.slice A m c, .slice B k d] w fun e w' => ∃ A c, e = .returned (.slice A 0 c) ∧ Ext w w' := by
  refine (slot_Close_calls a b A B m c k d w hl hb hc hC hl2 hb2 hc2 hD).mono fun e w' h1 => ?_
  obtain ⟨A, c, zs, rfl, h1, h2, h3, h4⟩ := h1
  rw [h] at h2
  match zs, h2 with
  | [], _ => exact ⟨A, c, rfl, h4⟩
theorem slot_CloseE_calls (a b : List Int) (A B : Option Addr) (m c k d : Nat) (w : World) (hl : a.length = m) (hb : ∀ x ∈ a, 0 ≤ x ∧ x < 256) (hc : m ≤ c ∧ c ≤ 9223372036854775807) (hC : Cells w A (a.map (.int .u8))) (hl2 : b.length = k) (hb2 : ∀ x ∈ b, 0 ≤ x ∧ x < 256) (hc2 : k ≤ d ∧ d ≤ 9223372036854775807) (hD : Cells w B (b.map (.int .u8))) {n : Int} (h : cloS a b = erL n) :
    Calls Try.prog 29 #[.slice A m c, .slice B k d] w fun e w' => ∃ A c B2 c2 B4 c4, e = .returned (.slice A 2 c) ∧ Cells w' A [.int .i64 5, .int .i64 n, .slice B2 128 c2, .int .i64 4, .int .i64 0, .slice B4 0 c4] ∧ ((2 ≤ c ∧ c ≤ 9223372036854775807) ∧ (128 ≤ c2 ∧ c2 ≤ 9223372036854775807) ∧ c4 ≤ 9223372036854775807) ∧ Cells w' B2 (z128.map (.int .u8)) ∧ Ext w w' := by
  refine (slot_Close_calls a b A B m c k d w hl hb hc hC hl2 hb2 hc2 hD).mono fun e w' h1 => ?_
  obtain ⟨A, c, zs, rfl, h1, h2, h3, h4⟩ := h1
  rw [h] at h2
  obtain ⟨B2, c2, B4, c4, rfl, k1, k2, k3⟩ := er_open h2
  exact ⟨A, c, B2, c2, B4, c4, rfl, h1, ⟨h3, k1, k3⟩, k2, h4⟩
theorem law14_awake_calls (w : World) : Calls Try.prog 23 #[] w fun e w' => e = .returned (.bool true) ∧ Ext w w' := by
  obtain ⟨Z, hZ⟩ : ∃ Z, z128 = Z := ⟨_, rfl⟩
  have hZl : Z.length = 128 := by rw [← hZ]; rfl
  have hZb : ∀ x ∈ Z, 0 ≤ x ∧ x < 256 := fun x hx => by rw [← hZ] at hx; have := List.eq_of_mem_replicate hx; omega
  have w3 := rcN_W (n := 3) (by decide)
  have o3 : OkR (rcN 3) := by decide
  have w4 := rcN_W (n := 4) (by decide)
  have o4 : OkR (rcN 4) := by decide
  have w5 := rcN_W (n := 5) (by decide)
  have o5 : OkR (rcN 5) := by decide
  have b3 := fun w => law13_Record_calls 3 (by decide) w
  have b4 := fun w => law13_Record_calls 4 (by decide) w
  have b5 := fun w => law13_Record_calls 5 (by decide) w
  have a3 := fun w => root_Write_calls (rcN 3) w w3
  rw [(wrB_t o3).1, (wrB_t o3).2, wrA_length w3] at a3
  have a4 := fun w => root_Write_calls (rcN 4) w w4
  rw [(wrB_t o4).1, (wrB_t o4).2, wrA_length w4] at a4
  have hS : Sec (wrA (rcN 3)) (wrA (rcN 4)) := (sec_wrA o3 o4 w3 w4).2 (by decide)
  have hT := sl_2 hS
  rw [toR_wrA o4 w4] at hT
  have c1 := fun A B c d w hc hC hd hD => slot_Choose_calls (wrA (rcN 3)) (wrA (rcN 4)) A B 128 c 128 d w (wrA_length w3) (wrA_bytes o3 w3) hc hC (wrA_length w4) (wrA_bytes o4 w4) hd hD
  rw [hT.1, hT.2.1, hT.2.2] at c1
  have hU := sl_0 (a := []) (b := Z) okRd_nil (by rw [← hZ]; exact okRd_z128)
  have c2 := fun B d w hd hD => slot_Choose_calls [] Z none B 0 0 128 d w rfl (by simp) (by decide) (Cells.nil _ _) hZl hZb hd hD
  rw [hU.1, hU.2.1, hU.2.2] at c2
  have t1 := fun w => slot_TurnT_calls (rcN 5) 1 w w5 (by decide) o5
  have t2 := fun w => slot_TurnF_calls (rcN 5) 2 w w5 (by decide)
  have hcl : cloS (wrA (rcN 3)) (wrA (rcN 4)) = erL 0 := by
    unfold cloS cloO
    rw [if_pos hS, hT.2.1, hT.2.2, erased_wrA]
    rfl
  have hcn : cloS (wrA (rcN 3)) Z = [] := by
    unfold cloS cloO
    rw [if_neg (show ¬ Sec (wrA (rcN 3)) Z from fun h => by have := h.1; rw [← hZ] at this; exact okRd_z128 this)]
    refine if_neg fun h => ?_
    rw [← hZ] at h
    exact absurd h.2 (by rw [show erased z128 = true from decide_eq_true rfl]; decide)
  have d1 := fun A B c d w hc hC hd hD => slot_CloseE_calls (wrA (rcN 3)) (wrA (rcN 4)) A B 128 c 128 d w (wrA_length w3) (wrA_bytes o3 w3) hc hC (wrA_length w4) (wrA_bytes o4 w4) hd hD hcl
  have d2 := fun A B c d w hc hC hd hD => slot_CloseN_calls (wrA (rcN 3)) Z A B 128 c 128 d w (wrA_length w3) (wrA_bytes o3 w3) hc hC hZl hZb hd hD hcn
  have s4 := src w4
  have l4 := rcC_length w4
  have p4 := rcC_one (rcN 4)
  have l0 := rcC_length RcW.zero
  have p0 := rcC_one rc0
  generalize wrA (rcN 3) = X3 at *
  generalize wrA (rcN 4) = X4 at *
  generalize wrA (rcN 5) = X5 at *
  generalize rcN 3 = r3 at *
  generalize rcN 4 = r4 at *
  generalize rcN 5 = r5 at *
  clear w3 o3 w4 o4 w5 o5 hS hT hU hcl hcn
  refine calls_W (args := []) Try.func23 rfl 127 rfl ?_
  (repeat' (first | (refine WL_is ?_; first | refine WL_nil ?_ | (refine WL_makeI 128 hZ rfl rfl rfl rfl rfl rfl (by decide) (by decide) ?_; intro b_ w_ hb_ hl_ hx_ ho_ hr_) | (refine WL_isIndexAddr ?_; refine WL_indexS rfl rfl rfl rfl cells_ (by simp) om_ om_ ?_) | (refine WL_fieldP rfl rfl rfl cells_ (by simp) ?_) | (refine WL_isLoad ?_; refine WL_loadP rfl rfl rfl cells_ rfl ?_) | (refine WL_isBin ?_; refine WL_eqT rfl rfl rfl rfl rfl as_ (by with_reducible rfl) ?_) | refine wl_ ?_ | (refine WL_isFn ?_; refine WL_call rfl rfl rfl (b3 _) ?_; rintro _ w_ ⟨rfl, hx_⟩; have hz_ := hx_.size; refine ⟨_, rfl, ?_⟩) | (refine WL_isFn ?_; refine WL_call rfl rfl rfl (b4 _) ?_; rintro _ w_ ⟨rfl, hx_⟩; have hz_ := hx_.size; refine ⟨_, rfl, ?_⟩) | (refine WL_isFn ?_; refine WL_call rfl rfl rfl (b5 _) ?_; rintro _ w_ ⟨rfl, hx_⟩; have hz_ := hx_.size; refine ⟨_, rfl, ?_⟩) | (refine WL_isFn ?_; refine WL_call rfl rfl rfl (a3 _) ?_; rintro _ w_ ⟨A_, c_, rfl, ho_, hx_⟩; have hz_ := hx_.size; have hr_ := own_rd ho_; have hq_ := own_cap ho_; refine ⟨_, rfl, ?_⟩) | (refine WL_isFn ?_; refine WL_call rfl rfl rfl (a4 _) ?_; rintro _ w_ ⟨A_, c_, rfl, ho_, hx_⟩; have hz_ := hx_.size; have hr_ := own_rd ho_; have hq_ := own_cap ho_; refine ⟨_, rfl, ?_⟩) | (refine WL_isFn ?_; refine WL_call rfl rfl rfl (c1 _ _ _ _ _ om_ cells_ om_ cells_) ?_; rintro _ w_ ⟨rfl, hx_⟩; have hz_ := hx_.size; refine ⟨_, rfl, ?_⟩) | (refine WL_isFn ?_; refine WL_call rfl rfl rfl (c2 _ _ _ om_ cells_) ?_; rintro _ w_ ⟨rfl, hx_⟩; have hz_ := hx_.size; refine ⟨_, rfl, ?_⟩) | (refine WL_isFn ?_; refine WL_call rfl rfl rfl (t1 _) ?_; rintro _ w_ ⟨A_, c_, B1_, c1_, B2_, c2_, B3_, c3_, B4_, c4_, rfl, hr_, hq_, hd1_, hd2_, hx_⟩; have hz_ := hx_.size; refine ⟨_, rfl, ?_⟩) | (refine WL_isFn ?_; refine WL_call rfl rfl rfl (t2 _) ?_; rintro _ w_ ⟨A_, c_, rfl, hx_⟩; have hz_ := hx_.size; refine ⟨_, rfl, ?_⟩) | (refine WL_isFn ?_; refine WL_call rfl rfl rfl (d1 _ _ _ _ _ om_ cells_ om_ cells_) ?_; rintro _ w_ ⟨A_, c_, B2_, c2_, B4_, c4_, rfl, hr_, hq_, hd2_, hx_⟩; have hz_ := hx_.size; refine ⟨_, rfl, ?_⟩) | (refine WL_isFn ?_; refine WL_call rfl rfl rfl (d2 _ _ _ _ _ om_ cells_ om_ cells_) ?_; rintro _ w_ ⟨A_, c_, rfl, hx_⟩; have hz_ := hx_.size; refine ⟨_, rfl, ?_⟩)) | (refine WC_is ?_; first | refine WC_seq (fun _ _ => ?_) | refine WC_orderE (.rd false 0 (.act true 1 (.rd true 2 (.rd true 3 (.rd true 4 (.rd true 5 (.rd true 6 (.rd true 7 (.rd true 8 (.rd true 9 (.rd true 10 (.rd true 11 (.rd true 12 (.rd true 13 (.rd true 14 (.rd true 15 (.rd true 16 (.rd true 17 (.rd true 18 (.rd true 19 (.rd true 20 (.rd true 21 (.rd true 22 (.rd true 23 (.rd true 24 (.rd true 25 (.rd true 26 (.rd true 27 (.rd true 28 (.rd true 29 (.rd true 30 (.rd true 31 (.rd true 32 (.rd true 33 (.rd true 34 (.rd true 35 (.rd true 36 (.rd true 37 (.rd true 38 (.rd true 39 (.rd true 40 (.rd true 41 (.rd true 42 (.rd true 43 (.rd true 44 (.rd true 45 (.rd true 46 (.rd true 47 (.rd true 48 (.rd true 49 (.rd true 50 (.rd true 51 (.rd true 52 (.rd true 53 (.rd true 54 (.rd true 55 (.rd true 56 (.rd true 57 (.rd true 58 (.rd false 59 (.act true 60 (.act false 61 (.rd true 62 (.rd true 63 (.rd true 64 (.rd true 65 (.rd true 66 (.rd true 67 .nil)))))) .nil) .nil))))))))))))))))))))))))))))))))))))))))))))))))))))))))))) .nil)) [[], [], [], [], [], [], [], [], [], [], [], [], [], [], [], [], [], [], [], [], [], [], [], [], [], [], [], [], [], [], [], [], [], [], [], [], [], [], [], [], [], [], [], [], [], [], [], [], [], [], [], [], [], [], [], [], [], [], [], [], [0, 1, 2, 3, 4, 5, 6, 7, 8, 9, 10, 11, 12, 13, 14, 15, 16, 17, 18, 19, 20, 21, 22, 23, 24, 25, 26, 27, 28, 29, 30, 31, 32, 33, 34, 35, 36, 37, 38, 39, 40, 41, 42, 43, 44, 45, 46, 47, 48, 49, 50, 51, 52, 53, 54, 55, 56, 57, 58], [0, 1, 2, 3, 4, 5, 6, 7, 8, 9, 10, 11, 12, 13, 14, 15, 16, 17, 18, 19, 20, 21, 22, 23, 24, 25, 26, 27, 28, 29, 30, 31, 32, 33, 34, 35, 36, 37, 38, 39, 40, 41, 42, 43, 44, 45, 46, 47, 48, 49, 50, 51, 52, 53, 54, 55, 56, 57, 58, 59, 60]] [1, 60, 61] (some 61) 10 (by kernel_rfl) (by kernel_rfl) (fun w_ hx_ hz_ => ?_) | refine wc_ ?_) | (refine WQ_is ?_; first | refine wq_ ?_ | refine WQ_bodyCTT (Or.inl rfl) rfl rfl rfl rfl blk_ lr_ ?_ | refine WQ_bodyCTT (Or.inr rfl) rfl rfl rfl rfl blk_ lr_ ?_) | (refine Kb.mk ?_; intro b_ w_ hb_ hl_ hx_ hB_) | (refine Ks.mk ?_; intro w_ hz_ hx_ hB_) | (refine Ko.mk ?_; intro A_ c_ w_ hx_ ho_ hr_; have hz_ := hx_.size; have hq_ := own_cap ho_) | (refine Kp.mk ?_; intro A_ c_ w_ hx_ hz_ ho_ hr_ hp_; have hq_ := own_cap ho_) | (refine Kl.mk ?_; intro b_ w_ hb_ hl_ hx_ hB_ ho_) | (refine Km.mk ?_; intro b_ w_ hb_ hl_ hx_ ho_) | (refine Ke.mk ?_; intro r_ hr_) | (refine Kg.mk ?_ ?_ <;> intro hs_ <;> (try simp only [strEq_t, strEq_f, decide_eq_true_eq, decide_eq_false_iff_not, beq_iff_eq, beq_eq_false_iff_ne, bne_iff_ne, bne_eq_false_iff_eq, Bool.not_eq_true', Bool.not_eq_false', Bool.not_true, Bool.not_false, gt_iff_lt, ge_iff_le, Int.not_lt, Int.not_le, ne_eq, Bool.false_eq_true, not_true_eq_false, reduceCtorEq] at hs_) <;> (try (exfalso; first | exact hs_ | (exact hs_ rfl) | omega))) | (refine WX_is ?_; first | refine wx_ ?_ | exact WX_altnil | (refine WX_isRd ?_; first | (refine WX_isT ?_; refine WX_readT rfl rfl rfl rfl rfl (by (first | (refine WL_makeI 128 hZ rfl rfl rfl rfl rfl rfl (by decide) (by decide) ?_; intro b_ w_ hb_ hl_ hx_ ho_ hr_) | (refine WL_isIndexAddr ?_; refine WL_indexS rfl rfl rfl rfl cells_ (by simp) om_ om_ ?_) | (refine WL_fieldP rfl rfl rfl cells_ (by simp) ?_) | (refine WL_isLoad ?_; refine WL_loadP rfl rfl rfl cells_ rfl ?_) | (refine WL_isBin ?_; refine WL_eqT rfl rfl rfl rfl rfl as_ (by with_reducible rfl) ?_) | refine wl_ ?_); refine WL_nil ?_; exact DR_mk rfl) ?_) | (refine WX_isF ?_; refine WX_read rfl rfl rfl rfl rfl (fun w_ hx_ => by (first | (refine WL_makeI 128 hZ rfl rfl rfl rfl rfl rfl (by decide) (by decide) ?_; intro b_ w_ hb_ hl_ hx_ ho_ hr_) | (refine WL_isIndexAddr ?_; refine WL_indexS rfl rfl rfl rfl cells_ (by simp) om_ om_ ?_) | (refine WL_fieldP rfl rfl rfl cells_ (by simp) ?_) | (refine WL_isLoad ?_; refine WL_loadP rfl rfl rfl cells_ rfl ?_) | (refine WL_isBin ?_; refine WL_eqT rfl rfl rfl rfl rfl as_ (by with_reducible rfl) ?_) | refine wl_ ?_); refine WL_nil ?_; exact DR_mk rfl) ?_) | refine wxg_ ?_) | (refine WX_isAct ?_; first | refine WX_eff1 rfl (fun _ _ => ?_) | refine WX_eff rfl (fun _ _ => ?_) ?_))))
  all_goals first | (exfalso; omega) | exact ⟨rfl, ext_⟩
end Go.Proofs.Ytejdjpjaahfnaaa.K
