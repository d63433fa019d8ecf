/- Chapter 13 (root): awake. Seat-free. -/
import Derived.Test.YtejdjpjaahfnaaaV11
set_option linter.unusedVariables false
set_option linter.unusedSimpArgs false
set_option maxHeartbeats 4000000
set_option maxRecDepth 20000
namespace Go.Proofs.Ytejdjpjaahfnaaa.K
open Go.RowKit
attribute [local irreducible] strEq strOfNums Calls WL WC WQ WX Code.wp wpList bodyPost
theorem rdR_W {bs : List Int} (hb : ∀ x ∈ bs, 0 ≤ x ∧ x < 256) : RcW (rdR bs) := by
  unfold rdR
  split
  · rename_i h; exact toR_W h.1 hb h.2.2.1
  · exact RcW.zero
theorem law13_awake_calls (w : World) : Calls Try.prog 13 #[] w fun e w' => e = .returned (.bool true) ∧ Ext w w' := by
  have hR : z128 = z128 := rfl
  obtain ⟨Z, hZ⟩ : ∃ Z, z128 = Z := ⟨_, rfl⟩
  have hZl : Z.length = 128 := by rw [← hZ]; rfl
  have hZb : ∀ x ∈ Z, 0 ≤ x ∧ x < 256 := fun x hx => by rw [← hZ] at hx; have := List.eq_of_mem_replicate hx; omega
  have w5 := rcN_W (n := 5) (by decide)
  have o5 : OkR (rcN 5) := by decide
  have b1 := fun w => law13_Record_calls 5 (by decide) w
  have b2 := fun w => law13_Record_calls 1 (by decide) w
  have b3 := fun w => law13_Record_calls 0 (by decide) w
  have a1 := fun w => root_Write_calls (rcN 5) w w5
  rw [(wrB_t o5).1, (wrB_t o5).2, wrA_length w5] at a1
  have a2 := fun A c w hc hC => root_Read_calls (wrA (rcN 5)) A 128 c w (wrA_length w5) (wrA_bytes o5 w5) hc hC
  rw [(rd_wrA o5 w5).1, (rd_wrA o5 w5).2] at a2
  have a3 := fun A c w hc hC => root_Read_calls Z A 128 c w hZl hZb hc hC
  rw [show rdR Z = rc0 from by rw [← hZ]; exact rd_z128.1, show rdRE Z = 130 from by rw [← hZ]; exact rd_z128.2] at a3
  have a4 := fun w => root_Write_calls rc0 w RcW.zero
  rw [(wrB_f okR_rc0).1, (wrB_f okR_rc0).2] at a4
  simp only [List.length_nil] at a4
  have a5 := fun A c w hC => root_Erased_calls Z A 128 c w hZl hC true (by rw [← hZ]; exact decide_eq_true rfl)
  have a6 := fun A c w hC => root_Erased_calls (wrA (rcN 5)) A 128 c w (wrA_length w5) hC false (erased_wrA _)
  have a7 := fun w hC => root_Erased_calls [] none 0 0 w rfl hC false erased_nil
  have a8 := fun w => root_Check_calls (rcN 1) w (rcN_W (by decide)) true (by decide)
  have a9 := fun w => root_Check_calls (rcN 0) w (rcN_W (by decide)) false (by decide)
  have h9 : (wrA (rcN 5)).take 9 = [82, 9, 0, 0, 5, 0, 0, 0, 4] := by
    rw [wrA_eq]
    show (([82] ++ ([9] ++ ([0, 0] ++ (leB 5 4 ++ (leB 4 8 ++ _))))) : List Int).take 9 = _
    rw [show leB 5 4 = [5, 0, 0, 0] from by decide, show leB 4 8 = [4, 0, 0, 0, 0, 0, 0, 0] from by decide]
    rfl
  have s5 := src w5
  have l5 := rcC_length w5
  have p5 := rcC_one (rcN 5)
  have l0 := rcC_length RcW.zero
  have p0 := rcC_one rc0
  generalize wrA (rcN 5) = B at *
  generalize rcN 5 = r5 at *
  generalize rcN 1 = r1 at *
  generalize rcN 0 = r0 at *
  clear o5 w5
  refine calls_W (args := []) Try.func13 rfl 83 rfl ?_
  (repeat' (first | (refine WL_is ?_; first | refine WL_nil ?_ | refine wl_ ?_ | (refine WL_isFn ?_; refine WL_call rfl rfl rfl (b1 _) ?_; rintro _ w_ ⟨rfl, hx_⟩; have hz_ := hx_.size; refine ⟨_, rfl, ?_⟩) | (refine WL_isFn ?_; refine WL_call rfl rfl rfl (a1 _) ?_; rintro _ w_ ⟨A_, c_, rfl, ho_, hx_⟩; have hz_ := hx_.size; have hr_ := own_rd ho_; have hq_ := own_cap ho_; refine ⟨_, rfl, ?_⟩)) | (refine WC_is ?_; first | ((fail_if_success (refine WC_isReg (id := 2) ?_)); refine WC_seq (fun _ _ => ?_)) | refine wc_ ?_) | (refine WQ_is ?_; first | refine wq_ ?_) | (refine Kb.mk ?_; intro b_ w_ hb_ hl_ hx_ hB_) | (refine Ks.mk ?_; intro w_ hz_ hx_ hB_) | (refine Ko.mk ?_; intro A_ c_ w_ hx_ ho_ hr_; have hz_ := hx_.size; have hq_ := own_cap ho_) | (refine Kp.mk ?_; intro A_ c_ w_ hx_ hz_ ho_ hr_ hp_; have hq_ := own_cap ho_) | (refine Kl.mk ?_; intro b_ w_ hb_ hl_ hx_ hB_ ho_) | (refine Km.mk ?_; intro b_ w_ hb_ hl_ hx_ ho_) | (refine Ke.mk ?_; intro r_ hr_) | (refine Kg.mk ?_ ?_ <;> intro hs_ <;> (try simp only [strEq_t, strEq_f, decide_eq_true_eq, decide_eq_false_iff_not, beq_iff_eq, beq_eq_false_iff_ne, bne_iff_ne, bne_eq_false_iff_eq, Bool.not_eq_true', Bool.not_eq_false', Bool.not_true, Bool.not_false, gt_iff_lt, ge_iff_le, Int.not_lt, Int.not_le, ne_eq, Bool.false_eq_true, not_true_eq_false, reduceCtorEq] at hs_) <;> (try (exfalso; first | exact hs_ | (exact hs_ rfl) | omega))) ))
  obtain ⟨A1, rfl⟩ : ∃ x, x = A_ := ⟨_, rfl⟩
  have ht : Cells w_ A1 ([82, 9, 0, 0, 5, 0, 0, 0, 4].map (.int .u8)) := by
    have := hr_.take 9
    rwa [← List.map_take, h9] at this
  (repeat' (first | (refine WL_is ?_; first | refine WL_nil ?_ | (refine WL_makeI 128 hZ rfl rfl rfl rfl rfl rfl (by decide) (by decide) (fun b_ w_ hb_ hl_ hx_ ho_ hr_ => ?_)) | (refine WL_isBin ?_; refine WL_eqT rfl rfl rfl rfl rfl as_ (by with_reducible rfl) ?_) | refine wl_ ?_ | (refine WL_isFn ?_; refine WL_call rfl rfl rfl (b1 _) ?_; rintro _ w_ ⟨rfl, hx_⟩; have hz_ := hx_.size; refine ⟨_, rfl, ?_⟩) | (refine WL_isFn ?_; refine WL_call rfl rfl rfl (b2 _) ?_; rintro _ w_ ⟨rfl, hx_⟩; have hz_ := hx_.size; refine ⟨_, rfl, ?_⟩) | (refine WL_isFn ?_; refine WL_call rfl rfl rfl (b3 _) ?_; rintro _ w_ ⟨rfl, hx_⟩; have hz_ := hx_.size; refine ⟨_, rfl, ?_⟩) | (refine WL_isFn ?_; refine WL_call rfl rfl rfl (a2 _ _ _ om_ cells_) ?_; rintro _ w_ ⟨rfl, hx_⟩; have hz_ := hx_.size; refine ⟨_, rfl, ?_⟩) | (refine WL_isFn ?_; refine WL_call rfl rfl rfl (a3 _ _ _ om_ cells_) ?_; rintro _ w_ ⟨rfl, hx_⟩; have hz_ := hx_.size; refine ⟨_, rfl, ?_⟩) | (refine WL_isFn ?_; refine WL_call rfl rfl rfl (a4 _) ?_; rintro _ w_ ⟨A_, c_, rfl, ho_, hx_⟩; have hz_ := hx_.size; have hr_ := own_rd ho_; have hq_ := own_cap ho_; refine ⟨_, rfl, ?_⟩) | (refine WL_isFn ?_; refine WL_call rfl rfl rfl (a5 _ _ _ cells_) ?_; rintro _ w_ ⟨rfl, hx_⟩; have hz_ := hx_.size; refine ⟨_, rfl, ?_⟩) | (refine WL_isFn ?_; refine WL_call rfl rfl rfl (a6 _ _ _ cells_) ?_; rintro _ w_ ⟨rfl, hx_⟩; have hz_ := hx_.size; refine ⟨_, rfl, ?_⟩) | (refine WL_isFn ?_; refine WL_call rfl rfl rfl (a7 _ cells_) ?_; rintro _ w_ ⟨rfl, hx_⟩; have hz_ := hx_.size; refine ⟨_, rfl, ?_⟩) | (refine WL_isFn ?_; refine WL_call rfl rfl rfl (a8 _) ?_; rintro _ w_ ⟨rfl, hx_⟩; have hz_ := hx_.size; refine ⟨_, rfl, ?_⟩) | (refine WL_isFn ?_; refine WL_call rfl rfl rfl (a9 _) ?_; rintro _ w_ ⟨rfl, hx_⟩; have hz_ := hx_.size; refine ⟨_, rfl, ?_⟩)) | (refine WC_is ?_; first | refine WC_seq (fun _ _ => ?_) | refine WC_orderE (.rd true 0 (.rd true 1 (.rd true 2 (.rd false 3 (.act true 4 (.rd true 5 (.rd true 6 (.rd true 7 (.rd true 8 (.rd true 9 (.rd true 10 (.rd true 11 (.rd true 12 (.rd true 13 (.rd true 14 (.rd true 15 (.rd true 16 (.rd true 17 (.rd true 18 (.rd true 19 (.rd false 20 (.rd false 21 (.rd false 22 (.act true 23 (.rd true 24 (.rd true 25 (.rd true 26 (.rd true 27 (.act false 28 (.act false 29 (.rd true 30 (.rd true 31 (.rd true 32 (.act false 33 (.rd true 34 (.rd true 35 (.rd true 36 (.act false 37 (.rd true 38 (.rd true 39 (.rd true 40 (.act false 41 (.act false 42 (.rd true 43 (.rd true 44 (.act false 45 (.act false 46 (.rd true 47 (.rd true 48 (.rd true 49 (.rd true 50 (.rd true 51 .nil))))) .nil) .nil))) .nil) .nil)))) .nil)))) .nil)))) .nil) .nil))))) .nil))))))))))))))))))) .nil))))) [[], [], [], [], [0, 1, 2], [], [], [], [], [], [], [], [], [], [], [], [], [], [], [], [], [], [], [0, 1, 2, 3, 4, 5, 6, 7, 8, 9, 10, 11, 12, 13, 14, 15, 16, 17, 18, 19], [], [], [], [], [0, 1, 2, 3, 4, 5, 6, 7, 8, 9, 10, 11, 12, 13, 14, 15, 16, 17, 18, 19, 20, 21, 22, 23, 24, 25, 26, 27], [0, 1, 2, 3, 4, 5, 6, 7, 8, 9, 10, 11, 12, 13, 14, 15, 16, 17, 18, 19, 20, 21, 22, 23, 24, 25, 26, 27, 28], [], [], [], [0, 1, 2, 3, 4, 5, 6, 7, 8, 9, 10, 11, 12, 13, 14, 15, 16, 17, 18, 19, 20, 21, 22, 23, 24, 25, 26, 27, 28, 29, 30, 31, 32], [], [], [], [0, 1, 2, 3, 4, 5, 6, 7, 8, 9, 10, 11, 12, 13, 14, 15, 16, 17, 18, 19, 20, 21, 22, 23, 24, 25, 26, 27, 28, 29, 30, 31, 32, 33, 34, 35, 36], [], [], [], [0, 1, 2, 3, 4, 5, 6, 7, 8, 9, 10, 11, 12, 13, 14, 15, 16, 17, 18, 19, 20, 21, 22, 23, 24, 25, 26, 27, 28, 29, 30, 31, 32, 33, 34, 35, 36, 37, 38, 39, 40], [0, 1, 2, 3, 4, 5, 6, 7, 8, 9, 10, 11, 12, 13, 14, 15, 16, 17, 18, 19, 20, 21, 22, 23, 24, 25, 26, 27, 28, 29, 30, 31, 32, 33, 34, 35, 36, 37, 38, 39, 40, 41], [], [], [0, 1, 2, 3, 4, 5, 6, 7, 8, 9, 10, 11, 12, 13, 14, 15, 16, 17, 18, 19, 20, 21, 22, 23, 24, 25, 26, 27, 28, 29, 30, 31, 32, 33, 34, 35, 36, 37, 38, 39, 40, 41, 42, 43, 44], [0, 1, 2, 3, 4, 5, 6, 7, 8, 9, 10, 11, 12, 13, 14, 15, 16, 17, 18, 19, 20, 21, 22, 23, 24, 25, 26, 27, 28, 29, 30, 31, 32, 33, 34, 35, 36, 37, 38, 39, 40, 41, 42, 43, 44, 45]] [4, 23, 28, 29, 33, 37, 41, 42, 45, 46] (some 28) 7 (by kernel_rfl) (by kernel_rfl) (fun w_ hx_ hz_ => ?_) | refine wc_ ?_) | (refine WQ_is ?_; first | refine wq_ ?_) | (refine Kb.mk ?_; intro b_ w_ hb_ hl_ hx_ hB_) | (refine Ks.mk ?_; intro w_ hz_ hx_ hB_) | (refine Ko.mk ?_; intro A_ c_ w_ hx_ ho_ hr_; have hz_ := hx_.size; have hq_ := own_cap ho_) | (refine Kp.mk ?_; intro A_ c_ w_ hx_ hz_ ho_ hr_ hp_; have hq_ := own_cap ho_) | (refine Kl.mk ?_; intro b_ w_ hb_ hl_ hx_ hB_ ho_) | (refine Km.mk ?_; intro b_ w_ hb_ hl_ hx_ ho_) | (refine Ke.mk ?_; intro r_ hr_) | (refine Kg.mk ?_ ?_ <;> intro hs_ <;> (try simp only [strEq_t, strEq_f, decide_eq_true_eq, decide_eq_false_iff_not, beq_iff_eq, beq_eq_false_iff_ne, bne_iff_ne, bne_eq_false_iff_eq, Bool.not_eq_true', Bool.not_eq_false', Bool.not_true, Bool.not_false, gt_iff_lt, ge_iff_le, Int.not_lt, Int.not_le, ne_eq, Bool.false_eq_true, not_true_eq_false, reduceCtorEq] at hs_) <;> (try (exfalso; first | exact hs_ | (exact hs_ rfl) | omega))) | (refine WX_is ?_; first | refine wx_ ?_ | exact WX_altnil | (refine WX_isRd ?_; first | (refine WX_isT ?_; refine WX_readT rfl rfl rfl rfl rfl (by (first | (refine WL_makeI 128 hZ rfl rfl rfl rfl rfl rfl (by decide) (by decide) (fun b_ w_ hb_ hl_ hx_ ho_ hr_ => ?_)) | (refine WL_isBin ?_; refine WL_eqT rfl rfl rfl rfl rfl as_ (by with_reducible rfl) ?_) | refine wl_ ?_); refine WL_nil ?_; exact DR_mk rfl) ?_) | (refine WX_isF ?_; refine WX_read rfl rfl rfl rfl rfl (fun w_ hx_ => by (first | (refine WL_makeI 128 hZ rfl rfl rfl rfl rfl rfl (by decide) (by decide) (fun b_ w_ hb_ hl_ hx_ ho_ hr_ => ?_)) | (refine WL_isBin ?_; refine WL_eqT rfl rfl rfl rfl rfl as_ (by with_reducible rfl) ?_) | refine wl_ ?_); refine WL_nil ?_; exact DR_mk rfl) ?_) | refine wxg_ ?_) | (refine WX_isAct ?_; first | refine WX_eff1 rfl (fun _ _ => ?_) | refine WX_eff rfl (fun _ _ => ?_) ?_))))
  all_goals exact ⟨rfl, ext_⟩
end Go.Proofs.Ytejdjpjaahfnaaa.K
