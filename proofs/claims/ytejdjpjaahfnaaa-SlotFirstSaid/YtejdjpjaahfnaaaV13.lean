/- Chapter 13 (root): the law RootTells. Seat-free. -/
import Derived.Test.YtejdjpjaahfnaaaV12
set_option linter.unusedVariables false
set_option linter.unusedSimpArgs false
set_option maxHeartbeats 4000000
set_option maxRecDepth 20000
namespace Go.Proofs.Ytejdjpjaahfnaaa.K
open Go.RowKit
attribute [local irreducible] strEq strOfNums Calls WL WC WQ WX Code.wp wpList bodyPost
theorem RootTells_calls (w : World) (r : Rc) (A : Option Addr) (m c : Nat) (xs : List Int) (hr : RcW r) (hI : Ints .u8 w A m c xs) :
    Calls Try.prog 3 #[.agg (rcC r).toArray, .slice A m c] w fun e w' => e = .returned (.bool true) ∧ Ext w w' := by
  have hC := hI.cells
  have hcm := hI.cap
  have hcx := hI.most
  have a1 := fun w => root_Write_calls r w hr
  have a2 := fun w => ref13_Write_calls r w hr
  have a3 := fun w hC => root_Read_calls xs A m c w hI.len hI.u8 ⟨hcm, hcx⟩ hC
  have a4 := fun w hC => ref13_Read_calls xs A m c w hI.len hI.u8 ⟨hcm, hcx⟩ hC
  have a5 := fun w => root_Check_calls r w hr _ rfl
  have a6 := fun w => ref13_Check_calls r w hr _ rfl
  have a7 := fun w hC => root_Erased_calls xs A m c w hI.len hC _ rfl
  have a8 := fun w hC => ref13_Erased_calls xs A m c w hI.len hI.u8 hC _ rfl
  have hqW := rdR_W hI.u8
  have l0 := rcC_length RcW.zero
  have lr := rcC_length hr
  have pr := rcC_one r
  have lq := rcC_length hqW
  have pq := rcC_one (rdR xs)
  have sq := src hqW
  generalize wrB r = rb at *
  generalize wrE r = re at *
  generalize rdR xs = q at *
  generalize rdRE xs = qe at *
  generalize okR r = ok at *
  generalize erased xs = er at *
  refine calls_W (args := [.agg (rcC r).toArray, .slice A m c]) Try.func3 rfl 76 rfl ?_
  (repeat' (first | (refine WL_is ?_; first | refine WL_nil ?_ | (refine WL_isBin ?_; refine WL_eqT rfl rfl rfl rfl rfl as_ (by with_reducible rfl) ?_) | (refine WL_isBin ?_; refine WL_beqT rfl rfl rfl rfl (by with_reducible rfl) ?_) | refine wl_ ?_ | (refine WL_isFn ?_; refine WL_call rfl rfl rfl (law13_awake_calls _) ?_; rintro _ w_ ⟨rfl, hx_⟩; have hz_ := hx_.size; refine ⟨_, rfl, ?_⟩) | (refine WL_isFn ?_; refine WL_call rfl rfl rfl (a1 _) ?_; rintro _ w_ ⟨A_, c_, rfl, ho_, hx_⟩; have hz_ := hx_.size; have hr_ := own_rd ho_; have hq_ := own_cap ho_; refine ⟨_, rfl, ?_⟩) | (refine WL_isFn ?_; refine WL_call rfl rfl rfl (a2 _) ?_; rintro _ w_ ⟨A_, c_, rfl, ho_, hx_⟩; have hz_ := hx_.size; have hr_ := own_rd ho_; have hq_ := own_cap ho_; refine ⟨_, rfl, ?_⟩) | (refine WL_isFn ?_; refine WL_call rfl rfl rfl (a3 _ cells_) ?_; rintro _ w_ ⟨rfl, hx_⟩; have hz_ := hx_.size; refine ⟨_, rfl, ?_⟩) | (refine WL_isFn ?_; refine WL_call rfl rfl rfl (a4 _ cells_) ?_; rintro _ w_ ⟨rfl, hx_⟩; have hz_ := hx_.size; refine ⟨_, rfl, ?_⟩) | (refine WL_isFn ?_; refine WL_call rfl rfl rfl (a5 _) ?_; rintro _ w_ ⟨rfl, hx_⟩; have hz_ := hx_.size; refine ⟨_, rfl, ?_⟩) | (refine WL_isFn ?_; refine WL_call rfl rfl rfl (a6 _) ?_; rintro _ w_ ⟨rfl, hx_⟩; have hz_ := hx_.size; refine ⟨_, rfl, ?_⟩) | (refine WL_isFn ?_; refine WL_call rfl rfl rfl (a7 _ cells_) ?_; rintro _ w_ ⟨rfl, hx_⟩; have hz_ := hx_.size; refine ⟨_, rfl, ?_⟩) | (refine WL_isFn ?_; refine WL_call rfl rfl rfl (a8 _ cells_) ?_; rintro _ w_ ⟨rfl, hx_⟩; have hz_ := hx_.size; refine ⟨_, rfl, ?_⟩)) | (refine WC_is ?_; first | refine WC_seq (fun _ _ => ?_) | refine WC_orderE (.rd true 0 (.rd true 1 (.rd true 2 (.rd false 4 (.act true 3 (.act true 5 (.rd true 6 (.rd true 7 (.rd true 8 (.rd true 9 (.rd true 10 (.rd true 11 (.rd true 12 (.rd true 13 (.rd true 14 (.rd true 15 (.rd true 16 (.rd true 17 (.rd true 18 (.rd true 19 (.rd true 20 (.rd true 21 (.rd true 22 (.rd true 23 (.rd true 24 (.rd true 25 (.rd true 26 (.rd true 27 (.rd true 28 (.rd true 29 (.rd true 30 (.rd true 31 (.rd false 33 (.act true 32 (.act false 34 (.rd true 35 (.rd true 36 (.rd true 37 .nil))) .nil) .nil)))))))))))))))))))))))))))) .nil) .nil))))) [[], [], [], [0, 1, 2], [], [0, 1, 2, 3, 4], [], [], [], [], [], [], [], [], [], [], [], [], [], [], [], [], [], [], [], [], [], [], [], [], [], [], [0, 1, 2, 3, 4, 5, 6, 7, 8, 9, 10, 11, 12, 13, 14, 15, 16, 17, 18, 19, 20, 21, 22, 23, 24, 25, 26, 27, 28, 29, 30, 31], [], [0, 1, 2, 3, 4, 5, 6, 7, 8, 9, 10, 11, 12, 13, 14, 15, 16, 17, 18, 19, 20, 21, 22, 23, 24, 25, 26, 27, 28, 29, 30, 31, 32, 33]] [3, 5, 32, 34] (some 34) 8 (by kernel_rfl) (by kernel_rfl) (fun w_ hx_ hz_ => ?_) | refine wc_ ?_) | (refine WQ_is ?_; first | refine wq_ ?_) | (refine Kb.mk ?_; intro b_ w_ hb_ hl_ hx_ hB_) | (refine Ks.mk ?_; intro w_ hz_ hx_ hB_) | (refine Ko.mk ?_; intro A_ c_ w_ hx_ ho_ hr_; have hz_ := hx_.size; have hq_ := own_cap ho_) | (refine Kp.mk ?_; intro A_ c_ w_ hx_ hz_ ho_ hr_ hp_; have hq_ := own_cap ho_) | (refine Kl.mk ?_; intro b_ w_ hb_ hl_ hx_ hB_ ho_) | (refine Km.mk ?_; intro b_ w_ hb_ hl_ hx_ ho_) | (refine Ke.mk ?_; intro r_ hr_) | (refine Kg.mk ?_ ?_ <;> intro hs_ <;> (try simp only [strEq_t, strEq_f, decide_eq_true_eq, decide_eq_false_iff_not, beq_iff_eq, beq_eq_false_iff_ne, bne_iff_ne, bne_eq_false_iff_eq, Bool.not_eq_true', Bool.not_eq_false', Bool.not_true, Bool.not_false, gt_iff_lt, ge_iff_le, Int.not_lt, Int.not_le, ne_eq, Bool.false_eq_true, not_true_eq_false, reduceCtorEq] at hs_) <;> (try (exfalso; first | exact hs_ | (exact hs_ rfl) | omega))) | (refine WX_is ?_; first | refine wx_ ?_ | exact WX_altnil | (refine WX_isRd ?_; first | (refine WX_isT ?_; refine WX_readT rfl rfl rfl rfl rfl (by (first | (refine WL_isBin ?_; refine WL_eqT rfl rfl rfl rfl rfl as_ (by with_reducible rfl) ?_) | (refine WL_isBin ?_; refine WL_beqT rfl rfl rfl rfl (by with_reducible rfl) ?_) | refine wl_ ?_); refine WL_nil ?_; exact DR_mk rfl) ?_) | (refine WX_isF ?_; refine WX_read rfl rfl rfl rfl rfl (fun w_ hx_ => by (first | (refine WL_isBin ?_; refine WL_eqT rfl rfl rfl rfl rfl as_ (by with_reducible rfl) ?_) | (refine WL_isBin ?_; refine WL_beqT rfl rfl rfl rfl (by with_reducible rfl) ?_) | refine wl_ ?_); refine WL_nil ?_; exact DR_mk rfl) ?_) | refine wxg_ ?_) | (refine WX_isAct ?_; first | refine WX_eff1 rfl (fun _ _ => ?_) | refine WX_eff rfl (fun _ _ => ?_) ?_))))
  all_goals exact ⟨by simp, ext_⟩
end Go.Proofs.Ytejdjpjaahfnaaa.K
