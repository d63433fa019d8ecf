/- Chapter 13 (root): the law RootBack. Seat-free. -/
import Derived.Test.YtejdjpjaahfnaaaV14
set_option linter.unusedVariables false
set_option linter.unusedSimpArgs false
set_option maxHeartbeats 4000000
set_option maxRecDepth 20000
namespace Go.Proofs.Ytejdjpjaahfnaaa.K
open Go.RowKit
attribute [local irreducible] strEq strOfNums Calls WL WC WQ WX Code.wp wpList bodyPost
theorem okRd_erased {bs : List Int} (h : OkRd bs) : erased bs = false := by rw [← h.2.2.2.2]; exact erased_wrA _
theorem RootBack_calls (w : World) (r : Rc) (A : Option Addr) (m c : Nat) (xs : List Int) (hr : RcW r) (hI : Ints .u8 w A m c xs) :
    Calls Try.prog 4 #[.agg (rcC r).toArray, .slice A m c] w fun e w' => e = .returned (.bool true) ∧ Ext w w' := by
  have hC := hI.cells
  have hcm := hI.cap
  have hcx := hI.most
  have hxl := hI.len
  have hxb := hI.u8
  have a1 := fun w => root_Write_calls r w hr
  have a3 := fun w hC => root_Read_calls xs A m c w hI.len hI.u8 ⟨hcm, hcx⟩ hC
  have a8 := fun w b hb => root_Check_calls r w hr b hb
  have l0 := rcC_length RcW.zero
  have p0 := rcC_one rc0
  have s0 := src RcW.zero
  have lr := rcC_length hr
  have pr := rcC_one r
  have sr := src hr
  have e1 := erased_wrA r
  by_cases hO : OkR r
  · by_cases hX : OkRd xs
    · skip
      rw [(wrB_t hO).1, (wrB_t hO).2, wrA_length hr] at a1
      have a2 := fun A c w hc hC => root_Read_calls (wrA r) A 128 c w (wrA_length hr) (wrA_bytes hO hr) hc hC
      rw [(rd_wrA hO hr).1, (rd_wrA hO hr).2] at a2
      have a6 := fun A c w hC => root_Erased_calls (wrA r) A 128 c w (wrA_length hr) hC false (erased_wrA r)
      generalize wrA r = B at *
      have hxW := toR_W hX.1 hxb hX.2.2.1
      rw [(rdR_t hX).1, (rdR_t hX).2] at a3
      have a4 := fun w => root_Write_calls (toR xs) w hxW
      rw [(wrB_t hX.2.2.2.1).1, (wrB_t hX.2.2.2.1).2, hX.2.2.2.2] at a4
      have a5 := fun w => root_Check_calls (toR xs) w hxW true (okR_iff.2 hX.2.2.2.1)
      have a7 := fun w hC => root_Erased_calls xs A m c w hxl hC false (okRd_erased hX)
      have lx := rcC_length hxW
      have px := rcC_one (toR xs)
      generalize toR xs = x at *
      refine calls_W (args := [.agg (rcC r).toArray, .slice A m c]) Try.func4 rfl 106 rfl ?_
      (repeat' (first | (refine WL_is ?_; first | refine WL_nil ?_ | (refine WL_isBin ?_; refine WL_eqT rfl rfl rfl rfl rfl as_ (by with_reducible rfl) ?_) | (refine WL_isBin ?_; refine WL_neT rfl rfl rfl rfl rfl as_ (by with_reducible rfl) ?_) | refine wl_ ?_ | (refine WL_isFn ?_; refine WL_call rfl rfl rfl (law13_awake_calls _) ?_; rintro _ w_ ⟨rfl, hx_⟩; have hz_ := hx_.size; refine ⟨_, rfl, ?_⟩) | (refine WL_isFn ?_; refine WL_call rfl rfl rfl (a1 _) ?_; rintro _ w_ ⟨A_, c_, rfl, ho_, hx_⟩; have hz_ := hx_.size; have hr_ := own_rd ho_; have hq_ := own_cap ho_; refine ⟨_, rfl, ?_⟩) | (refine WL_isFn ?_; refine WL_call rfl rfl rfl (a2 _ _ _ om_ cells_) ?_; rintro _ w_ ⟨rfl, hx_⟩; have hz_ := hx_.size; refine ⟨_, rfl, ?_⟩) | (refine WL_isFn ?_; refine WL_call rfl rfl rfl (a6 _ _ _ cells_) ?_; rintro _ w_ ⟨rfl, hx_⟩; have hz_ := hx_.size; refine ⟨_, rfl, ?_⟩) | (refine WL_isFn ?_; refine WL_call rfl rfl rfl (a3 _ cells_) ?_; rintro _ w_ ⟨rfl, hx_⟩; have hz_ := hx_.size; refine ⟨_, rfl, ?_⟩) | (refine WL_isFn ?_; refine WL_call rfl rfl rfl (a4 _) ?_; rintro _ w_ ⟨A_, c_, rfl, ho_, hx_⟩; have hz_ := hx_.size; have hr_ := own_rd ho_; have hq_ := own_cap ho_; refine ⟨_, rfl, ?_⟩) | (refine WL_isFn ?_; refine WL_call rfl rfl rfl (a5 _) ?_; rintro _ w_ ⟨rfl, hx_⟩; have hz_ := hx_.size; refine ⟨_, rfl, ?_⟩) | (refine WL_isFn ?_; refine WL_call rfl rfl rfl (a7 _ cells_) ?_; rintro _ w_ ⟨rfl, hx_⟩; have hz_ := hx_.size; refine ⟨_, rfl, ?_⟩)) | (refine WC_is ?_; first | refine WC_seq (fun _ _ => ?_) | refine wc_ ?_) | (refine WQ_is ?_; first | refine wq_ ?_) | (refine Kb.mk ?_; intro b_ w_ hb_ hl_ hx_ hB_) | (refine Ks.mk ?_; intro w_ hz_ hx_ hB_) | (refine Ko.mk ?_; intro A_ c_ w_ hx_ ho_ hr_; have hz_ := hx_.size; have hq_ := own_cap ho_) | (refine Kp.mk ?_; intro A_ c_ w_ hx_ hz_ ho_ hr_ hp_; have hq_ := own_cap ho_) | (refine Kl.mk ?_; intro b_ w_ hb_ hl_ hx_ hB_ ho_) | (refine Km.mk ?_; intro b_ w_ hb_ hl_ hx_ ho_) | (refine Ke.mk ?_; intro r_ hr_) | (refine Kg.mk ?_ ?_ <;> intro hs_ <;> (try simp only [strEq_t, strEq_f, decide_eq_true_eq, decide_eq_false_iff_not, beq_iff_eq, beq_eq_false_iff_ne, bne_iff_ne, bne_eq_false_iff_eq, Bool.not_eq_true', Bool.not_eq_false', Bool.not_true, Bool.not_false, gt_iff_lt, ge_iff_le, Int.not_lt, Int.not_le, ne_eq, Bool.false_eq_true, not_true_eq_false, reduceCtorEq] at hs_) <;> (try (exfalso; first | exact hs_ | (exact hs_ rfl) | omega))) ))
      all_goals exact ⟨by first | rfl | simp, ext_⟩
    · skip
      rw [(wrB_t hO).1, (wrB_t hO).2, wrA_length hr] at a1
      have a2 := fun A c w hc hC => root_Read_calls (wrA r) A 128 c w (wrA_length hr) (wrA_bytes hO hr) hc hC
      rw [(rd_wrA hO hr).1, (rd_wrA hO hr).2] at a2
      have a6 := fun A c w hC => root_Erased_calls (wrA r) A 128 c w (wrA_length hr) hC false (erased_wrA r)
      generalize wrA r = B at *
      rw [(rdR_f hX).1, (rdR_f hX).2] at a3
      have a4 := fun w => root_Write_calls rc0 w RcW.zero
      rw [(wrB_f okR_rc0).1, (wrB_f okR_rc0).2] at a4
      simp only [List.length_nil] at a4
      have a7 := fun w hC => root_Erased_calls xs A m c w hxl hC _ rfl
      generalize erased xs = er at *
      refine calls_W (args := [.agg (rcC r).toArray, .slice A m c]) Try.func4 rfl 106 rfl ?_
      (repeat' (first | (refine WL_is ?_; first | refine WL_nil ?_ | (refine WL_isBin ?_; refine WL_eqT rfl rfl rfl rfl rfl as_ (by with_reducible rfl) ?_) | (refine WL_isBin ?_; refine WL_neT rfl rfl rfl rfl rfl as_ (by with_reducible rfl) ?_) | refine wl_ ?_ | (refine WL_isFn ?_; refine WL_call rfl rfl rfl (law13_awake_calls _) ?_; rintro _ w_ ⟨rfl, hx_⟩; have hz_ := hx_.size; refine ⟨_, rfl, ?_⟩) | (refine WL_isFn ?_; refine WL_call rfl rfl rfl (a1 _) ?_; rintro _ w_ ⟨A_, c_, rfl, ho_, hx_⟩; have hz_ := hx_.size; have hr_ := own_rd ho_; have hq_ := own_cap ho_; refine ⟨_, rfl, ?_⟩) | (refine WL_isFn ?_; refine WL_call rfl rfl rfl (a2 _ _ _ om_ cells_) ?_; rintro _ w_ ⟨rfl, hx_⟩; have hz_ := hx_.size; refine ⟨_, rfl, ?_⟩) | (refine WL_isFn ?_; refine WL_call rfl rfl rfl (a6 _ _ _ cells_) ?_; rintro _ w_ ⟨rfl, hx_⟩; have hz_ := hx_.size; refine ⟨_, rfl, ?_⟩) | (refine WL_isFn ?_; refine WL_call rfl rfl rfl (a3 _ cells_) ?_; rintro _ w_ ⟨rfl, hx_⟩; have hz_ := hx_.size; refine ⟨_, rfl, ?_⟩) | (refine WL_isFn ?_; refine WL_call rfl rfl rfl (a4 _) ?_; rintro _ w_ ⟨A_, c_, rfl, ho_, hx_⟩; have hz_ := hx_.size; have hr_ := own_rd ho_; have hq_ := own_cap ho_; refine ⟨_, rfl, ?_⟩) | (refine WL_isFn ?_; refine WL_call rfl rfl rfl (a7 _ cells_) ?_; rintro _ w_ ⟨rfl, hx_⟩; have hz_ := hx_.size; refine ⟨_, rfl, ?_⟩)) | (refine WC_is ?_; first | refine WC_seq (fun _ _ => ?_) | refine wc_ ?_) | (refine WQ_is ?_; first | refine wq_ ?_) | (refine Kb.mk ?_; intro b_ w_ hb_ hl_ hx_ hB_) | (refine Ks.mk ?_; intro w_ hz_ hx_ hB_) | (refine Ko.mk ?_; intro A_ c_ w_ hx_ ho_ hr_; have hz_ := hx_.size; have hq_ := own_cap ho_) | (refine Kp.mk ?_; intro A_ c_ w_ hx_ hz_ ho_ hr_ hp_; have hq_ := own_cap ho_) | (refine Kl.mk ?_; intro b_ w_ hb_ hl_ hx_ hB_ ho_) | (refine Km.mk ?_; intro b_ w_ hb_ hl_ hx_ ho_) | (refine Ke.mk ?_; intro r_ hr_) | (refine Kg.mk ?_ ?_ <;> intro hs_ <;> (try simp only [strEq_t, strEq_f, decide_eq_true_eq, decide_eq_false_iff_not, beq_iff_eq, beq_eq_false_iff_ne, bne_iff_ne, bne_eq_false_iff_eq, Bool.not_eq_true', Bool.not_eq_false', Bool.not_true, Bool.not_false, gt_iff_lt, ge_iff_le, Int.not_lt, Int.not_le, ne_eq, Bool.false_eq_true, not_true_eq_false, reduceCtorEq] at hs_) <;> (try (exfalso; first | exact hs_ | (exact hs_ rfl) | omega))) ))
      all_goals exact ⟨by first | rfl | simp, ext_⟩
  · by_cases hX : OkRd xs
    · skip
      rw [(wrB_f hO).1, (wrB_f hO).2] at a1
      simp only [List.length_nil] at a1
      have a2 := fun A c w hc hC => root_Read_calls [] A 0 c w rfl (by simp) hc hC
      rw [(rd_short (bs := []) (by decide)).1, (rd_short (bs := []) (by decide)).2] at a2
      have a8 := fun w => a8 w false (decide_eq_false hO)
      have hxW := toR_W hX.1 hxb hX.2.2.1
      rw [(rdR_t hX).1, (rdR_t hX).2] at a3
      have a4 := fun w => root_Write_calls (toR xs) w hxW
      rw [(wrB_t hX.2.2.2.1).1, (wrB_t hX.2.2.2.1).2, hX.2.2.2.2] at a4
      have a5 := fun w => root_Check_calls (toR xs) w hxW true (okR_iff.2 hX.2.2.2.1)
      have a7 := fun w hC => root_Erased_calls xs A m c w hxl hC false (okRd_erased hX)
      have lx := rcC_length hxW
      have px := rcC_one (toR xs)
      generalize toR xs = x at *
      refine calls_W (args := [.agg (rcC r).toArray, .slice A m c]) Try.func4 rfl 106 rfl ?_
      (repeat' (first | (refine WL_is ?_; first | refine WL_nil ?_ | (refine WL_isBin ?_; refine WL_eqT rfl rfl rfl rfl rfl as_ (by with_reducible rfl) ?_) | (refine WL_isBin ?_; refine WL_neT rfl rfl rfl rfl rfl as_ (by with_reducible rfl) ?_) | refine wl_ ?_ | (refine WL_isFn ?_; refine WL_call rfl rfl rfl (law13_awake_calls _) ?_; rintro _ w_ ⟨rfl, hx_⟩; have hz_ := hx_.size; refine ⟨_, rfl, ?_⟩) | (refine WL_isFn ?_; refine WL_call rfl rfl rfl (a1 _) ?_; rintro _ w_ ⟨A_, c_, rfl, ho_, hx_⟩; have hz_ := hx_.size; have hr_ := own_rd ho_; have hq_ := own_cap ho_; refine ⟨_, rfl, ?_⟩) | (refine WL_isFn ?_; refine WL_call rfl rfl rfl (a2 _ _ _ om_ cells_) ?_; rintro _ w_ ⟨rfl, hx_⟩; have hz_ := hx_.size; refine ⟨_, rfl, ?_⟩) | (refine WL_isFn ?_; refine WL_call rfl rfl rfl (a8 _) ?_; rintro _ w_ ⟨rfl, hx_⟩; have hz_ := hx_.size; refine ⟨_, rfl, ?_⟩) | (refine WL_isFn ?_; refine WL_call rfl rfl rfl (a3 _ cells_) ?_; rintro _ w_ ⟨rfl, hx_⟩; have hz_ := hx_.size; refine ⟨_, rfl, ?_⟩) | (refine WL_isFn ?_; refine WL_call rfl rfl rfl (a4 _) ?_; rintro _ w_ ⟨A_, c_, rfl, ho_, hx_⟩; have hz_ := hx_.size; have hr_ := own_rd ho_; have hq_ := own_cap ho_; refine ⟨_, rfl, ?_⟩) | (refine WL_isFn ?_; refine WL_call rfl rfl rfl (a5 _) ?_; rintro _ w_ ⟨rfl, hx_⟩; have hz_ := hx_.size; refine ⟨_, rfl, ?_⟩) | (refine WL_isFn ?_; refine WL_call rfl rfl rfl (a7 _ cells_) ?_; rintro _ w_ ⟨rfl, hx_⟩; have hz_ := hx_.size; refine ⟨_, rfl, ?_⟩)) | (refine WC_is ?_; first | refine WC_seq (fun _ _ => ?_) | refine wc_ ?_) | (refine WQ_is ?_; first | refine wq_ ?_) | (refine Kb.mk ?_; intro b_ w_ hb_ hl_ hx_ hB_) | (refine Ks.mk ?_; intro w_ hz_ hx_ hB_) | (refine Ko.mk ?_; intro A_ c_ w_ hx_ ho_ hr_; have hz_ := hx_.size; have hq_ := own_cap ho_) | (refine Kp.mk ?_; intro A_ c_ w_ hx_ hz_ ho_ hr_ hp_; have hq_ := own_cap ho_) | (refine Kl.mk ?_; intro b_ w_ hb_ hl_ hx_ hB_ ho_) | (refine Km.mk ?_; intro b_ w_ hb_ hl_ hx_ ho_) | (refine Ke.mk ?_; intro r_ hr_) | (refine Kg.mk ?_ ?_ <;> intro hs_ <;> (try simp only [strEq_t, strEq_f, decide_eq_true_eq, decide_eq_false_iff_not, beq_iff_eq, beq_eq_false_iff_ne, bne_iff_ne, bne_eq_false_iff_eq, Bool.not_eq_true', Bool.not_eq_false', Bool.not_true, Bool.not_false, gt_iff_lt, ge_iff_le, Int.not_lt, Int.not_le, ne_eq, Bool.false_eq_true, not_true_eq_false, reduceCtorEq] at hs_) <;> (try (exfalso; first | exact hs_ | (exact hs_ rfl) | omega))) ))
      all_goals exact ⟨by first | rfl | simp, ext_⟩
    · skip
      rw [(wrB_f hO).1, (wrB_f hO).2] at a1
      simp only [List.length_nil] at a1
      have a2 := fun A c w hc hC => root_Read_calls [] A 0 c w rfl (by simp) hc hC
      rw [(rd_short (bs := []) (by decide)).1, (rd_short (bs := []) (by decide)).2] at a2
      have a8 := fun w => a8 w false (decide_eq_false hO)
      rw [(rdR_f hX).1, (rdR_f hX).2] at a3
      have a4 := fun w => root_Write_calls rc0 w RcW.zero
      rw [(wrB_f okR_rc0).1, (wrB_f okR_rc0).2] at a4
      simp only [List.length_nil] at a4
      have a7 := fun w hC => root_Erased_calls xs A m c w hxl hC _ rfl
      generalize erased xs = er at *
      refine calls_W (args := [.agg (rcC r).toArray, .slice A m c]) Try.func4 rfl 106 rfl ?_
      (repeat' (first | (refine WL_is ?_; first | refine WL_nil ?_ | (refine WL_isBin ?_; refine WL_eqT rfl rfl rfl rfl rfl as_ (by with_reducible rfl) ?_) | (refine WL_isBin ?_; refine WL_neT rfl rfl rfl rfl rfl as_ (by with_reducible rfl) ?_) | refine wl_ ?_ | (refine WL_isFn ?_; refine WL_call rfl rfl rfl (law13_awake_calls _) ?_; rintro _ w_ ⟨rfl, hx_⟩; have hz_ := hx_.size; refine ⟨_, rfl, ?_⟩) | (refine WL_isFn ?_; refine WL_call rfl rfl rfl (a1 _) ?_; rintro _ w_ ⟨A_, c_, rfl, ho_, hx_⟩; have hz_ := hx_.size; have hr_ := own_rd ho_; have hq_ := own_cap ho_; refine ⟨_, rfl, ?_⟩) | (refine WL_isFn ?_; refine WL_call rfl rfl rfl (a2 _ _ _ om_ cells_) ?_; rintro _ w_ ⟨rfl, hx_⟩; have hz_ := hx_.size; refine ⟨_, rfl, ?_⟩) | (refine WL_isFn ?_; refine WL_call rfl rfl rfl (a8 _) ?_; rintro _ w_ ⟨rfl, hx_⟩; have hz_ := hx_.size; refine ⟨_, rfl, ?_⟩) | (refine WL_isFn ?_; refine WL_call rfl rfl rfl (a3 _ cells_) ?_; rintro _ w_ ⟨rfl, hx_⟩; have hz_ := hx_.size; refine ⟨_, rfl, ?_⟩) | (refine WL_isFn ?_; refine WL_call rfl rfl rfl (a4 _) ?_; rintro _ w_ ⟨A_, c_, rfl, ho_, hx_⟩; have hz_ := hx_.size; have hr_ := own_rd ho_; have hq_ := own_cap ho_; refine ⟨_, rfl, ?_⟩) | (refine WL_isFn ?_; refine WL_call rfl rfl rfl (a7 _ cells_) ?_; rintro _ w_ ⟨rfl, hx_⟩; have hz_ := hx_.size; refine ⟨_, rfl, ?_⟩)) | (refine WC_is ?_; first | refine WC_seq (fun _ _ => ?_) | refine wc_ ?_) | (refine WQ_is ?_; first | refine wq_ ?_) | (refine Kb.mk ?_; intro b_ w_ hb_ hl_ hx_ hB_) | (refine Ks.mk ?_; intro w_ hz_ hx_ hB_) | (refine Ko.mk ?_; intro A_ c_ w_ hx_ ho_ hr_; have hz_ := hx_.size; have hq_ := own_cap ho_) | (refine Kp.mk ?_; intro A_ c_ w_ hx_ hz_ ho_ hr_ hp_; have hq_ := own_cap ho_) | (refine Kl.mk ?_; intro b_ w_ hb_ hl_ hx_ hB_ ho_) | (refine Km.mk ?_; intro b_ w_ hb_ hl_ hx_ ho_) | (refine Ke.mk ?_; intro r_ hr_) | (refine Kg.mk ?_ ?_ <;> intro hs_ <;> (try simp only [strEq_t, strEq_f, decide_eq_true_eq, decide_eq_false_iff_not, beq_iff_eq, beq_eq_false_iff_ne, bne_iff_ne, bne_eq_false_iff_eq, Bool.not_eq_true', Bool.not_eq_false', Bool.not_true, Bool.not_false, gt_iff_lt, ge_iff_le, Int.not_lt, Int.not_le, ne_eq, Bool.false_eq_true, not_true_eq_false, reduceCtorEq] at hs_) <;> (try (exfalso; first | exact hs_ | (exact hs_ rfl) | omega))) ))
      all_goals exact ⟨by first | rfl | simp, ext_⟩
end Go.Proofs.Ytejdjpjaahfnaaa.K
