/- Chapter 14 (slot): the law SlotTells. Seat-free. -/
import Derived.Test.YtejdjpjaahfnaaaU7
import Derived.Test.YtejdjpjaahfnaaaV14
set_option linter.unusedVariables false
set_option linter.unusedSimpArgs false
set_option maxHeartbeats 4000000
set_option maxRecDepth 20000
namespace Go.Proofs.Ytejdjpjaahfnaaa.K
open Go.RowKit
attribute [local irreducible] strEq strOfNums Calls WL WC WQ WX Code.wp wpList bodyPost
theorem MC.go {w w' : World} {zs : List Cv} {cs : List Cm} (h : MC w zs cs) (k : Ext w w') : MC w' zs cs := h.ext k
theorem mc_ {w : World} {zs : List Cv} {cs : List Cm} (h : MC w zs cs := by (first | assumption | exact MC.go as_ ext_)) : MC w zs cs := h
theorem slN_in (a b : List Int) : slN a b = 0 ∨ slN a b = 1 := by unfold slN; split <;> simp
theorem SlotTells_calls (w : World) (A : Option Addr) (m c : Nat) (xs : List Int) (B : Option Addr) (k d : Nat) (ys : List Int) (r : Rc) (n : Int) (hI : Ints .u8 w A m c xs) (hJ : Ints .u8 w B k d ys) (hr : RcW r) (hn : -9223372036854775808 ≤ n ∧ n ≤ 9223372036854775807) :
    Calls Try.prog 10 #[.slice A m c, .slice B k d, .agg (rcC r).toArray, .int .i64 n] w fun e w' => e = .returned (.bool true) ∧ Ext w w' := by
  have hC := hI.cells
  have hcm := hI.cap
  have hcx := hI.most
  have hxl := hI.len
  have hxb := hI.u8
  have hD := hJ.cells
  have hdm := hJ.cap
  have hdx := hJ.most
  have hyl := hJ.len
  have hyb := hJ.u8
  clear hI hJ
  have a1 := fun w hC hD => slot_Choose_calls xs ys A B m c k d w hxl hxb ⟨hcm, hcx⟩ hC hyl hyb ⟨hdm, hdx⟩ hD
  have a2 := fun w hC hD => ref14_Choose_calls xs ys A B m c k d w hxl hxb ⟨hcm, hcx⟩ hC hyl hyb ⟨hdm, hdx⟩ hD
  have a3 := fun w => slot_Turn_calls r n w hr
  have a4 := fun w => ref14_Turn_calls r n w hr
  have a5 := fun w hC hD => slot_Close_calls xs ys A B m c k d w hxl hxb ⟨hcm, hcx⟩ hC hyl hyb ⟨hdm, hdx⟩ hD
  have a6 := fun w hC hD => ref14_Close_calls xs ys A B m c k d w hxl hxb ⟨hcm, hcx⟩ hC hyl hyb ⟨hdm, hdx⟩ hD
  have lr := rcC_length hr
  have pr := rcC_one r
  have l0 := rcC_length RcW.zero
  have p0 := rcC_one rc0
  have wR := slR_W hxb hyb
  have lR := rcC_length wR
  have pR := rcC_one (slR xs ys)
  have sR := src wR
  have ht : (tuS r n).length ≤ 4 := by unfold tuS; split <;> simp [tuL]
  have hcl : (cloS xs ys).length ≤ 4 := by unfold cloS; split <;> simp [erL]
  generalize slR xs ys = R at *
  generalize slN xs ys = N at *
  generalize slE xs ys = E at *
  generalize tuS r n = ts at *
  generalize tuE r n = te at *
  generalize cloS xs ys = cl at *
  clear wR
  refine calls_W (args := [.slice A m c, .slice B k d, .agg (rcC r).toArray, .int .i64 n]) Try.func10 rfl 93 rfl ?_
  (repeat' (first | (refine WL_is ?_; first | refine WL_nil ?_ | (refine WL_isBin ?_; first | refine WL_eqT rfl rfl rfl rfl rfl as_ (by with_reducible rfl) ?_ | refine WL_ieqT rfl rfl rfl rfl rfl ?_) | refine wl_ ?_ | (refine WL_isFn ?_; refine WL_call rfl rfl rfl (law14_awake_calls _) ?_; rintro _ w_ ⟨rfl, hx_⟩; have hz_ := hx_.size; refine ⟨_, rfl, ?_⟩) | (refine WL_isFn ?_; refine WL_call rfl rfl rfl (a1 _ cells_ cells_) ?_; rintro _ w_ ⟨rfl, hx_⟩; have hz_ := hx_.size; refine ⟨_, rfl, ?_⟩) | (refine WL_isFn ?_; refine WL_call rfl rfl rfl (a2 _ cells_ cells_) ?_; rintro _ w_ ⟨rfl, hx_⟩; have hz_ := hx_.size; refine ⟨_, rfl, ?_⟩) | (refine WL_isFn ?_; refine WL_call rfl rfl rfl (a3 _) ?_; rintro _ w_ ⟨A_, c_, zs_, rfl, hr_, hm_, hq_, hx_⟩; have hz_ := hx_.size; have hn_ := hm_.length; refine ⟨_, rfl, ?_⟩) | (refine WL_isFn ?_; refine WL_call rfl rfl rfl (a4 _) ?_; rintro _ w_ ⟨A_, c_, zs_, rfl, hr_, hm_, hq_, hx_⟩; have hz_ := hx_.size; have hn_ := hm_.length; refine ⟨_, rfl, ?_⟩) | (refine WL_isFn ?_; refine WL_call rfl rfl rfl (a5 _ cells_ cells_) ?_; rintro _ w_ ⟨A_, c_, zs_, rfl, hr_, hm_, hq_, hx_⟩; have hz_ := hx_.size; have hn_ := hm_.length; refine ⟨_, rfl, ?_⟩) | (refine WL_isFn ?_; refine WL_call rfl rfl rfl (a6 _ cells_ cells_) ?_; rintro _ w_ ⟨A_, c_, zs_, rfl, hr_, hm_, hq_, hx_⟩; have hz_ := hx_.size; have hn_ := hm_.length; refine ⟨_, rfl, ?_⟩) | (refine WL_isFn ?_; refine WL_call rfl rfl rfl (ref14_Same_calls _ _ _ _ _ _ _ _ cells_ cells_ mc_ mc_ om_) ?_; rintro _ w_ ⟨rfl, hx_⟩; have hz_ := hx_.size; refine ⟨_, rfl, ?_⟩)) | (refine WC_is ?_; first | refine WC_seq (fun _ _ => ?_) | refine wc_ ?_) | (refine WQ_is ?_; first | refine wq_ ?_ | refine WQ_bodyCTT (Or.inl rfl) rfl rfl rfl rfl blk_ lr_ ?_ | refine WQ_bodyCTT (Or.inr rfl) rfl rfl rfl rfl blk_ lr_ ?_) | (refine Kb.mk ?_; intro b_ w_ hb_ hl_ hx_ hB_) | (refine Ks.mk ?_; intro w_ hz_ hx_ hB_) | (refine Ko.mk ?_; intro A_ c_ w_ hx_ ho_ hr_; have hz_ := hx_.size; have hq_ := own_cap ho_) | (refine Kp.mk ?_; intro A_ c_ w_ hx_ hz_ ho_ hr_ hp_; have hq_ := own_cap ho_) | (refine Kl.mk ?_; intro b_ w_ hb_ hl_ hx_ hB_ ho_) | (refine Km.mk ?_; intro b_ w_ hb_ hl_ hx_ ho_) | (refine Ke.mk ?_; intro r_ hr_) | (refine Kg.mk ?_ ?_ <;> intro hs_ <;> (try simp only [strEq_t, strEq_f, decide_eq_true_eq, decide_eq_false_iff_not, beq_iff_eq, beq_eq_false_iff_ne, bne_iff_ne, bne_eq_false_iff_eq, Bool.not_eq_true', Bool.not_eq_false', Bool.not_true, Bool.not_false, gt_iff_lt, ge_iff_le, Int.not_lt, Int.not_le, ne_eq, Bool.false_eq_true, not_true_eq_false, reduceCtorEq] at hs_) <;> (try (exfalso; first | exact hs_ | (exact hs_ rfl) | omega))) | (refine WX_is ?_; first | refine wx_ ?_ | exact WX_altnil | (refine WX_isRd ?_; first | (refine WX_isT ?_; refine WX_readT rfl rfl rfl rfl rfl (by (first | (refine WL_isBin ?_; first | refine WL_eqT rfl rfl rfl rfl rfl as_ (by with_reducible rfl) ?_ | refine WL_ieqT rfl rfl rfl rfl rfl ?_) | refine wl_ ?_); refine WL_nil ?_; exact DR_mk rfl) ?_) | (refine WX_isF ?_; refine WX_read rfl rfl rfl rfl rfl (fun w_ hx_ => by (first | (refine WL_isBin ?_; first | refine WL_eqT rfl rfl rfl rfl rfl as_ (by with_reducible rfl) ?_ | refine WL_ieqT rfl rfl rfl rfl rfl ?_) | refine wl_ ?_); refine WL_nil ?_; exact DR_mk rfl) ?_) | refine wxg_ ?_) | (refine WX_isAct ?_; first | refine WX_eff1 rfl (fun _ _ => ?_) | refine WX_eff rfl (fun _ _ => ?_) ?_))))
  all_goals exact ⟨by first | rfl | simp, ext_⟩
end Go.Proofs.Ytejdjpjaahfnaaa.K
