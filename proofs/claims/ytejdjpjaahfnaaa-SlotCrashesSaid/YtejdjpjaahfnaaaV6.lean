/- Chapter 13 (root): a record's bytes: the document's Write. Seat-free. -/
import Derived.Test.YtejdjpjaahfnaaaV5
set_option linter.unusedVariables false
set_option linter.unusedSimpArgs false
set_option maxHeartbeats 4000000
set_option maxRecDepth 20000
namespace Go.Proofs.Ytejdjpjaahfnaaa.K
open Go.RowKit
attribute [local irreducible] strEq strOfNums Calls WL WC WQ WX Code.wp wpList bodyPost
attribute [local irreducible] enL hdL wrL fldB fldE putB putE adS leB enB enE wrA
theorem ref13_Write_calls (r : Rc) (w : World) (hr : RcW r) :
    Calls Try.prog 15 #[.agg (rcC r).toArray] w fun e w' => ∃ A c, e = .returned (.tuple #[.slice A (wrB r).length c, .int .i64 (wrE r)]) ∧ w'.ownsRow w.heap.size 5 1 (.slice A (wrB r).length c) (wrB r).length ((wrB r).map (.int .u8)) ∧ Ext w w' := by
  have hrl := rcC_length hr
  have hro := rcC_one r
  have h1 := rc_seg1 hr
  obtain ⟨c0, c1, c2⟩ := rc_at hr
  refine calls_W (args := [.agg (rcC r).toArray]) Try.func15 rfl 54 rfl ?_
  cases hok : okR r with
  | false =>
    have hO : ¬ OkR r := fun h => by rw [okR_iff.2 h] at hok; cases hok
    rw [(wrB_f hO).1, (wrB_f hO).2]
    (repeat' (first | (refine WL_is ?_; first | refine WL_nil ?_ | refine wl_ ?_ | (refine WL_isFn ?_; refine WL_call rfl rfl rfl (ref13_Check_calls r _ hr _ hok) ?_; rintro _ w_ ⟨rfl, hx_⟩; have hz_ := hx_.size; refine ⟨_, rfl, ?_⟩)) | (refine WC_is ?_; first | refine WC_seq (fun _ _ => ?_) | refine wc_ ?_) | (refine WQ_is ?_; first | refine wq_ ?_) | (refine Kb.mk ?_; intro b_ w_ hb_ hl_ hx_ hB_) | (refine Ks.mk ?_; intro w_ hz_ hx_ hB_) | (refine Ko.mk ?_; intro A_ c_ w_ hx_ ho_ hr_; have hz_ := hx_.size; have hq_ := own_cap ho_) | (refine Kp.mk ?_; intro A_ c_ w_ hx_ hz_ ho_ hr_ hp_; have hq_ := own_cap ho_) | (refine Kl.mk ?_; intro b_ w_ hb_ hl_ hx_ hB_ ho_) | (refine Km.mk ?_; intro b_ w_ hb_ hl_ hx_ ho_) | (refine Ke.mk ?_; intro r_ hr_) | (refine Kg.mk ?_ ?_ <;> intro hs_ <;> (try simp only [strEq_t, strEq_f, decide_eq_true_eq, decide_eq_false_iff_not, beq_iff_eq, beq_eq_false_iff_ne, bne_iff_ne, bne_eq_false_iff_eq, Bool.not_eq_true', Bool.not_eq_false', Bool.not_true, Bool.not_false, gt_iff_lt, ge_iff_le, Int.not_lt, Int.not_le, ne_eq, Bool.false_eq_true, not_true_eq_false, reduceCtorEq] at hs_) <;> (try (exfalso; first | exact hs_ | (exact hs_ rfl) | omega))) ))
    all_goals exact ⟨none, 0, rfl, own_nil _ _ _ _, ext_⟩
  | true =>
    have hO := okR_iff.1 hok
    obtain ⟨g1, g2, g3, g4, g5, g6⟩ := rcE_facts hO
    rw [(wrB_t hO).1, (wrB_t hO).2]
    have hAl := wrA_length hr
    have hLl := wrL_length hr
    rw [hAl]
    have hhl := hdL_length r
    have hel := enL_length hr.ew.len
    have hjl := hr.len
    have hll := leB_length (adS 1 (wrL r)) 4
    have hLb := wrL_bytes hO hr
    have hA := adS_in 1 (wrL r)
    have pe := fun w => ref12_Entry_calls r.t w hr.ew
    simp only [(enB_T hO.1).1, (enB_T hO.1).2, hel] at pe
    have ff := fun A0 A1 c0 c1 w hC0 hC1 => ref01_Fields_calls [1, 1, 2, 4, 8] [82, r.bl, 0, r.ep, r.sq] A0 A1 5 c0 5 c1 w rfl rfl om_ (by decide) (by intro x hx; simp only [List.mem_cons, List.not_mem_nil, or_false] at hx; omega) hC0 hC1
    have e1 := fld_rc (bl := r.bl) (ep := r.ep) (sq := r.sq) ⟨g1, g2⟩ ⟨g3, g4⟩ ⟨g5, g6⟩
    rw [show [82, r.bl, 0, 0] ++ (leB r.ep 4 ++ leB r.sq 8) = hdL r by unfold hdL; rfl] at e1
    simp only [e1.1, e1.2, hhl] at ff
    have pp := fun w => ref01_Put_calls (adS 1 (wrL r)) 4 om_ om_ w
    simp only [(put4 hA).1, (put4 hA).2, hll] at pp
    have eq1 := @wrL_put r
    have eq2 := @wrA_put r
    rw [← eq2]
    (repeat' (first | (refine WL_is ?_; first | refine WL_nil ?_ | refine wl_ ?_ ) | (refine WC_is ?_; first | ((fail_if_success (refine WC_isReg (id := 1) ?_)); refine WC_seq (fun _ _ => ?_)) | refine wc_ ?_) | (refine WQ_is ?_; first | refine wq_ ?_) | (refine Kb.mk ?_; intro b_ w_ hb_ hl_ hx_ hB_) | (refine Ks.mk ?_; intro w_ hz_ hx_ hB_) | (refine Ko.mk ?_; intro A_ c_ w_ hx_ ho_ hr_; have hz_ := hx_.size; have hq_ := own_cap ho_) | (refine Kp.mk ?_; intro A_ c_ w_ hx_ hz_ ho_ hr_ hp_; have hq_ := own_cap ho_) | (refine Kl.mk ?_; intro b_ w_ hb_ hl_ hx_ hB_ ho_) | (refine Km.mk ?_; intro b_ w_ hb_ hl_ hx_ ho_) | (refine Ke.mk ?_; intro r_ hr_) | (refine Kg.mk ?_ ?_ <;> intro hs_ <;> (try simp only [strEq_t, strEq_f, decide_eq_true_eq, decide_eq_false_iff_not, beq_iff_eq, beq_eq_false_iff_ne, bne_iff_ne, bne_eq_false_iff_eq, Bool.not_eq_true', Bool.not_eq_false', Bool.not_true, Bool.not_false, gt_iff_lt, ge_iff_le, Int.not_lt, Int.not_le, ne_eq, Bool.false_eq_true, not_true_eq_false, reduceCtorEq] at hs_) <;> (try (exfalso; first | exact hs_ | (exact hs_ rfl) | omega))) ))
    obtain ⟨b1, rfl⟩ : ∃ x, x = b_ := ⟨_, rfl⟩
    have hJ := rc_key hr hB_
    (repeat' (first | (refine WL_is ?_; first | refine WL_nil ?_ | (refine WL_isLoad ?_; refine WL_load rfl rfl rfl blk_ as_ ?_) | (refine WL_isCall ?_; refine WL_isApp ?_; refine WL_appZG (k := 40) rfl rfl rfl rfl rfl as_ as_ keepo_ om_ om_ (by decide) om_ om_ (fun A_ c_ w_ hx_ hz_ ho_ hr_ hp_ => ?_); have hq_ := own_cap ho_; rw [eq1] at ho_ hr_) | refine wl_ ?_ | (refine WL_isFn ?_; refine WL_call rfl rfl rfl (ref13_Check_calls r _ hr _ hok) ?_; rintro _ w_ ⟨rfl, hx_⟩; have hz_ := hx_.size; refine ⟨_, rfl, ?_⟩) | (refine WL_isFn ?_; refine WL_call rfl rfl rfl (ref03_More_calls 1 om_ (wrL r) _ _ _ _ len_ hLb om_ cells_) ?_; rintro _ w_ ⟨rfl, hx_⟩; have hz_ := hx_.size; refine ⟨_, rfl, ?_⟩) | (refine WL_isFn ?_; refine WL_call rfl rfl rfl (pp _) ?_; rintro _ w_ ⟨A_, c_, rfl, ho_, hx_⟩; have hz_ := hx_.size; have hr_ := own_rd ho_; have hq_ := own_cap ho_; refine ⟨_, rfl, ?_⟩) | (refine WL_isFn ?_; refine WL_call rfl rfl rfl (ff _ _ _ _ _ cells_ cells_) ?_; rintro _ w_ ⟨A_, c_, rfl, ho_, hx_⟩; have hz_ := hx_.size; have hr_ := own_rd ho_; have hq_ := own_cap ho_; refine ⟨_, rfl, ?_⟩) | (refine WL_isFn ?_; refine WL_call rfl rfl rfl (pe _) ?_; rintro _ w_ ⟨A_, c_, rfl, ho_, hx_⟩; have hz_ := hx_.size; have hr_ := own_rd ho_; have hq_ := own_cap ho_; refine ⟨_, rfl, ?_⟩)) | (refine WC_is ?_; first | refine WC_seq (fun _ _ => ?_) | refine WC_orderW w (.rd true 0 (.rd true 1 (.rd false 3 (.rd false 4 (.act true 2 (.act false 5 (.rd true 6 .nil) .nil) .nil))))) [[], [], [0, 1], [], [], [0, 1, 2, 3, 4]] [2, 5] (some 5) 6 (by kernel_rfl) (by kernel_rfl) ext_ (fun w_ hx_ hz_ => ?_) | refine wc_ ?_) | (refine WQ_is ?_; first | refine wq_ ?_) | (refine Kb.mk ?_; intro b_ w_ hb_ hl_ hx_ hB_) | (refine Ks.mk ?_; intro w_ hz_ hx_ hB_) | (refine Ko.mk ?_; intro A_ c_ w_ hx_ ho_ hr_; have hz_ := hx_.size; have hq_ := own_cap ho_) | (refine Kp.mk ?_; intro A_ c_ w_ hx_ hz_ ho_ hr_ hp_; have hq_ := own_cap ho_) | (refine Kl.mk ?_; intro b_ w_ hb_ hl_ hx_ hB_ ho_) | (refine Km.mk ?_; intro b_ w_ hb_ hl_ hx_ ho_) | (refine Ke.mk ?_; intro r_ hr_) | (refine Kg.mk ?_ ?_ <;> intro hs_ <;> (try simp only [strEq_t, strEq_f, decide_eq_true_eq, decide_eq_false_iff_not, beq_iff_eq, beq_eq_false_iff_ne, bne_iff_ne, bne_eq_false_iff_eq, Bool.not_eq_true', Bool.not_eq_false', Bool.not_true, Bool.not_false, gt_iff_lt, ge_iff_le, Int.not_lt, Int.not_le, ne_eq, Bool.false_eq_true, not_true_eq_false, reduceCtorEq] at hs_) <;> (try (exfalso; first | exact hs_ | (exact hs_ rfl) | omega))) | (refine WX_is ?_; first | refine wx_ ?_ | exact WX_altnil | (refine WX_isRd ?_; first | (refine WX_isT ?_; refine WX_readT rfl rfl rfl rfl rfl (by (first | (refine WL_isLoad ?_; refine WL_load rfl rfl rfl blk_ as_ ?_) | (refine WL_isCall ?_; refine WL_isApp ?_; refine WL_appZG (k := 40) rfl rfl rfl rfl rfl as_ as_ keepo_ om_ om_ (by decide) om_ om_ (fun A_ c_ w_ hx_ hz_ ho_ hr_ hp_ => ?_); have hq_ := own_cap ho_; rw [eq1] at ho_ hr_) | refine wl_ ?_); refine WL_nil ?_; exact DR_mk rfl) ?_) | (refine WX_isF ?_; refine WX_read rfl rfl rfl rfl rfl (fun w_ hx_ => by (first | (refine WL_isLoad ?_; refine WL_load rfl rfl rfl blk_ as_ ?_) | (refine WL_isCall ?_; refine WL_isApp ?_; refine WL_appZG (k := 40) rfl rfl rfl rfl rfl as_ as_ keepo_ om_ om_ (by decide) om_ om_ (fun A_ c_ w_ hx_ hz_ ho_ hr_ hp_ => ?_); have hq_ := own_cap ho_; rw [eq1] at ho_ hr_) | refine wl_ ?_); refine WL_nil ?_; exact DR_mk rfl) ?_) | refine wxg_ ?_) | (refine WX_isAct ?_; first | refine WX_eff1 rfl (fun _ _ => ?_) | refine WX_eff rfl (fun _ _ => ?_) ?_))))
    all_goals exact ⟨_, _, rfl, own_, ext_⟩
end Go.Proofs.Ytejdjpjaahfnaaa.K
