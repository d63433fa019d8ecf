/- Chapter 09 (zone): Reset, Finish, Flush, Read, Same, the program's and the document's. Seat-free. -/
import Derived.Test.YtemfngomfiimfaaZ2
set_option linter.unusedVariables false
set_option linter.unusedSimpArgs false
set_option maxHeartbeats 4000000
set_option maxRecDepth 20000
namespace Go.Proofs.Ytemfngomfiimfaa.K
open Go.RowKit
attribute [local irreducible] strEq strOfNums Calls WL WC WQ WX Code.wp wpList bodyPost
theorem tkZ_t {s : Int} (h : s = 0 ∨ s = 1) : tkZ s = true := decide_eq_true h
theorem tkZ_f {s : Int} (h : ¬ (s = 0 ∨ s = 1)) : tkZ s = false := decide_eq_false h
theorem Zst.state {z : Zo} (h : Zst z) {s : Int} (hs : -9223372036854775808 ≤ s ∧ s ≤ 9223372036854775807) : Zst ⟨s, z.d, z.l⟩ := ⟨h.bytes, h.small, hs, h.lb⟩
section
variable (z : Zo) (A : Option Addr) (m c : Nat) (w : World) (hz : Zst z) (hl : z.d.length = m) (hc : m ≤ c ∧ c ≤ 9223372036854775807) (hC : Cells w A (z.d.map (.int .u8)))
theorem zone_Reset_calls (hz : Zst z) (hl : z.d.length = m) (hC : Cells w A (z.d.map (.int .u8))) :
    Calls Try.prog 38 #[.agg #[.int .i64 z.s, .slice A m c, .int .i64 z.l]] w fun r w' => ∃ A' c', r = .returned (.tuple #[.agg #[.int .i64 (rsZ z).s, .slice A' (rsZ z).d.length c', .int .i64 (rsZ z).l], .int .i64 (rsE z)]) ∧ w'.ownsRow w.heap.size 5 1 (.slice A' (rsZ z).d.length c') (rsZ z).d.length ((rsZ z).d.map (.int .u8)) ∧ Ext w w' := by
  subst hl
  unfold rsZ
  refine calls_W (args := [.agg #[.int .i64 z.s, .slice A z.d.length c, .int .i64 z.l]]) Try.func38 rfl 15 rfl ?_
  by_cases h1 : z.s = 0 ∨ z.s = 1 ∨ z.s = 2
  · have e1 : rsE z = 0 := if_pos h1
    rw [e1]
    simp only [if_true]
    cases htk : tkZ z.s with
    | true =>
      (repeat' (first | (refine WL_is ?_; first | refine WL_nil ?_ | refine wl_ ?_ | (refine WL_isFn ?_; refine WL_call rfl rfl rfl (zone_takes_calls _ _ _ _ _ _ _ htk) ?_; rintro _ w_ ⟨rfl, hx_⟩; have hz_ := hx_.size; refine ⟨_, rfl, ?_⟩)) | (refine WC_is ?_; first | refine WC_seq (fun _ _ => ?_) | refine wc_ ?_) | (refine WQ_is ?_; first | refine wq_ ?_) | (refine Kb.mk ?_; intro b_ w_ hb_ hl_ hx_ hB_) | (refine Ks.mk ?_; intro w_ hz_ hx_ hB_) | (refine Ko.mk ?_; intro A_ c_ w_ hx_ ho_ hr_; have hz_ := hx_.size; have hq_ := own_cap ho_) | (refine Kp.mk ?_; intro A_ c_ w_ hx_ hz_ ho_ hr_ hp_; have hq_ := own_cap ho_) | (refine Kl.mk ?_; intro b_ w_ hb_ hl_ hx_ hB_ ho_) | (refine Km.mk ?_; intro b_ w_ hb_ hl_ hx_ ho_) | (refine Ke.mk ?_; intro r_ hr_) | (refine Kg.mk ?_ ?_ <;> intro hs_ <;> (try simp only [strEq_t, strEq_f, decide_eq_true_eq, decide_eq_false_iff_not, beq_iff_eq, beq_eq_false_iff_ne, bne_iff_ne, bne_eq_false_iff_eq, Bool.not_eq_true', Bool.not_eq_false', Bool.not_true, Bool.not_false, gt_iff_lt, ge_iff_le, Int.not_lt, Int.not_le, ne_eq, Bool.false_eq_true, not_true_eq_false, reduceCtorEq] at hs_) <;> (try (exfalso; first | exact hs_ | (exact hs_ rfl) | omega))) ))
      all_goals exact ⟨none, 0, rfl, own_nil _ _ _ _, ext_⟩
    | false =>
      have htk2 := of_decide_eq_false htk
      (repeat' (first | (refine WL_is ?_; first | refine WL_nil ?_ | refine wl_ ?_ | (refine WL_isFn ?_; refine WL_call rfl rfl rfl (zone_takes_calls _ _ _ _ _ _ _ htk) ?_; rintro _ w_ ⟨rfl, hx_⟩; have hz_ := hx_.size; refine ⟨_, rfl, ?_⟩)) | (refine WC_is ?_; first | refine WC_seq (fun _ _ => ?_) | refine wc_ ?_) | (refine WQ_is ?_; first | refine wq_ ?_) | (refine Kb.mk ?_; intro b_ w_ hb_ hl_ hx_ hB_) | (refine Ks.mk ?_; intro w_ hz_ hx_ hB_) | (refine Ko.mk ?_; intro A_ c_ w_ hx_ ho_ hr_; have hz_ := hx_.size; have hq_ := own_cap ho_) | (refine Kp.mk ?_; intro A_ c_ w_ hx_ hz_ ho_ hr_ hp_; have hq_ := own_cap ho_) | (refine Kl.mk ?_; intro b_ w_ hb_ hl_ hx_ hB_ ho_) | (refine Km.mk ?_; intro b_ w_ hb_ hl_ hx_ ho_) | (refine Ke.mk ?_; intro r_ hr_) | (refine Kg.mk ?_ ?_ <;> intro hs_ <;> (try simp only [strEq_t, strEq_f, decide_eq_true_eq, decide_eq_false_iff_not, beq_iff_eq, beq_eq_false_iff_ne, bne_iff_ne, bne_eq_false_iff_eq, Bool.not_eq_true', Bool.not_eq_false', Bool.not_true, Bool.not_false, gt_iff_lt, ge_iff_le, Int.not_lt, Int.not_le, ne_eq, Bool.false_eq_true, not_true_eq_false, reduceCtorEq] at hs_) <;> (try (exfalso; first | exact hs_ | (exact hs_ rfl) | omega))) ))
      all_goals exact ⟨none, 0, rfl, own_nil _ _ _ _, ext_⟩
  · have e1 : rsE z = 90 := if_neg h1
    have htk := tkZ_f (s := z.s) om_
    rw [e1]
    simp only [show ((90 : Int) = 0) = False from by simp, if_false]
    (repeat' (first | (refine WL_is ?_; first | refine WL_nil ?_ | refine wl_ ?_ | (refine WL_isFn ?_; refine WL_call rfl rfl rfl (zone_takes_calls _ _ _ _ _ _ _ htk) ?_; rintro _ w_ ⟨rfl, hx_⟩; have hz_ := hx_.size; refine ⟨_, rfl, ?_⟩) | (refine WL_isFn ?_; refine WL_call rfl rfl rfl (zone_own_calls z _ _ _ _ hz rfl cells_) ?_; rintro _ w_ ⟨A_, c_, rfl, ho_, hx_⟩; have hz_ := hx_.size; have hr_ := own_rd ho_; have hq_ := own_cap ho_; refine ⟨_, rfl, ?_⟩)) | (refine WC_is ?_; first | refine WC_seq (fun _ _ => ?_) | refine wc_ ?_) | (refine WQ_is ?_; first | refine wq_ ?_) | (refine Kb.mk ?_; intro b_ w_ hb_ hl_ hx_ hB_) | (refine Ks.mk ?_; intro w_ hz_ hx_ hB_) | (refine Ko.mk ?_; intro A_ c_ w_ hx_ ho_ hr_; have hz_ := hx_.size; have hq_ := own_cap ho_) | (refine Kp.mk ?_; intro A_ c_ w_ hx_ hz_ ho_ hr_ hp_; have hq_ := own_cap ho_) | (refine Kl.mk ?_; intro b_ w_ hb_ hl_ hx_ hB_ ho_) | (refine Km.mk ?_; intro b_ w_ hb_ hl_ hx_ ho_) | (refine Ke.mk ?_; intro r_ hr_) | (refine Kg.mk ?_ ?_ <;> intro hs_ <;> (try simp only [strEq_t, strEq_f, decide_eq_true_eq, decide_eq_false_iff_not, beq_iff_eq, beq_eq_false_iff_ne, bne_iff_ne, bne_eq_false_iff_eq, Bool.not_eq_true', Bool.not_eq_false', Bool.not_true, Bool.not_false, gt_iff_lt, ge_iff_le, Int.not_lt, Int.not_le, ne_eq, Bool.false_eq_true, not_true_eq_false, reduceCtorEq] at hs_) <;> (try (exfalso; first | exact hs_ | (exact hs_ rfl) | omega))) ))
    all_goals exact ⟨_, _, rfl, own_, ext_⟩
theorem zone_Finish_calls (hz : Zst z) (hl : z.d.length = m) (hC : Cells w A (z.d.map (.int .u8))) :
    Calls Try.prog 39 #[.agg #[.int .i64 z.s, .slice A m c, .int .i64 z.l]] w fun r w' => ∃ A' c', r = .returned (.tuple #[.agg #[.int .i64 (fiZ z).s, .slice A' (fiZ z).d.length c', .int .i64 (fiZ z).l], .int .i64 (fiE z)]) ∧ w'.ownsRow w.heap.size 5 1 (.slice A' (fiZ z).d.length c') (fiZ z).d.length ((fiZ z).d.map (.int .u8)) ∧ Ext w w' := by
  subst hl
  unfold fiZ
  refine calls_W (args := [.agg #[.int .i64 z.s, .slice A z.d.length c, .int .i64 z.l]]) Try.func39 rfl 12 rfl ?_
  by_cases h1 : z.s = 0 ∨ z.s = 1
  · have e1 : fiE z = 0 := if_pos h1
    have htk := tkZ_t h1
    rw [e1]
    simp only [if_true]
    (repeat' (first | (refine WL_is ?_; first | refine WL_nil ?_ | refine wl_ ?_ | (refine WL_isFn ?_; refine WL_call rfl rfl rfl (zone_takes_calls _ _ _ _ _ _ _ htk) ?_; rintro _ w_ ⟨rfl, hx_⟩; have hz_ := hx_.size; refine ⟨_, rfl, ?_⟩) | (refine WL_isFn ?_; refine WL_call rfl rfl rfl (zone_own_calls ⟨2, z.d, z.l⟩ _ _ _ _ (hz.state (by decide)) rfl cells_) ?_; rintro _ w_ ⟨A_, c_, rfl, ho_, hx_⟩; have hz_ := hx_.size; have hr_ := own_rd ho_; have hq_ := own_cap ho_; refine ⟨_, rfl, ?_⟩)) | (refine WC_is ?_; first | refine WC_seq (fun _ _ => ?_) | refine wc_ ?_) | (refine WQ_is ?_; first | refine wq_ ?_) | (refine Kb.mk ?_; intro b_ w_ hb_ hl_ hx_ hB_) | (refine Ks.mk ?_; intro w_ hz_ hx_ hB_) | (refine Ko.mk ?_; intro A_ c_ w_ hx_ ho_ hr_; have hz_ := hx_.size; have hq_ := own_cap ho_) | (refine Kp.mk ?_; intro A_ c_ w_ hx_ hz_ ho_ hr_ hp_; have hq_ := own_cap ho_) | (refine Kl.mk ?_; intro b_ w_ hb_ hl_ hx_ hB_ ho_) | (refine Km.mk ?_; intro b_ w_ hb_ hl_ hx_ ho_) | (refine Ke.mk ?_; intro r_ hr_) | (refine Kg.mk ?_ ?_ <;> intro hs_ <;> (try simp only [strEq_t, strEq_f, decide_eq_true_eq, decide_eq_false_iff_not, beq_iff_eq, beq_eq_false_iff_ne, bne_iff_ne, bne_eq_false_iff_eq, Bool.not_eq_true', Bool.not_eq_false', Bool.not_true, Bool.not_false, gt_iff_lt, ge_iff_le, Int.not_lt, Int.not_le, ne_eq, Bool.false_eq_true, not_true_eq_false, reduceCtorEq] at hs_) <;> (try (exfalso; first | exact hs_ | (exact hs_ rfl) | omega))) ))
    all_goals exact ⟨_, _, rfl, own_, ext_⟩
  · have e1 : fiE z = 90 := if_neg h1
    have htk := tkZ_f h1
    rw [e1]
    simp only [show ((90 : Int) = 0) = False from by simp, if_false]
    (repeat' (first | (refine WL_is ?_; first | refine WL_nil ?_ | refine wl_ ?_ | (refine WL_isFn ?_; refine WL_call rfl rfl rfl (zone_takes_calls _ _ _ _ _ _ _ htk) ?_; rintro _ w_ ⟨rfl, hx_⟩; have hz_ := hx_.size; refine ⟨_, rfl, ?_⟩) | (refine WL_isFn ?_; refine WL_call rfl rfl rfl (zone_own_calls z _ _ _ _ hz rfl cells_) ?_; rintro _ w_ ⟨A_, c_, rfl, ho_, hx_⟩; have hz_ := hx_.size; have hr_ := own_rd ho_; have hq_ := own_cap ho_; refine ⟨_, rfl, ?_⟩)) | (refine WC_is ?_; first | refine WC_seq (fun _ _ => ?_) | refine wc_ ?_) | (refine WQ_is ?_; first | refine wq_ ?_) | (refine Kb.mk ?_; intro b_ w_ hb_ hl_ hx_ hB_) | (refine Ks.mk ?_; intro w_ hz_ hx_ hB_) | (refine Ko.mk ?_; intro A_ c_ w_ hx_ ho_ hr_; have hz_ := hx_.size; have hq_ := own_cap ho_) | (refine Kp.mk ?_; intro A_ c_ w_ hx_ hz_ ho_ hr_ hp_; have hq_ := own_cap ho_) | (refine Kl.mk ?_; intro b_ w_ hb_ hl_ hx_ hB_ ho_) | (refine Km.mk ?_; intro b_ w_ hb_ hl_ hx_ ho_) | (refine Ke.mk ?_; intro r_ hr_) | (refine Kg.mk ?_ ?_ <;> intro hs_ <;> (try simp only [strEq_t, strEq_f, decide_eq_true_eq, decide_eq_false_iff_not, beq_iff_eq, beq_eq_false_iff_ne, bne_iff_ne, bne_eq_false_iff_eq, Bool.not_eq_true', Bool.not_eq_false', Bool.not_true, Bool.not_false, gt_iff_lt, ge_iff_le, Int.not_lt, Int.not_le, ne_eq, Bool.false_eq_true, not_true_eq_false, reduceCtorEq] at hs_) <;> (try (exfalso; first | exact hs_ | (exact hs_ rfl) | omega))) ))
    all_goals exact ⟨_, _, rfl, own_, ext_⟩
theorem zone_Flush_calls (hz : Zst z) (hl : z.d.length = m) (hC : Cells w A (z.d.map (.int .u8))) :
    Calls Try.prog 37 #[.agg #[.int .i64 z.s, .slice A m c, .int .i64 z.l]] w fun r w' => ∃ A' c', r = .returned (.agg #[.int .i64 z.s, .slice A' z.d.length c', .int .i64 (z.d.length : Int)]) ∧ w'.ownsRow w.heap.size 5 1 (.slice A' z.d.length c') z.d.length (z.d.map (.int .u8)) ∧ Ext w w' := by
  subst hl
  have hs := hz.small
  refine calls_W (args := [.agg #[.int .i64 z.s, .slice A z.d.length c, .int .i64 z.l]]) Try.func37 rfl 9 rfl ?_
  (repeat' (first | (refine WL_is ?_; first | refine WL_nil ?_ | refine wl_ ?_ | (refine WL_isFn ?_; refine WL_call rfl rfl rfl (zone_own_calls (flZ z) _ _ _ _ ⟨hz.bytes, hz.small, hz.sb, by show _ ∧ _; unfold flZ; dsimp only; omega⟩ rfl cells_) ?_; rintro _ w_ ⟨A_, c_, rfl, ho_, hx_⟩; have hz_ := hx_.size; have hr_ := own_rd ho_; have hq_ := own_cap ho_; refine ⟨_, rfl, ?_⟩)) | (refine WC_is ?_; first | refine WC_seq (fun _ _ => ?_) | refine wc_ ?_) | (refine WQ_is ?_; first | refine wq_ ?_) | (refine Kb.mk ?_; intro b_ w_ hb_ hl_ hx_ hB_) | (refine Ks.mk ?_; intro w_ hz_ hx_ hB_) | (refine Ko.mk ?_; intro A_ c_ w_ hx_ ho_ hr_; have hz_ := hx_.size; have hq_ := own_cap ho_) | (refine Kp.mk ?_; intro A_ c_ w_ hx_ hz_ ho_ hr_ hp_; have hq_ := own_cap ho_) | (refine Kl.mk ?_; intro b_ w_ hb_ hl_ hx_ hB_ ho_) | (refine Km.mk ?_; intro b_ w_ hb_ hl_ hx_ ho_) | (refine Ke.mk ?_; intro r_ hr_) | (refine Kg.mk ?_ ?_ <;> intro hs_ <;> (try simp only [strEq_t, strEq_f, decide_eq_true_eq, decide_eq_false_iff_not, beq_iff_eq, beq_eq_false_iff_ne, bne_iff_ne, bne_eq_false_iff_eq, Bool.not_eq_true', Bool.not_eq_false', Bool.not_true, Bool.not_false, gt_iff_lt, ge_iff_le, Int.not_lt, Int.not_le, ne_eq, Bool.false_eq_true, not_true_eq_false, reduceCtorEq] at hs_) <;> (try (exfalso; first | exact hs_ | (exact hs_ rfl) | omega))) ))
  all_goals exact ⟨_, _, rfl, own_, ext_⟩
end
def sameZ (x y : Zo) : Bool := x.s == y.s && strEq (strOfNums x.d) (strOfNums y.d) && x.l == y.l
end Go.Proofs.Ytemfngomfiimfaa.K
