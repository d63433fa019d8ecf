/- Chapter 14 (slot): the record that holds; both. Seat-free. -/
import Derived.Test.YtejdjpjaahfnaaaU1
import Derived.Test.YtejdjpjaahfnaaaV12
set_option linter.unusedVariables false
set_option linter.unusedSimpArgs false
set_option maxHeartbeats 4000000
set_option maxRecDepth 20000
namespace Go.Proofs.Ytejdjpjaahfnaaa.K
open Go.RowKit
attribute [local irreducible] strEq strOfNums Calls WL WC WQ WX Code.wp wpList bodyPost
/-- Does the second hold, of two sectors? -/
def Sec (a b : List Int) : Prop := OkRd b ∧ (¬ OkRd a ∨ (toR a).ep < (toR b).ep)
instance (a b : List Int) : Decidable (Sec a b) := by unfold Sec; infer_instance
def slR (a b : List Int) : Rc := if Sec a b then toR b else rdR a
def slN (a b : List Int) : Int := if Sec a b then 1 else 0
def slE (a b : List Int) : Int := if OkRd a ∨ OkRd b then 0 else 140
theorem sl_2 {a b : List Int} (h : Sec a b) : slR a b = toR b ∧ slN a b = 1 ∧ slE a b = 0 := ⟨if_pos h, if_pos h, if_pos (.inr h.1)⟩
theorem sl_1 {a b : List Int} (ha : OkRd a) (h : ¬ Sec a b) : slR a b = toR a ∧ slN a b = 0 ∧ slE a b = 0 := ⟨(if_neg h).trans (if_pos ha), if_neg h, if_pos (.inl ha)⟩
theorem sl_0 {a b : List Int} (ha : ¬ OkRd a) (hb : ¬ OkRd b) : slR a b = rc0 ∧ slN a b = 0 ∧ slE a b = 140 := ⟨(if_neg fun h => hb h.1).trans (if_neg ha), if_neg fun h => hb h.1, if_neg fun h => h.elim ha hb⟩
theorem slR_W {a b : List Int} (ha : ∀ x ∈ a, 0 ≤ x ∧ x < 256) (hb : ∀ x ∈ b, 0 ≤ x ∧ x < 256) : RcW (slR a b) := by
  unfold slR
  split
  · rename_i h; exact toR_W h.1.1 hb h.1.2.2.1
  · exact rdR_W ha
theorem slot_Choose_calls (a b : List Int) (A B : Option Addr) (m c k d : Nat) (w : World) (hl : a.length = m) (hb : ∀ x ∈ a, 0 ≤ x ∧ x < 256) (hc : m ≤ c ∧ c ≤ 9223372036854775807) (hC : Cells w A (a.map (.int .u8))) (hl2 : b.length = k) (hb2 : ∀ x ∈ b, 0 ≤ x ∧ x < 256) (hc2 : k ≤ d ∧ d ≤ 9223372036854775807) (hD : Cells w B (b.map (.int .u8))) :
    Calls Try.prog 27 #[.slice A m c, .slice B k d] w fun e w' => e = .returned (.tuple #[.agg (rcC (slR a b)).toArray, .int .i64 (slN a b), .int .i64 (slE a b)]) ∧ Ext w w' := by
  have h0 := rcC_length RcW.zero
  have ho := rcC_one rc0
  have a1 := fun w hC => root_Read_calls a A m c w hl hb hc hC
  have a2 := fun w hC => root_Read_calls b B k d w hl2 hb2 hc2 hC
  by_cases ha : OkRd a
  · have hw := toR_W ha.1 hb ha.2.2.1
    rw [(rdR_t ha).1, (rdR_t ha).2] at a1
    have hla := rcC_length hw
    have hoa := rcC_one (toR a)
    by_cases hB : OkRd b
    · have hv := toR_W hB.1 hb2 hB.2.2.1
      rw [(rdR_t hB).1, (rdR_t hB).2] at a2
      have hlb := rcC_length hv
      have hob := rcC_one (toR b)
      by_cases hlt : (toR a).ep < (toR b).ep
      · have hS := sl_2 (a := a) (b := b) ⟨hB, .inr hlt⟩
        rw [hS.1, hS.2.1, hS.2.2]
        clear hS hw hv ha hB
        generalize toR a = x at *
        generalize toR b = y at *
        refine calls_W (args := [.slice A m c, .slice B k d]) Try.func27 rfl 44 rfl ?_
        (repeat' (first | (refine WL_is ?_; first | refine WL_nil ?_ | refine wl_ ?_ | (refine WL_isFn ?_; refine WL_call rfl rfl rfl (a1 _ cells_) ?_; rintro _ w_ ⟨rfl, hx_⟩; have hz_ := hx_.size; refine ⟨_, rfl, ?_⟩) | (refine WL_isFn ?_; refine WL_call rfl rfl rfl (a2 _ cells_) ?_; rintro _ w_ ⟨rfl, hx_⟩; have hz_ := hx_.size; refine ⟨_, rfl, ?_⟩)) | (refine WC_is ?_; first | refine WC_seq (fun _ _ => ?_) | refine wc_ ?_) | (refine WQ_is ?_; first | refine wq_ ?_ | refine WQ_bodyCTT (Or.inl rfl) rfl rfl rfl rfl blk_ lr_ ?_ | refine WQ_bodyCTT (Or.inr rfl) rfl rfl rfl rfl blk_ lr_ ?_) | (refine Kb.mk ?_; intro b_ w_ hb_ hl_ hx_ hB_) | (refine Ks.mk ?_; intro w_ hz_ hx_ hB_) | (refine Ko.mk ?_; intro A_ c_ w_ hx_ ho_ hr_; have hz_ := hx_.size; have hq_ := own_cap ho_) | (refine Kp.mk ?_; intro A_ c_ w_ hx_ hz_ ho_ hr_ hp_; have hq_ := own_cap ho_) | (refine Kl.mk ?_; intro b_ w_ hb_ hl_ hx_ hB_ ho_) | (refine Km.mk ?_; intro b_ w_ hb_ hl_ hx_ ho_) | (refine Ke.mk ?_; intro r_ hr_) | (refine Kg.mk ?_ ?_ <;> intro hs_ <;> (try simp only [strEq_t, strEq_f, decide_eq_true_eq, decide_eq_false_iff_not, beq_iff_eq, beq_eq_false_iff_ne, bne_iff_ne, bne_eq_false_iff_eq, Bool.not_eq_true', Bool.not_eq_false', Bool.not_true, Bool.not_false, gt_iff_lt, ge_iff_le, Int.not_lt, Int.not_le, ne_eq, Bool.false_eq_true, not_true_eq_false, reduceCtorEq] at hs_) <;> (try (exfalso; first | exact hs_ | (exact hs_ rfl) | omega))) ))
        all_goals first | (exfalso; omega) | exact ⟨rfl, ext_⟩
      · have hS := sl_1 (a := a) (b := b) ha (fun h => h.2.elim (fun h => h ha) hlt)
        rw [hS.1, hS.2.1, hS.2.2]
        clear hS hw hv ha hB
        generalize toR a = x at *
        generalize toR b = y at *
        refine calls_W (args := [.slice A m c, .slice B k d]) Try.func27 rfl 44 rfl ?_
        (repeat' (first | (refine WL_is ?_; first | refine WL_nil ?_ | refine wl_ ?_ | (refine WL_isFn ?_; refine WL_call rfl rfl rfl (a1 _ cells_) ?_; rintro _ w_ ⟨rfl, hx_⟩; have hz_ := hx_.size; refine ⟨_, rfl, ?_⟩) | (refine WL_isFn ?_; refine WL_call rfl rfl rfl (a2 _ cells_) ?_; rintro _ w_ ⟨rfl, hx_⟩; have hz_ := hx_.size; refine ⟨_, rfl, ?_⟩)) | (refine WC_is ?_; first | refine WC_seq (fun _ _ => ?_) | refine wc_ ?_) | (refine WQ_is ?_; first | refine wq_ ?_ | refine WQ_bodyCTT (Or.inl rfl) rfl rfl rfl rfl blk_ lr_ ?_ | refine WQ_bodyCTT (Or.inr rfl) rfl rfl rfl rfl blk_ lr_ ?_) | (refine Kb.mk ?_; intro b_ w_ hb_ hl_ hx_ hB_) | (refine Ks.mk ?_; intro w_ hz_ hx_ hB_) | (refine Ko.mk ?_; intro A_ c_ w_ hx_ ho_ hr_; have hz_ := hx_.size; have hq_ := own_cap ho_) | (refine Kp.mk ?_; intro A_ c_ w_ hx_ hz_ ho_ hr_ hp_; have hq_ := own_cap ho_) | (refine Kl.mk ?_; intro b_ w_ hb_ hl_ hx_ hB_ ho_) | (refine Km.mk ?_; intro b_ w_ hb_ hl_ hx_ ho_) | (refine Ke.mk ?_; intro r_ hr_) | (refine Kg.mk ?_ ?_ <;> intro hs_ <;> (try simp only [strEq_t, strEq_f, decide_eq_true_eq, decide_eq_false_iff_not, beq_iff_eq, beq_eq_false_iff_ne, bne_iff_ne, bne_eq_false_iff_eq, Bool.not_eq_true', Bool.not_eq_false', Bool.not_true, Bool.not_false, gt_iff_lt, ge_iff_le, Int.not_lt, Int.not_le, ne_eq, Bool.false_eq_true, not_true_eq_false, reduceCtorEq] at hs_) <;> (try (exfalso; first | exact hs_ | (exact hs_ rfl) | omega))) ))
        all_goals first | (exfalso; omega) | exact ⟨rfl, ext_⟩
    · rw [(rdR_f hB).1, (rdR_f hB).2] at a2
      have hS := sl_1 (a := a) (b := b) ha (fun h => hB h.1)
      rw [hS.1, hS.2.1, hS.2.2]
      clear hS hw ha hB
      generalize toR a = x at *
      refine calls_W (args := [.slice A m c, .slice B k d]) Try.func27 rfl 44 rfl ?_
      (repeat' (first | (refine WL_is ?_; first | refine WL_nil ?_ | refine wl_ ?_ | (refine WL_isFn ?_; refine WL_call rfl rfl rfl (a1 _ cells_) ?_; rintro _ w_ ⟨rfl, hx_⟩; have hz_ := hx_.size; refine ⟨_, rfl, ?_⟩) | (refine WL_isFn ?_; refine WL_call rfl rfl rfl (a2 _ cells_) ?_; rintro _ w_ ⟨rfl, hx_⟩; have hz_ := hx_.size; refine ⟨_, rfl, ?_⟩)) | (refine WC_is ?_; first | refine WC_seq (fun _ _ => ?_) | refine wc_ ?_) | (refine WQ_is ?_; first | refine wq_ ?_ | refine WQ_bodyCTT (Or.inl rfl) rfl rfl rfl rfl blk_ lr_ ?_ | refine WQ_bodyCTT (Or.inr rfl) rfl rfl rfl rfl blk_ lr_ ?_) | (refine Kb.mk ?_; intro b_ w_ hb_ hl_ hx_ hB_) | (refine Ks.mk ?_; intro w_ hz_ hx_ hB_) | (refine Ko.mk ?_; intro A_ c_ w_ hx_ ho_ hr_; have hz_ := hx_.size; have hq_ := own_cap ho_) | (refine Kp.mk ?_; intro A_ c_ w_ hx_ hz_ ho_ hr_ hp_; have hq_ := own_cap ho_) | (refine Kl.mk ?_; intro b_ w_ hb_ hl_ hx_ hB_ ho_) | (refine Km.mk ?_; intro b_ w_ hb_ hl_ hx_ ho_) | (refine Ke.mk ?_; intro r_ hr_) | (refine Kg.mk ?_ ?_ <;> intro hs_ <;> (try simp only [strEq_t, strEq_f, decide_eq_true_eq, decide_eq_false_iff_not, beq_iff_eq, beq_eq_false_iff_ne, bne_iff_ne, bne_eq_false_iff_eq, Bool.not_eq_true', Bool.not_eq_false', Bool.not_true, Bool.not_false, gt_iff_lt, ge_iff_le, Int.not_lt, Int.not_le, ne_eq, Bool.false_eq_true, not_true_eq_false, reduceCtorEq] at hs_) <;> (try (exfalso; first | exact hs_ | (exact hs_ rfl) | omega))) ))
      all_goals exact ⟨rfl, ext_⟩
  · rw [(rdR_f ha).1, (rdR_f ha).2] at a1
    by_cases hB : OkRd b
    · have hv := toR_W hB.1 hb2 hB.2.2.1
      rw [(rdR_t hB).1, (rdR_t hB).2] at a2
      have hlb := rcC_length hv
      have hob := rcC_one (toR b)
      have hS := sl_2 (a := a) (b := b) ⟨hB, .inl ha⟩
      rw [hS.1, hS.2.1, hS.2.2]
      clear hS hv ha hB
      generalize toR b = y at *
      refine calls_W (args := [.slice A m c, .slice B k d]) Try.func27 rfl 44 rfl ?_
      (repeat' (first | (refine WL_is ?_; first | refine WL_nil ?_ | refine wl_ ?_ | (refine WL_isFn ?_; refine WL_call rfl rfl rfl (a1 _ cells_) ?_; rintro _ w_ ⟨rfl, hx_⟩; have hz_ := hx_.size; refine ⟨_, rfl, ?_⟩) | (refine WL_isFn ?_; refine WL_call rfl rfl rfl (a2 _ cells_) ?_; rintro _ w_ ⟨rfl, hx_⟩; have hz_ := hx_.size; refine ⟨_, rfl, ?_⟩)) | (refine WC_is ?_; first | refine WC_seq (fun _ _ => ?_) | refine wc_ ?_) | (refine WQ_is ?_; first | refine wq_ ?_ | refine WQ_bodyCTT (Or.inl rfl) rfl rfl rfl rfl blk_ lr_ ?_ | refine WQ_bodyCTT (Or.inr rfl) rfl rfl rfl rfl blk_ lr_ ?_) | (refine Kb.mk ?_; intro b_ w_ hb_ hl_ hx_ hB_) | (refine Ks.mk ?_; intro w_ hz_ hx_ hB_) | (refine Ko.mk ?_; intro A_ c_ w_ hx_ ho_ hr_; have hz_ := hx_.size; have hq_ := own_cap ho_) | (refine Kp.mk ?_; intro A_ c_ w_ hx_ hz_ ho_ hr_ hp_; have hq_ := own_cap ho_) | (refine Kl.mk ?_; intro b_ w_ hb_ hl_ hx_ hB_ ho_) | (refine Km.mk ?_; intro b_ w_ hb_ hl_ hx_ ho_) | (refine Ke.mk ?_; intro r_ hr_) | (refine Kg.mk ?_ ?_ <;> intro hs_ <;> (try simp only [strEq_t, strEq_f, decide_eq_true_eq, decide_eq_false_iff_not, beq_iff_eq, beq_eq_false_iff_ne, bne_iff_ne, bne_eq_false_iff_eq, Bool.not_eq_true', Bool.not_eq_false', Bool.not_true, Bool.not_false, gt_iff_lt, ge_iff_le, Int.not_lt, Int.not_le, ne_eq, Bool.false_eq_true, not_true_eq_false, reduceCtorEq] at hs_) <;> (try (exfalso; first | exact hs_ | (exact hs_ rfl) | omega))) ))
      all_goals exact ⟨rfl, ext_⟩
    · rw [(rdR_f hB).1, (rdR_f hB).2] at a2
      have hS := sl_0 (a := a) (b := b) ha hB
      rw [hS.1, hS.2.1, hS.2.2]
      clear hS ha hB
      refine calls_W (args := [.slice A m c, .slice B k d]) Try.func27 rfl 44 rfl ?_
      (repeat' (first | (refine WL_is ?_; first | refine WL_nil ?_ | refine wl_ ?_ | (refine WL_isFn ?_; refine WL_call rfl rfl rfl (a1 _ cells_) ?_; rintro _ w_ ⟨rfl, hx_⟩; have hz_ := hx_.size; refine ⟨_, rfl, ?_⟩) | (refine WL_isFn ?_; refine WL_call rfl rfl rfl (a2 _ cells_) ?_; rintro _ w_ ⟨rfl, hx_⟩; have hz_ := hx_.size; refine ⟨_, rfl, ?_⟩)) | (refine WC_is ?_; first | refine WC_seq (fun _ _ => ?_) | refine wc_ ?_) | (refine WQ_is ?_; first | refine wq_ ?_ | refine WQ_bodyCTT (Or.inl rfl) rfl rfl rfl rfl blk_ lr_ ?_ | refine WQ_bodyCTT (Or.inr rfl) rfl rfl rfl rfl blk_ lr_ ?_) | (refine Kb.mk ?_; intro b_ w_ hb_ hl_ hx_ hB_) | (refine Ks.mk ?_; intro w_ hz_ hx_ hB_) | (refine Ko.mk ?_; intro A_ c_ w_ hx_ ho_ hr_; have hz_ := hx_.size; have hq_ := own_cap ho_) | (refine Kp.mk ?_; intro A_ c_ w_ hx_ hz_ ho_ hr_ hp_; have hq_ := own_cap ho_) | (refine Kl.mk ?_; intro b_ w_ hb_ hl_ hx_ hB_ ho_) | (refine Km.mk ?_; intro b_ w_ hb_ hl_ hx_ ho_) | (refine Ke.mk ?_; intro r_ hr_) | (refine Kg.mk ?_ ?_ <;> intro hs_ <;> (try simp only [strEq_t, strEq_f, decide_eq_true_eq, decide_eq_false_iff_not, beq_iff_eq, beq_eq_false_iff_ne, bne_iff_ne, bne_eq_false_iff_eq, Bool.not_eq_true', Bool.not_eq_false', Bool.not_true, Bool.not_false, gt_iff_lt, ge_iff_le, Int.not_lt, Int.not_le, ne_eq, Bool.false_eq_true, not_true_eq_false, reduceCtorEq] at hs_) <;> (try (exfalso; first | exact hs_ | (exact hs_ rfl) | omega))) ))
      all_goals exact ⟨rfl, ext_⟩
theorem ref14_Choose_calls (a b : List Int) (A B : Option Addr) (m c k d : Nat) (w : World) (hl : a.length = m) (hb : ∀ x ∈ a, 0 ≤ x ∧ x < 256) (hc : m ≤ c ∧ c ≤ 9223372036854775807) (hC : Cells w A (a.map (.int .u8))) (hl2 : b.length = k) (hb2 : ∀ x ∈ b, 0 ≤ x ∧ x < 256) (hc2 : k ≤ d ∧ d ≤ 9223372036854775807) (hD : Cells w B (b.map (.int .u8))) :
    Calls Try.prog 30 #[.slice A m c, .slice B k d] w fun e w' => e = .returned (.tuple #[.agg (rcC (slR a b)).toArray, .int .i64 (slN a b), .int .i64 (slE a b)]) ∧ Ext w w' := by
  have h0 := rcC_length RcW.zero
  have ho := rcC_one rc0
  have a1 := fun w hC => ref13_Read_calls a A m c w hl hb hc hC
  have a2 := fun w hC => ref13_Read_calls b B k d w hl2 hb2 hc2 hC
  by_cases ha : OkRd a
  · have hw := toR_W ha.1 hb ha.2.2.1
    rw [(rdR_t ha).1, (rdR_t ha).2] at a1
    have hla := rcC_length hw
    have hoa := rcC_one (toR a)
    by_cases hB : OkRd b
    · have hv := toR_W hB.1 hb2 hB.2.2.1
      rw [(rdR_t hB).1, (rdR_t hB).2] at a2
      have hlb := rcC_length hv
      have hob := rcC_one (toR b)
      by_cases hlt : (toR a).ep < (toR b).ep
      · have hS := sl_2 (a := a) (b := b) ⟨hB, .inr hlt⟩
        rw [hS.1, hS.2.1, hS.2.2]
        clear hS hw hv ha hB
        generalize toR a = x at *
        generalize toR b = y at *
        refine calls_W (args := [.slice A m c, .slice B k d]) Try.func30 rfl 45 rfl ?_
        (repeat' (first | (refine WL_is ?_; first | refine WL_nil ?_ | refine wl_ ?_ | (refine WL_isFn ?_; refine WL_call rfl rfl rfl (a1 _ cells_) ?_; rintro _ w_ ⟨rfl, hx_⟩; have hz_ := hx_.size; refine ⟨_, rfl, ?_⟩) | (refine WL_isFn ?_; refine WL_call rfl rfl rfl (a2 _ cells_) ?_; rintro _ w_ ⟨rfl, hx_⟩; have hz_ := hx_.size; refine ⟨_, rfl, ?_⟩)) | (refine WC_is ?_; first | refine WC_seq (fun _ _ => ?_) | refine wc_ ?_) | (refine WQ_is ?_; first | refine wq_ ?_ | refine WQ_bodyCTT (Or.inl rfl) rfl rfl rfl rfl blk_ lr_ ?_ | refine WQ_bodyCTT (Or.inr rfl) rfl rfl rfl rfl blk_ lr_ ?_) | (refine Kb.mk ?_; intro b_ w_ hb_ hl_ hx_ hB_) | (refine Ks.mk ?_; intro w_ hz_ hx_ hB_) | (refine Ko.mk ?_; intro A_ c_ w_ hx_ ho_ hr_; have hz_ := hx_.size; have hq_ := own_cap ho_) | (refine Kp.mk ?_; intro A_ c_ w_ hx_ hz_ ho_ hr_ hp_; have hq_ := own_cap ho_) | (refine Kl.mk ?_; intro b_ w_ hb_ hl_ hx_ hB_ ho_) | (refine Km.mk ?_; intro b_ w_ hb_ hl_ hx_ ho_) | (refine Ke.mk ?_; intro r_ hr_) | (refine Kg.mk ?_ ?_ <;> intro hs_ <;> (try simp only [strEq_t, strEq_f, decide_eq_true_eq, decide_eq_false_iff_not, beq_iff_eq, beq_eq_false_iff_ne, bne_iff_ne, bne_eq_false_iff_eq, Bool.not_eq_true', Bool.not_eq_false', Bool.not_true, Bool.not_false, gt_iff_lt, ge_iff_le, Int.not_lt, Int.not_le, ne_eq, Bool.false_eq_true, not_true_eq_false, reduceCtorEq] at hs_) <;> (try (exfalso; first | exact hs_ | (exact hs_ rfl) | omega))) ))
        all_goals first | (exfalso; omega) | exact ⟨rfl, ext_⟩
      · have hS := sl_1 (a := a) (b := b) ha (fun h => h.2.elim (fun h => h ha) hlt)
        rw [hS.1, hS.2.1, hS.2.2]
        clear hS hw hv ha hB
        generalize toR a = x at *
        generalize toR b = y at *
        refine calls_W (args := [.slice A m c, .slice B k d]) Try.func30 rfl 45 rfl ?_
        (repeat' (first | (refine WL_is ?_; first | refine WL_nil ?_ | refine wl_ ?_ | (refine WL_isFn ?_; refine WL_call rfl rfl rfl (a1 _ cells_) ?_; rintro _ w_ ⟨rfl, hx_⟩; have hz_ := hx_.size; refine ⟨_, rfl, ?_⟩) | (refine WL_isFn ?_; refine WL_call rfl rfl rfl (a2 _ cells_) ?_; rintro _ w_ ⟨rfl, hx_⟩; have hz_ := hx_.size; refine ⟨_, rfl, ?_⟩)) | (refine WC_is ?_; first | refine WC_seq (fun _ _ => ?_) | refine wc_ ?_) | (refine WQ_is ?_; first | refine wq_ ?_ | refine WQ_bodyCTT (Or.inl rfl) rfl rfl rfl rfl blk_ lr_ ?_ | refine WQ_bodyCTT (Or.inr rfl) rfl rfl rfl rfl blk_ lr_ ?_) | (refine Kb.mk ?_; intro b_ w_ hb_ hl_ hx_ hB_) | (refine Ks.mk ?_; intro w_ hz_ hx_ hB_) | (refine Ko.mk ?_; intro A_ c_ w_ hx_ ho_ hr_; have hz_ := hx_.size; have hq_ := own_cap ho_) | (refine Kp.mk ?_; intro A_ c_ w_ hx_ hz_ ho_ hr_ hp_; have hq_ := own_cap ho_) | (refine Kl.mk ?_; intro b_ w_ hb_ hl_ hx_ hB_ ho_) | (refine Km.mk ?_; intro b_ w_ hb_ hl_ hx_ ho_) | (refine Ke.mk ?_; intro r_ hr_) | (refine Kg.mk ?_ ?_ <;> intro hs_ <;> (try simp only [strEq_t, strEq_f, decide_eq_true_eq, decide_eq_false_iff_not, beq_iff_eq, beq_eq_false_iff_ne, bne_iff_ne, bne_eq_false_iff_eq, Bool.not_eq_true', Bool.not_eq_false', Bool.not_true, Bool.not_false, gt_iff_lt, ge_iff_le, Int.not_lt, Int.not_le, ne_eq, Bool.false_eq_true, not_true_eq_false, reduceCtorEq] at hs_) <;> (try (exfalso; first | exact hs_ | (exact hs_ rfl) | omega))) ))
        all_goals first | (exfalso; omega) | exact ⟨rfl, ext_⟩
    · rw [(rdR_f hB).1, (rdR_f hB).2] at a2
      have hS := sl_1 (a := a) (b := b) ha (fun h => hB h.1)
      rw [hS.1, hS.2.1, hS.2.2]
      clear hS hw ha hB
      generalize toR a = x at *
      refine calls_W (args := [.slice A m c, .slice B k d]) Try.func30 rfl 45 rfl ?_
      (repeat' (first | (refine WL_is ?_; first | refine WL_nil ?_ | refine wl_ ?_ | (refine WL_isFn ?_; refine WL_call rfl rfl rfl (a1 _ cells_) ?_; rintro _ w_ ⟨rfl, hx_⟩; have hz_ := hx_.size; refine ⟨_, rfl, ?_⟩) | (refine WL_isFn ?_; refine WL_call rfl rfl rfl (a2 _ cells_) ?_; rintro _ w_ ⟨rfl, hx_⟩; have hz_ := hx_.size; refine ⟨_, rfl, ?_⟩)) | (refine WC_is ?_; first | refine WC_seq (fun _ _ => ?_) | refine wc_ ?_) | (refine WQ_is ?_; first | refine wq_ ?_ | refine WQ_bodyCTT (Or.inl rfl) rfl rfl rfl rfl blk_ lr_ ?_ | refine WQ_bodyCTT (Or.inr rfl) rfl rfl rfl rfl blk_ lr_ ?_) | (refine Kb.mk ?_; intro b_ w_ hb_ hl_ hx_ hB_) | (refine Ks.mk ?_; intro w_ hz_ hx_ hB_) | (refine Ko.mk ?_; intro A_ c_ w_ hx_ ho_ hr_; have hz_ := hx_.size; have hq_ := own_cap ho_) | (refine Kp.mk ?_; intro A_ c_ w_ hx_ hz_ ho_ hr_ hp_; have hq_ := own_cap ho_) | (refine Kl.mk ?_; intro b_ w_ hb_ hl_ hx_ hB_ ho_) | (refine Km.mk ?_; intro b_ w_ hb_ hl_ hx_ ho_) | (refine Ke.mk ?_; intro r_ hr_) | (refine Kg.mk ?_ ?_ <;> intro hs_ <;> (try simp only [strEq_t, strEq_f, decide_eq_true_eq, decide_eq_false_iff_not, beq_iff_eq, beq_eq_false_iff_ne, bne_iff_ne, bne_eq_false_iff_eq, Bool.not_eq_true', Bool.not_eq_false', Bool.not_true, Bool.not_false, gt_iff_lt, ge_iff_le, Int.not_lt, Int.not_le, ne_eq, Bool.false_eq_true, not_true_eq_false, reduceCtorEq] at hs_) <;> (try (exfalso; first | exact hs_ | (exact hs_ rfl) | omega))) ))
      all_goals exact ⟨rfl, ext_⟩
  · rw [(rdR_f ha).1, (rdR_f ha).2] at a1
    by_cases hB : OkRd b
    · have hv := toR_W hB.1 hb2 hB.2.2.1
      rw [(rdR_t hB).1, (rdR_t hB).2] at a2
      have hlb := rcC_length hv
      have hob := rcC_one (toR b)
      have hS := sl_2 (a := a) (b := b) ⟨hB, .inl ha⟩
      rw [hS.1, hS.2.1, hS.2.2]
      clear hS hv ha hB
      generalize toR b = y at *
      refine calls_W (args := [.slice A m c, .slice B k d]) Try.func30 rfl 45 rfl ?_
      (repeat' (first | (refine WL_is ?_; first | refine WL_nil ?_ | refine wl_ ?_ | (refine WL_isFn ?_; refine WL_call rfl rfl rfl (a1 _ cells_) ?_; rintro _ w_ ⟨rfl, hx_⟩; have hz_ := hx_.size; refine ⟨_, rfl, ?_⟩) | (refine WL_isFn ?_; refine WL_call rfl rfl rfl (a2 _ cells_) ?_; rintro _ w_ ⟨rfl, hx_⟩; have hz_ := hx_.size; refine ⟨_, rfl, ?_⟩)) | (refine WC_is ?_; first | refine WC_seq (fun _ _ => ?_) | refine wc_ ?_) | (refine WQ_is ?_; first | refine wq_ ?_ | refine WQ_bodyCTT (Or.inl rfl) rfl rfl rfl rfl blk_ lr_ ?_ | refine WQ_bodyCTT (Or.inr rfl) rfl rfl rfl rfl blk_ lr_ ?_) | (refine Kb.mk ?_; intro b_ w_ hb_ hl_ hx_ hB_) | (refine Ks.mk ?_; intro w_ hz_ hx_ hB_) | (refine Ko.mk ?_; intro A_ c_ w_ hx_ ho_ hr_; have hz_ := hx_.size; have hq_ := own_cap ho_) | (refine Kp.mk ?_; intro A_ c_ w_ hx_ hz_ ho_ hr_ hp_; have hq_ := own_cap ho_) | (refine Kl.mk ?_; intro b_ w_ hb_ hl_ hx_ hB_ ho_) | (refine Km.mk ?_; intro b_ w_ hb_ hl_ hx_ ho_) | (refine Ke.mk ?_; intro r_ hr_) | (refine Kg.mk ?_ ?_ <;> intro hs_ <;> (try simp only [strEq_t, strEq_f, decide_eq_true_eq, decide_eq_false_iff_not, beq_iff_eq, beq_eq_false_iff_ne, bne_iff_ne, bne_eq_false_iff_eq, Bool.not_eq_true', Bool.not_eq_false', Bool.not_true, Bool.not_false, gt_iff_lt, ge_iff_le, Int.not_lt, Int.not_le, ne_eq, Bool.false_eq_true, not_true_eq_false, reduceCtorEq] at hs_) <;> (try (exfalso; first | exact hs_ | (exact hs_ rfl) | omega))) ))
      all_goals exact ⟨rfl, ext_⟩
    · rw [(rdR_f hB).1, (rdR_f hB).2] at a2
      have hS := sl_0 (a := a) (b := b) ha hB
      rw [hS.1, hS.2.1, hS.2.2]
      clear hS ha hB
      refine calls_W (args := [.slice A m c, .slice B k d]) Try.func30 rfl 45 rfl ?_
      (repeat' (first | (refine WL_is ?_; first | refine WL_nil ?_ | refine wl_ ?_ | (refine WL_isFn ?_; refine WL_call rfl rfl rfl (a1 _ cells_) ?_; rintro _ w_ ⟨rfl, hx_⟩; have hz_ := hx_.size; refine ⟨_, rfl, ?_⟩) | (refine WL_isFn ?_; refine WL_call rfl rfl rfl (a2 _ cells_) ?_; rintro _ w_ ⟨rfl, hx_⟩; have hz_ := hx_.size; refine ⟨_, rfl, ?_⟩)) | (refine WC_is ?_; first | refine WC_seq (fun _ _ => ?_) | refine wc_ ?_) | (refine WQ_is ?_; first | refine wq_ ?_ | refine WQ_bodyCTT (Or.inl rfl) rfl rfl rfl rfl blk_ lr_ ?_ | refine WQ_bodyCTT (Or.inr rfl) rfl rfl rfl rfl blk_ lr_ ?_) | (refine Kb.mk ?_; intro b_ w_ hb_ hl_ hx_ hB_) | (refine Ks.mk ?_; intro w_ hz_ hx_ hB_) | (refine Ko.mk ?_; intro A_ c_ w_ hx_ ho_ hr_; have hz_ := hx_.size; have hq_ := own_cap ho_) | (refine Kp.mk ?_; intro A_ c_ w_ hx_ hz_ ho_ hr_ hp_; have hq_ := own_cap ho_) | (refine Kl.mk ?_; intro b_ w_ hb_ hl_ hx_ hB_ ho_) | (refine Km.mk ?_; intro b_ w_ hb_ hl_ hx_ ho_) | (refine Ke.mk ?_; intro r_ hr_) | (refine Kg.mk ?_ ?_ <;> intro hs_ <;> (try simp only [strEq_t, strEq_f, decide_eq_true_eq, decide_eq_false_iff_not, beq_iff_eq, beq_eq_false_iff_ne, bne_iff_ne, bne_eq_false_iff_eq, Bool.not_eq_true', Bool.not_eq_false', Bool.not_true, Bool.not_false, gt_iff_lt, ge_iff_le, Int.not_lt, Int.not_le, ne_eq, Bool.false_eq_true, not_true_eq_false, reduceCtorEq] at hs_) <;> (try (exfalso; first | exact hs_ | (exact hs_ rfl) | omega))) ))
      all_goals exact ⟨rfl, ext_⟩
end Go.Proofs.Ytejdjpjaahfnaaa.K
