/- Chapter 14 (slot): the commands that end a turn; both. Commands that are known. Seat-free. -/
import Derived.Test.YtejdjpjaahfnaaaU4
set_option linter.unusedVariables false
set_option linter.unusedSimpArgs false
set_option maxHeartbeats 4000000
set_option maxRecDepth 20000
namespace Go.Proofs.Ytejdjpjaahfnaaa.K
open Go.RowKit
attribute [local irreducible] strEq strOfNums Calls WL WC WQ WX Code.wp wpList bodyPost
theorem tu_open {w : World} {zs : List Cv} {X : List Int} {n : Int} (hl : X.length = 128) (h : MC w zs (tuL X n)) : ∃ B1 c1 B2 c2 B3 c3 B4 c4, zs = [⟨5, 1 - n, B1, 128, c1⟩, ⟨4, 0, B3, 0, c3⟩, ⟨5, n, B2, 128, c2⟩, ⟨4, 0, B4, 0, c4⟩] ∧ (128 ≤ c1 ∧ c1 ≤ 9223372036854775807) ∧ (128 ≤ c2 ∧ c2 ≤ 9223372036854775807) ∧ Cells w B1 (X.map (.int .u8)) ∧ Cells w B2 (z128.map (.int .u8)) ∧ c3 ≤ 9223372036854775807 ∧ c4 ≤ 9223372036854775807 := by
  match zs, h with
  | [⟨k0, n0, B0, m0, c0⟩, ⟨k1, n1, B1, m1, c1⟩, ⟨k2, n2, B2, m2, c2⟩, ⟨k3, n3, B3, m3, c3⟩], ⟨⟨h1, h2, h3, h4, h5⟩, ⟨g1, g2, g3, g4, g5⟩, ⟨f1, f2, f3, f4, f5⟩, ⟨e1, e2, e3, e4, e5⟩, _⟩ =>
    dsimp only at *
    rw [hl] at h3
    subst h1; subst h2; subst h3; subst g1; subst g2; subst g3; subst f1; subst f2; subst f3; subst e1; subst e2; subst e3
    exact ⟨B0, c0, B2, c2, B1, c1, B3, c3, rfl, h4, f4, h5, f5, g4.2, e4.2⟩
theorem er_open {w : World} {zs : List Cv} {n : Int} (h : MC w zs (erL n)) : ∃ B2 c2 B4 c4, zs = [⟨5, n, B2, 128, c2⟩, ⟨4, 0, B4, 0, c4⟩] ∧ (128 ≤ c2 ∧ c2 ≤ 9223372036854775807) ∧ Cells w B2 (z128.map (.int .u8)) ∧ c4 ≤ 9223372036854775807 := by
  match zs, h with
  | [⟨k2, n2, B2, m2, c2⟩, ⟨k3, n3, B3, m3, c3⟩], ⟨⟨f1, f2, f3, f4, f5⟩, ⟨e1, e2, e3, e4, e5⟩, _⟩ =>
    dsimp only at *
    subst f1; subst f2; subst f3; subst e1; subst e2; subst e3
    exact ⟨B2, c2, B3, c3, rfl, f4, f5, e4.2⟩
theorem slot_TurnT_calls (r : Rc) (n : Int) (w : World) (hr : RcW r) (hn : n = 0 ∨ n = 1) (hO : OkR r) :
    Calls Try.prog 25 #[.agg (rcC r).toArray, .int .i64 n] w fun e w' => ∃ A c B1 c1 B2 c2 B3 c3 B4 c4, e = .returned (.tuple #[.slice A 4 c, .int .i64 0]) ∧ Cells w' A [.int .i64 5, .int .i64 (1 - n), .slice B1 128 c1, .int .i64 4, .int .i64 0, .slice B3 0 c3, .int .i64 5, .int .i64 n, .slice B2 128 c2, .int .i64 4, .int .i64 0, .slice B4 0 c4] ∧
      ((4 ≤ c ∧ c ≤ 9223372036854775807) ∧ (128 ≤ c1 ∧ c1 ≤ 9223372036854775807) ∧ (128 ≤ c2 ∧ c2 ≤ 9223372036854775807) ∧ c3 ≤ 9223372036854775807 ∧ c4 ≤ 9223372036854775807) ∧ Cells w' B1 ((wrA r).map (.int .u8)) ∧ Cells w' B2 (z128.map (.int .u8)) ∧ Ext w w' := by
  refine (slot_Turn_calls r n w hr).mono fun e w' h => ?_
  obtain ⟨A, c, zs, rfl, h1, h2, h3, h4⟩ := h
  rw [(tu_t ⟨hn, hO⟩).1] at h2
  rw [(tu_t ⟨hn, hO⟩).2]
  obtain ⟨B1, c1, B2, c2, B3, c3, B4, c4, rfl, k1, k2, k3, k4, k5, k6⟩ := tu_open (wrA_length hr) h2
  exact ⟨A, c, B1, c1, B2, c2, B3, c3, B4, c4, rfl, h1, ⟨h3, k1, k2, k5, k6⟩, k3, k4, h4⟩
theorem slot_TurnF_calls (r : Rc) (n : Int) (w : World) (hr : RcW r) (h : ¬ ((n = 0 ∨ n = 1) ∧ OkR r)) :
    Calls Try.prog 25 #[.agg (rcC r).toArray, .int .i64 n] w fun e w' => ∃ A c, e = .returned (.tuple #[.slice A 0 c, .int .i64 130]) ∧ Ext w w' := by
  refine (slot_Turn_calls r n w hr).mono fun e w' h1 => ?_
  obtain ⟨A, c, zs, rfl, h1, h2, h3, h4⟩ := h1
  rw [(tu_f h).1] at h2
  rw [(tu_f h).2]
  match zs, h2 with
  | [], _ => exact ⟨A, c, rfl, h4⟩
/-- The sector that does not hold. -/
def cloO (a b : List Int) : List Int := if Sec a b then a else b
def cloS (a b : List Int) : List Cm := if slE a b = 0 ∧ erased (cloO a b) = false then erL (1 - slN a b) else []
instance : TZc Try.prog 44 [.slice none 0 0, .slice none 0 0] := ⟨by kernel_rfl⟩
theorem slot_Close_calls (a b : List Int) (A B : Option Addr) (m c k d : Nat) (w : World) (hl : a.length = m) (hb : ∀ x ∈ a, 0 ≤ x ∧ x < 256) (hc : m ≤ c ∧ c ≤ 9223372036854775807) (hC : Cells w A (a.map (.int .u8))) (hl2 : b.length = k) (hb2 : ∀ x ∈ b, 0 ≤ x ∧ x < 256) (hc2 : k ≤ d ∧ d ≤ 9223372036854775807) (hD : Cells w B (b.map (.int .u8))) :
    Calls Try.prog 29 #[.slice A m c, .slice B k d] w fun e w' => ∃ A c zs, e = .returned (.slice A zs.length c) ∧ Cells w' A (catC cvC zs) ∧ MC w' zs (cloS a b) ∧ (zs.length ≤ c ∧ c ≤ 9223372036854775807) ∧ Ext w w' := by
  have h0 := rcC_length RcW.zero
  have ho := rcC_one rc0
  have a1 := fun w hC hD => slot_Choose_calls a b A B m c k d w hl hb hc hC hl2 hb2 hc2 hD
  have hR := rcC_length (slR_W hb hb2)
  have hRo := rcC_one (slR a b)
  have a2 := fun w hC => root_Erased_calls a A m c w hl hC _ rfl
  have a3 := fun w hC => root_Erased_calls b B k d w hl2 hC _ rfl
  unfold cloS cloO
  by_cases hE : slE a b = 0
  · by_cases hS : Sec a b
    · have hN : slN a b = 1 := if_pos hS
      rw [if_pos hS]
      generalize slR a b = R at *
      rw [hE, hN] at a1 ⊢
      cases he : erased a with
      | true =>
        rw [he] at a2
        rw [if_neg (by simp)]
        refine calls_W (args := [.slice A m c, .slice B k d]) Try.func29 rfl 29 rfl ?_
        (repeat' (first | (refine WL_is ?_; first | refine WL_nil ?_ | (refine WL_buildA2 rfl rfl rfl rfl ?_) | (refine WL_index rfl rfl rfl rfl rfl (by decide) rfl ?_) | refine wl_ ?_ | (refine WL_isFn ?_; refine WL_call rfl rfl rfl (a1 _ cells_ cells_) ?_; rintro _ w_ ⟨rfl, hx_⟩; have hz_ := hx_.size; refine ⟨_, rfl, ?_⟩) | (refine WL_isFn ?_; refine WL_call rfl rfl rfl (a2 _ cells_) ?_; rintro _ w_ ⟨rfl, hx_⟩; have hz_ := hx_.size; refine ⟨_, rfl, ?_⟩) | (refine WL_isFn ?_; refine WL_call rfl rfl rfl (slot_erases_calls _ om_ _) ?_; rintro _ w_ ⟨A_, c_, B_, rfl, ho_, hd_, hx_⟩; have hz_ := hx_.size; have hr_ := own_rd ho_; have hq_ := own_cap ho_; refine ⟨_, rfl, ?_⟩)) | (refine WC_is ?_; first | refine WC_seq (fun _ _ => ?_) | refine wc_ ?_) | (refine WQ_is ?_; first | refine wq_ ?_ | refine WQ_bodyCTT (Or.inl rfl) rfl rfl rfl rfl blk_ lr_ ?_ | refine WQ_bodyCTT (Or.inr rfl) rfl rfl rfl rfl blk_ lr_ ?_) | (refine Kb.mk ?_; intro b_ w_ hb_ hl_ hx_ hB_) | (refine Ks.mk ?_; intro w_ hz_ hx_ hB_) | (refine Ko.mk ?_; intro A_ c_ w_ hx_ ho_ hr_; have hz_ := hx_.size; have hq_ := own_cap ho_) | (refine Kp.mk ?_; intro A_ c_ w_ hx_ hz_ ho_ hr_ hp_; have hq_ := own_cap ho_) | (refine Kl.mk ?_; intro b_ w_ hb_ hl_ hx_ hB_ ho_) | (refine Km.mk ?_; intro b_ w_ hb_ hl_ hx_ ho_) | (refine Ke.mk ?_; intro r_ hr_) | (refine Kg.mk ?_ ?_ <;> intro hs_ <;> (try simp only [strEq_t, strEq_f, decide_eq_true_eq, decide_eq_false_iff_not, beq_iff_eq, beq_eq_false_iff_ne, bne_iff_ne, bne_eq_false_iff_eq, Bool.not_eq_true', Bool.not_eq_false', Bool.not_true, Bool.not_false, gt_iff_lt, ge_iff_le, Int.not_lt, Int.not_le, ne_eq, Bool.false_eq_true, not_true_eq_false, reduceCtorEq] at hs_) <;> (try (exfalso; first | exact hs_ | (exact hs_ rfl) | omega))) ))
        all_goals exact ⟨_, _, [], rfl, Cells.nil _ _, trivial, by simp, ext_⟩
      | false =>
        rw [he] at a2
        rw [if_pos ⟨rfl, rfl⟩]
        unfold erL
        refine calls_W (args := [.slice A m c, .slice B k d]) Try.func29 rfl 29 rfl ?_
        (repeat' (first | (refine WL_is ?_; first | refine WL_nil ?_ | (refine WL_buildA2 rfl rfl rfl rfl ?_) | (refine WL_index rfl rfl rfl rfl rfl (by decide) rfl ?_) | refine wl_ ?_ | (refine WL_isFn ?_; refine WL_call rfl rfl rfl (a1 _ cells_ cells_) ?_; rintro _ w_ ⟨rfl, hx_⟩; have hz_ := hx_.size; refine ⟨_, rfl, ?_⟩) | (refine WL_isFn ?_; refine WL_call rfl rfl rfl (a2 _ cells_) ?_; rintro _ w_ ⟨rfl, hx_⟩; have hz_ := hx_.size; refine ⟨_, rfl, ?_⟩) | (refine WL_isFn ?_; refine WL_call rfl rfl rfl (slot_erases_calls _ om_ _) ?_; rintro _ w_ ⟨A_, c_, B_, rfl, ho_, hd_, hx_⟩; have hz_ := hx_.size; have hr_ := own_rd ho_; have hq_ := own_cap ho_; refine ⟨_, rfl, ?_⟩)) | (refine WC_is ?_; first | refine WC_seq (fun _ _ => ?_) | refine wc_ ?_) | (refine WQ_is ?_; first | refine wq_ ?_ | refine WQ_bodyCTT (Or.inl rfl) rfl rfl rfl rfl blk_ lr_ ?_ | refine WQ_bodyCTT (Or.inr rfl) rfl rfl rfl rfl blk_ lr_ ?_) | (refine Kb.mk ?_; intro b_ w_ hb_ hl_ hx_ hB_) | (refine Ks.mk ?_; intro w_ hz_ hx_ hB_) | (refine Ko.mk ?_; intro A_ c_ w_ hx_ ho_ hr_; have hz_ := hx_.size; have hq_ := own_cap ho_) | (refine Kp.mk ?_; intro A_ c_ w_ hx_ hz_ ho_ hr_ hp_; have hq_ := own_cap ho_) | (refine Kl.mk ?_; intro b_ w_ hb_ hl_ hx_ hB_ ho_) | (refine Km.mk ?_; intro b_ w_ hb_ hl_ hx_ ho_) | (refine Ke.mk ?_; intro r_ hr_) | (refine Kg.mk ?_ ?_ <;> intro hs_ <;> (try simp only [strEq_t, strEq_f, decide_eq_true_eq, decide_eq_false_iff_not, beq_iff_eq, beq_eq_false_iff_ne, bne_iff_ne, bne_eq_false_iff_eq, Bool.not_eq_true', Bool.not_eq_false', Bool.not_true, Bool.not_false, gt_iff_lt, ge_iff_le, Int.not_lt, Int.not_le, ne_eq, Bool.false_eq_true, not_true_eq_false, reduceCtorEq] at hs_) <;> (try (exfalso; first | exact hs_ | (exact hs_ rfl) | omega))) ))
        all_goals exact ⟨_, _, [⟨5, 0, _, 128, 128⟩, ⟨4, 0, none, 0, 0⟩], rfl, hr_, ⟨⟨rfl, rfl, z128_length, by simp, cells_⟩, ⟨rfl, rfl, rfl, by simp, Cells.nil _ _⟩, trivial⟩, hq_, ext_⟩
    · have hN : slN a b = 0 := if_neg hS
      rw [if_neg hS]
      generalize slR a b = R at *
      rw [hE, hN] at a1 ⊢
      cases he : erased b with
      | true =>
        rw [he] at a3
        rw [if_neg (by simp)]
        refine calls_W (args := [.slice A m c, .slice B k d]) Try.func29 rfl 29 rfl ?_
        (repeat' (first | (refine WL_is ?_; first | refine WL_nil ?_ | (refine WL_buildA2 rfl rfl rfl rfl ?_) | (refine WL_index rfl rfl rfl rfl rfl (by decide) rfl ?_) | refine wl_ ?_ | (refine WL_isFn ?_; refine WL_call rfl rfl rfl (a1 _ cells_ cells_) ?_; rintro _ w_ ⟨rfl, hx_⟩; have hz_ := hx_.size; refine ⟨_, rfl, ?_⟩) | (refine WL_isFn ?_; refine WL_call rfl rfl rfl (a3 _ cells_) ?_; rintro _ w_ ⟨rfl, hx_⟩; have hz_ := hx_.size; refine ⟨_, rfl, ?_⟩) | (refine WL_isFn ?_; refine WL_call rfl rfl rfl (slot_erases_calls _ om_ _) ?_; rintro _ w_ ⟨A_, c_, B_, rfl, ho_, hd_, hx_⟩; have hz_ := hx_.size; have hr_ := own_rd ho_; have hq_ := own_cap ho_; refine ⟨_, rfl, ?_⟩)) | (refine WC_is ?_; first | refine WC_seq (fun _ _ => ?_) | refine wc_ ?_) | (refine WQ_is ?_; first | refine wq_ ?_ | refine WQ_bodyCTT (Or.inl rfl) rfl rfl rfl rfl blk_ lr_ ?_ | refine WQ_bodyCTT (Or.inr rfl) rfl rfl rfl rfl blk_ lr_ ?_) | (refine Kb.mk ?_; intro b_ w_ hb_ hl_ hx_ hB_) | (refine Ks.mk ?_; intro w_ hz_ hx_ hB_) | (refine Ko.mk ?_; intro A_ c_ w_ hx_ ho_ hr_; have hz_ := hx_.size; have hq_ := own_cap ho_) | (refine Kp.mk ?_; intro A_ c_ w_ hx_ hz_ ho_ hr_ hp_; have hq_ := own_cap ho_) | (refine Kl.mk ?_; intro b_ w_ hb_ hl_ hx_ hB_ ho_) | (refine Km.mk ?_; intro b_ w_ hb_ hl_ hx_ ho_) | (refine Ke.mk ?_; intro r_ hr_) | (refine Kg.mk ?_ ?_ <;> intro hs_ <;> (try simp only [strEq_t, strEq_f, decide_eq_true_eq, decide_eq_false_iff_not, beq_iff_eq, beq_eq_false_iff_ne, bne_iff_ne, bne_eq_false_iff_eq, Bool.not_eq_true', Bool.not_eq_false', Bool.not_true, Bool.not_false, gt_iff_lt, ge_iff_le, Int.not_lt, Int.not_le, ne_eq, Bool.false_eq_true, not_true_eq_false, reduceCtorEq] at hs_) <;> (try (exfalso; first | exact hs_ | (exact hs_ rfl) | omega))) ))
        all_goals exact ⟨_, _, [], rfl, Cells.nil _ _, trivial, by simp, ext_⟩
      | false =>
        rw [he] at a3
        rw [if_pos ⟨rfl, rfl⟩]
        unfold erL
        refine calls_W (args := [.slice A m c, .slice B k d]) Try.func29 rfl 29 rfl ?_
        (repeat' (first | (refine WL_is ?_; first | refine WL_nil ?_ | (refine WL_buildA2 rfl rfl rfl rfl ?_) | (refine WL_index rfl rfl rfl rfl rfl (by decide) rfl ?_) | refine wl_ ?_ | (refine WL_isFn ?_; refine WL_call rfl rfl rfl (a1 _ cells_ cells_) ?_; rintro _ w_ ⟨rfl, hx_⟩; have hz_ := hx_.size; refine ⟨_, rfl, ?_⟩) | (refine WL_isFn ?_; refine WL_call rfl rfl rfl (a3 _ cells_) ?_; rintro _ w_ ⟨rfl, hx_⟩; have hz_ := hx_.size; refine ⟨_, rfl, ?_⟩) | (refine WL_isFn ?_; refine WL_call rfl rfl rfl (slot_erases_calls _ om_ _) ?_; rintro _ w_ ⟨A_, c_, B_, rfl, ho_, hd_, hx_⟩; have hz_ := hx_.size; have hr_ := own_rd ho_; have hq_ := own_cap ho_; refine ⟨_, rfl, ?_⟩)) | (refine WC_is ?_; first | refine WC_seq (fun _ _ => ?_) | refine wc_ ?_) | (refine WQ_is ?_; first | refine wq_ ?_ | refine WQ_bodyCTT (Or.inl rfl) rfl rfl rfl rfl blk_ lr_ ?_ | refine WQ_bodyCTT (Or.inr rfl) rfl rfl rfl rfl blk_ lr_ ?_) | (refine Kb.mk ?_; intro b_ w_ hb_ hl_ hx_ hB_) | (refine Ks.mk ?_; intro w_ hz_ hx_ hB_) | (refine Ko.mk ?_; intro A_ c_ w_ hx_ ho_ hr_; have hz_ := hx_.size; have hq_ := own_cap ho_) | (refine Kp.mk ?_; intro A_ c_ w_ hx_ hz_ ho_ hr_ hp_; have hq_ := own_cap ho_) | (refine Kl.mk ?_; intro b_ w_ hb_ hl_ hx_ hB_ ho_) | (refine Km.mk ?_; intro b_ w_ hb_ hl_ hx_ ho_) | (refine Ke.mk ?_; intro r_ hr_) | (refine Kg.mk ?_ ?_ <;> intro hs_ <;> (try simp only [strEq_t, strEq_f, decide_eq_true_eq, decide_eq_false_iff_not, beq_iff_eq, beq_eq_false_iff_ne, bne_iff_ne, bne_eq_false_iff_eq, Bool.not_eq_true', Bool.not_eq_false', Bool.not_true, Bool.not_false, gt_iff_lt, ge_iff_le, Int.not_lt, Int.not_le, ne_eq, Bool.false_eq_true, not_true_eq_false, reduceCtorEq] at hs_) <;> (try (exfalso; first | exact hs_ | (exact hs_ rfl) | omega))) ))
        all_goals exact ⟨_, _, [⟨5, 1, _, 128, 128⟩, ⟨4, 0, none, 0, 0⟩], rfl, hr_, ⟨⟨rfl, rfl, z128_length, by simp, cells_⟩, ⟨rfl, rfl, rfl, by simp, Cells.nil _ _⟩, trivial⟩, hq_, ext_⟩
  · have hE2 : slE a b = 140 := by unfold slE at hE ⊢; split <;> simp_all
    rw [if_neg (fun h => hE h.1)]
    have hN : slN a b = 0 ∨ slN a b = 1 := by unfold slN; split <;> simp
    generalize slR a b = R at *
    generalize slN a b = N at *
    rw [hE2] at a1
    refine calls_W (args := [.slice A m c, .slice B k d]) Try.func29 rfl 29 rfl ?_
    (repeat' (first | (refine WL_is ?_; first | refine WL_nil ?_ | (refine WL_buildA2 rfl rfl rfl rfl ?_) | (refine WL_index rfl rfl rfl rfl rfl (by decide) rfl ?_) | refine wl_ ?_ | (refine WL_isFn ?_; refine WL_call rfl rfl rfl (a1 _ cells_ cells_) ?_; rintro _ w_ ⟨rfl, hx_⟩; have hz_ := hx_.size; refine ⟨_, rfl, ?_⟩)) | (refine WC_is ?_; first | refine WC_seq (fun _ _ => ?_) | refine wc_ ?_) | (refine WQ_is ?_; first | refine wq_ ?_ | refine WQ_bodyCTT (Or.inl rfl) rfl rfl rfl rfl blk_ lr_ ?_ | refine WQ_bodyCTT (Or.inr rfl) rfl rfl rfl rfl blk_ lr_ ?_) | (refine Kb.mk ?_; intro b_ w_ hb_ hl_ hx_ hB_) | (refine Ks.mk ?_; intro w_ hz_ hx_ hB_) | (refine Ko.mk ?_; intro A_ c_ w_ hx_ ho_ hr_; have hz_ := hx_.size; have hq_ := own_cap ho_) | (refine Kp.mk ?_; intro A_ c_ w_ hx_ hz_ ho_ hr_ hp_; have hq_ := own_cap ho_) | (refine Kl.mk ?_; intro b_ w_ hb_ hl_ hx_ hB_ ho_) | (refine Km.mk ?_; intro b_ w_ hb_ hl_ hx_ ho_) | (refine Ke.mk ?_; intro r_ hr_) | (refine Kg.mk ?_ ?_ <;> intro hs_ <;> (try simp only [strEq_t, strEq_f, decide_eq_true_eq, decide_eq_false_iff_not, beq_iff_eq, beq_eq_false_iff_ne, bne_iff_ne, bne_eq_false_iff_eq, Bool.not_eq_true', Bool.not_eq_false', Bool.not_true, Bool.not_false, gt_iff_lt, ge_iff_le, Int.not_lt, Int.not_le, ne_eq, Bool.false_eq_true, not_true_eq_false, reduceCtorEq] at hs_) <;> (try (exfalso; first | exact hs_ | (exact hs_ rfl) | omega))) ))
    all_goals first | exact ⟨_, _, [], rfl, Cells.nil _ _, trivial, by simp, ext_⟩
theorem ref14_Close_calls (a b : List Int) (A B : Option Addr) (m c k d : Nat) (w : World) (hl : a.length = m) (hb : ∀ x ∈ a, 0 ≤ x ∧ x < 256) (hc : m ≤ c ∧ c ≤ 9223372036854775807) (hC : Cells w A (a.map (.int .u8))) (hl2 : b.length = k) (hb2 : ∀ x ∈ b, 0 ≤ x ∧ x < 256) (hc2 : k ≤ d ∧ d ≤ 9223372036854775807) (hD : Cells w B (b.map (.int .u8))) :
    Calls Try.prog 33 #[.slice A m c, .slice B k d] w fun e w' => ∃ A c zs, e = .returned (.slice A zs.length c) ∧ Cells w' A (catC cvC zs) ∧ MC w' zs (cloS a b) ∧ (zs.length ≤ c ∧ c ≤ 9223372036854775807) ∧ Ext w w' := by
  have h0 := rcC_length RcW.zero
  have ho := rcC_one rc0
  have a1 := fun w hC hD => ref14_Choose_calls a b A B m c k d w hl hb hc hC hl2 hb2 hc2 hD
  have hR := rcC_length (slR_W hb hb2)
  have hRo := rcC_one (slR a b)
  have a2 := fun w hC => ref13_Erased_calls a A m c w hl hb hC _ rfl
  have a3 := fun w hC => ref13_Erased_calls b B k d w hl2 hb2 hC _ rfl
  obtain ⟨Z, hZ⟩ : ∃ Z, z128 = Z := ⟨_, rfl⟩
  have hZl : Z.length = 128 := by rw [← hZ]; rfl
  unfold cloS cloO
  by_cases hE : slE a b = 0
  · by_cases hS : Sec a b
    · have hN : slN a b = 1 := if_pos hS
      rw [if_pos hS]
      generalize slR a b = R at *
      rw [hE, hN] at a1 ⊢
      cases he : erased a with
      | true =>
        rw [he] at a2
        rw [if_neg (by simp)]
        refine calls_W (args := [.slice A m c, .slice B k d]) Try.func33 rfl 32 rfl ?_
        (repeat' (first | (refine WL_is ?_; first | refine WL_nil ?_ | (refine WL_makeI 128 hZ rfl rfl rfl rfl rfl rfl (by decide) (by decide) ?_; intro b_ w_ hb_ hl_ hx_ ho_ hr_) | (refine WL_isLit ?_; refine WL_litA rfl rfl rfl rfl rfl rfl rfl rfl ?_; intro b_ w_ hb_ hl_ hx_ hB_ ho_ hr_) | (refine WL_buildA2 rfl rfl rfl rfl ?_) | (refine WL_index rfl rfl rfl rfl rfl (by decide) rfl ?_) | refine wl_ ?_ | (refine WL_isFn ?_; refine WL_call rfl rfl rfl (a1 _ cells_ cells_) ?_; rintro _ w_ ⟨rfl, hx_⟩; have hz_ := hx_.size; refine ⟨_, rfl, ?_⟩) | (refine WL_isFn ?_; refine WL_call rfl rfl rfl (a2 _ cells_) ?_; rintro _ w_ ⟨rfl, hx_⟩; have hz_ := hx_.size; refine ⟨_, rfl, ?_⟩)) | (refine WC_is ?_; first | refine WC_seq (fun _ _ => ?_) | refine wc_ ?_) | (refine WQ_is ?_; first | refine wq_ ?_ | refine WQ_bodyCTT (Or.inl rfl) rfl rfl rfl rfl blk_ lr_ ?_ | refine WQ_bodyCTT (Or.inr rfl) rfl rfl rfl rfl blk_ lr_ ?_) | (refine Kb.mk ?_; intro b_ w_ hb_ hl_ hx_ hB_) | (refine Ks.mk ?_; intro w_ hz_ hx_ hB_) | (refine Ko.mk ?_; intro A_ c_ w_ hx_ ho_ hr_; have hz_ := hx_.size; have hq_ := own_cap ho_) | (refine Kp.mk ?_; intro A_ c_ w_ hx_ hz_ ho_ hr_ hp_; have hq_ := own_cap ho_) | (refine Kl.mk ?_; intro b_ w_ hb_ hl_ hx_ hB_ ho_) | (refine Km.mk ?_; intro b_ w_ hb_ hl_ hx_ ho_) | (refine Ke.mk ?_; intro r_ hr_) | (refine Kg.mk ?_ ?_ <;> intro hs_ <;> (try simp only [strEq_t, strEq_f, decide_eq_true_eq, decide_eq_false_iff_not, beq_iff_eq, beq_eq_false_iff_ne, bne_iff_ne, bne_eq_false_iff_eq, Bool.not_eq_true', Bool.not_eq_false', Bool.not_true, Bool.not_false, gt_iff_lt, ge_iff_le, Int.not_lt, Int.not_le, ne_eq, Bool.false_eq_true, not_true_eq_false, reduceCtorEq] at hs_) <;> (try (exfalso; first | exact hs_ | (exact hs_ rfl) | omega))) ))
        all_goals exact ⟨_, _, [], rfl, Cells.nil _ _, trivial, by simp, ext_⟩
      | false =>
        rw [he] at a2
        rw [if_pos ⟨rfl, rfl⟩]
        unfold erL
        rw [hZ]
        refine calls_W (args := [.slice A m c, .slice B k d]) Try.func33 rfl 32 rfl ?_
        (repeat' (first | (refine WL_is ?_; first | refine WL_nil ?_ | (refine WL_makeI 128 hZ rfl rfl rfl rfl rfl rfl (by decide) (by decide) ?_; intro b_ w_ hb_ hl_ hx_ ho_ hr_) | (refine WL_isLit ?_; refine WL_litA rfl rfl rfl rfl rfl rfl rfl rfl ?_; intro b_ w_ hb_ hl_ hx_ hB_ ho_ hr_) | (refine WL_buildA2 rfl rfl rfl rfl ?_) | (refine WL_index rfl rfl rfl rfl rfl (by decide) rfl ?_) | refine wl_ ?_ | (refine WL_isFn ?_; refine WL_call rfl rfl rfl (a1 _ cells_ cells_) ?_; rintro _ w_ ⟨rfl, hx_⟩; have hz_ := hx_.size; refine ⟨_, rfl, ?_⟩) | (refine WL_isFn ?_; refine WL_call rfl rfl rfl (a2 _ cells_) ?_; rintro _ w_ ⟨rfl, hx_⟩; have hz_ := hx_.size; refine ⟨_, rfl, ?_⟩)) | (refine WC_is ?_; first | refine WC_seq (fun _ _ => ?_) | refine wc_ ?_) | (refine WQ_is ?_; first | refine wq_ ?_ | refine WQ_bodyCTT (Or.inl rfl) rfl rfl rfl rfl blk_ lr_ ?_ | refine WQ_bodyCTT (Or.inr rfl) rfl rfl rfl rfl blk_ lr_ ?_) | (refine Kb.mk ?_; intro b_ w_ hb_ hl_ hx_ hB_) | (refine Ks.mk ?_; intro w_ hz_ hx_ hB_) | (refine Ko.mk ?_; intro A_ c_ w_ hx_ ho_ hr_; have hz_ := hx_.size; have hq_ := own_cap ho_) | (refine Kp.mk ?_; intro A_ c_ w_ hx_ hz_ ho_ hr_ hp_; have hq_ := own_cap ho_) | (refine Kl.mk ?_; intro b_ w_ hb_ hl_ hx_ hB_ ho_) | (refine Km.mk ?_; intro b_ w_ hb_ hl_ hx_ ho_) | (refine Ke.mk ?_; intro r_ hr_) | (refine Kg.mk ?_ ?_ <;> intro hs_ <;> (try simp only [strEq_t, strEq_f, decide_eq_true_eq, decide_eq_false_iff_not, beq_iff_eq, beq_eq_false_iff_ne, bne_iff_ne, bne_eq_false_iff_eq, Bool.not_eq_true', Bool.not_eq_false', Bool.not_true, Bool.not_false, gt_iff_lt, ge_iff_le, Int.not_lt, Int.not_le, ne_eq, Bool.false_eq_true, not_true_eq_false, reduceCtorEq] at hs_) <;> (try (exfalso; first | exact hs_ | (exact hs_ rfl) | omega))) ))
        all_goals exact ⟨_, _, [⟨5, 0, _, 128, 128⟩, ⟨4, 0, none, 0, 0⟩], rfl, hr_, ⟨⟨rfl, rfl, hZl, by simp, cells_⟩, ⟨rfl, rfl, rfl, by simp, Cells.nil _ _⟩, trivial⟩, by simp, ext_⟩
    · have hN : slN a b = 0 := if_neg hS
      rw [if_neg hS]
      generalize slR a b = R at *
      rw [hE, hN] at a1 ⊢
      cases he : erased b with
      | true =>
        rw [he] at a3
        rw [if_neg (by simp)]
        refine calls_W (args := [.slice A m c, .slice B k d]) Try.func33 rfl 32 rfl ?_
        (repeat' (first | (refine WL_is ?_; first | refine WL_nil ?_ | (refine WL_makeI 128 hZ rfl rfl rfl rfl rfl rfl (by decide) (by decide) ?_; intro b_ w_ hb_ hl_ hx_ ho_ hr_) | (refine WL_isLit ?_; refine WL_litA rfl rfl rfl rfl rfl rfl rfl rfl ?_; intro b_ w_ hb_ hl_ hx_ hB_ ho_ hr_) | (refine WL_buildA2 rfl rfl rfl rfl ?_) | (refine WL_index rfl rfl rfl rfl rfl (by decide) rfl ?_) | refine wl_ ?_ | (refine WL_isFn ?_; refine WL_call rfl rfl rfl (a1 _ cells_ cells_) ?_; rintro _ w_ ⟨rfl, hx_⟩; have hz_ := hx_.size; refine ⟨_, rfl, ?_⟩) | (refine WL_isFn ?_; refine WL_call rfl rfl rfl (a3 _ cells_) ?_; rintro _ w_ ⟨rfl, hx_⟩; have hz_ := hx_.size; refine ⟨_, rfl, ?_⟩)) | (refine WC_is ?_; first | refine WC_seq (fun _ _ => ?_) | refine wc_ ?_) | (refine WQ_is ?_; first | refine wq_ ?_ | refine WQ_bodyCTT (Or.inl rfl) rfl rfl rfl rfl blk_ lr_ ?_ | refine WQ_bodyCTT (Or.inr rfl) rfl rfl rfl rfl blk_ lr_ ?_) | (refine Kb.mk ?_; intro b_ w_ hb_ hl_ hx_ hB_) | (refine Ks.mk ?_; intro w_ hz_ hx_ hB_) | (refine Ko.mk ?_; intro A_ c_ w_ hx_ ho_ hr_; have hz_ := hx_.size; have hq_ := own_cap ho_) | (refine Kp.mk ?_; intro A_ c_ w_ hx_ hz_ ho_ hr_ hp_; have hq_ := own_cap ho_) | (refine Kl.mk ?_; intro b_ w_ hb_ hl_ hx_ hB_ ho_) | (refine Km.mk ?_; intro b_ w_ hb_ hl_ hx_ ho_) | (refine Ke.mk ?_; intro r_ hr_) | (refine Kg.mk ?_ ?_ <;> intro hs_ <;> (try simp only [strEq_t, strEq_f, decide_eq_true_eq, decide_eq_false_iff_not, beq_iff_eq, beq_eq_false_iff_ne, bne_iff_ne, bne_eq_false_iff_eq, Bool.not_eq_true', Bool.not_eq_false', Bool.not_true, Bool.not_false, gt_iff_lt, ge_iff_le, Int.not_lt, Int.not_le, ne_eq, Bool.false_eq_true, not_true_eq_false, reduceCtorEq] at hs_) <;> (try (exfalso; first | exact hs_ | (exact hs_ rfl) | omega))) ))
        all_goals exact ⟨_, _, [], rfl, Cells.nil _ _, trivial, by simp, ext_⟩
      | false =>
        rw [he] at a3
        rw [if_pos ⟨rfl, rfl⟩]
        unfold erL
        rw [hZ]
        refine calls_W (args := [.slice A m c, .slice B k d]) Try.func33 rfl 32 rfl ?_
        (repeat' (first | (refine WL_is ?_; first | refine WL_nil ?_ | (refine WL_makeI 128 hZ rfl rfl rfl rfl rfl rfl (by decide) (by decide) ?_; intro b_ w_ hb_ hl_ hx_ ho_ hr_) | (refine WL_isLit ?_; refine WL_litA rfl rfl rfl rfl rfl rfl rfl rfl ?_; intro b_ w_ hb_ hl_ hx_ hB_ ho_ hr_) | (refine WL_buildA2 rfl rfl rfl rfl ?_) | (refine WL_index rfl rfl rfl rfl rfl (by decide) rfl ?_) | refine wl_ ?_ | (refine WL_isFn ?_; refine WL_call rfl rfl rfl (a1 _ cells_ cells_) ?_; rintro _ w_ ⟨rfl, hx_⟩; have hz_ := hx_.size; refine ⟨_, rfl, ?_⟩) | (refine WL_isFn ?_; refine WL_call rfl rfl rfl (a3 _ cells_) ?_; rintro _ w_ ⟨rfl, hx_⟩; have hz_ := hx_.size; refine ⟨_, rfl, ?_⟩)) | (refine WC_is ?_; first | refine WC_seq (fun _ _ => ?_) | refine wc_ ?_) | (refine WQ_is ?_; first | refine wq_ ?_ | refine WQ_bodyCTT (Or.inl rfl) rfl rfl rfl rfl blk_ lr_ ?_ | refine WQ_bodyCTT (Or.inr rfl) rfl rfl rfl rfl blk_ lr_ ?_) | (refine Kb.mk ?_; intro b_ w_ hb_ hl_ hx_ hB_) | (refine Ks.mk ?_; intro w_ hz_ hx_ hB_) | (refine Ko.mk ?_; intro A_ c_ w_ hx_ ho_ hr_; have hz_ := hx_.size; have hq_ := own_cap ho_) | (refine Kp.mk ?_; intro A_ c_ w_ hx_ hz_ ho_ hr_ hp_; have hq_ := own_cap ho_) | (refine Kl.mk ?_; intro b_ w_ hb_ hl_ hx_ hB_ ho_) | (refine Km.mk ?_; intro b_ w_ hb_ hl_ hx_ ho_) | (refine Ke.mk ?_; intro r_ hr_) | (refine Kg.mk ?_ ?_ <;> intro hs_ <;> (try simp only [strEq_t, strEq_f, decide_eq_true_eq, decide_eq_false_iff_not, beq_iff_eq, beq_eq_false_iff_ne, bne_iff_ne, bne_eq_false_iff_eq, Bool.not_eq_true', Bool.not_eq_false', Bool.not_true, Bool.not_false, gt_iff_lt, ge_iff_le, Int.not_lt, Int.not_le, ne_eq, Bool.false_eq_true, not_true_eq_false, reduceCtorEq] at hs_) <;> (try (exfalso; first | exact hs_ | (exact hs_ rfl) | omega))) ))
        all_goals exact ⟨_, _, [⟨5, 1, _, 128, 128⟩, ⟨4, 0, none, 0, 0⟩], rfl, hr_, ⟨⟨rfl, rfl, hZl, by simp, cells_⟩, ⟨rfl, rfl, rfl, by simp, Cells.nil _ _⟩, trivial⟩, by simp, ext_⟩
  · have hE2 : slE a b = 140 := by unfold slE at hE ⊢; split <;> simp_all
    rw [if_neg (fun h => hE h.1)]
    have hN : slN a b = 0 ∨ slN a b = 1 := by unfold slN; split <;> simp
    generalize slR a b = R at *
    generalize slN a b = N at *
    rw [hE2] at a1
    refine calls_W (args := [.slice A m c, .slice B k d]) Try.func33 rfl 32 rfl ?_
    (repeat' (first | (refine WL_is ?_; first | refine WL_nil ?_ | (refine WL_makeI 128 hZ rfl rfl rfl rfl rfl rfl (by decide) (by decide) ?_; intro b_ w_ hb_ hl_ hx_ ho_ hr_) | (refine WL_isLit ?_; refine WL_litA rfl rfl rfl rfl rfl rfl rfl rfl ?_; intro b_ w_ hb_ hl_ hx_ hB_ ho_ hr_) | (refine WL_buildA2 rfl rfl rfl rfl ?_) | (refine WL_index rfl rfl rfl rfl rfl (by decide) rfl ?_) | refine wl_ ?_ | (refine WL_isFn ?_; refine WL_call rfl rfl rfl (a1 _ cells_ cells_) ?_; rintro _ w_ ⟨rfl, hx_⟩; have hz_ := hx_.size; refine ⟨_, rfl, ?_⟩)) | (refine WC_is ?_; first | refine WC_seq (fun _ _ => ?_) | refine wc_ ?_) | (refine WQ_is ?_; first | refine wq_ ?_ | refine WQ_bodyCTT (Or.inl rfl) rfl rfl rfl rfl blk_ lr_ ?_ | refine WQ_bodyCTT (Or.inr rfl) rfl rfl rfl rfl blk_ lr_ ?_) | (refine Kb.mk ?_; intro b_ w_ hb_ hl_ hx_ hB_) | (refine Ks.mk ?_; intro w_ hz_ hx_ hB_) | (refine Ko.mk ?_; intro A_ c_ w_ hx_ ho_ hr_; have hz_ := hx_.size; have hq_ := own_cap ho_) | (refine Kp.mk ?_; intro A_ c_ w_ hx_ hz_ ho_ hr_ hp_; have hq_ := own_cap ho_) | (refine Kl.mk ?_; intro b_ w_ hb_ hl_ hx_ hB_ ho_) | (refine Km.mk ?_; intro b_ w_ hb_ hl_ hx_ ho_) | (refine Ke.mk ?_; intro r_ hr_) | (refine Kg.mk ?_ ?_ <;> intro hs_ <;> (try simp only [strEq_t, strEq_f, decide_eq_true_eq, decide_eq_false_iff_not, beq_iff_eq, beq_eq_false_iff_ne, bne_iff_ne, bne_eq_false_iff_eq, Bool.not_eq_true', Bool.not_eq_false', Bool.not_true, Bool.not_false, gt_iff_lt, ge_iff_le, Int.not_lt, Int.not_le, ne_eq, Bool.false_eq_true, not_true_eq_false, reduceCtorEq] at hs_) <;> (try (exfalso; first | exact hs_ | (exact hs_ rfl) | omega))) ))
    all_goals first | exact ⟨_, _, [], rfl, Cells.nil _ _, trivial, by simp, ext_⟩
end Go.Proofs.Ytejdjpjaahfnaaa.K
