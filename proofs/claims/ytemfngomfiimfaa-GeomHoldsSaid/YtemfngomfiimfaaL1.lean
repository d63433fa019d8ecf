/- Chapter 16 (log): a new device of sixty zones. Seat-free. -/
import Derived.Test.YtemfngomfiimfaaH12
import Derived.Test.YtemfngomfiimfaaH61
set_option linter.unusedVariables false
set_option linter.unusedSimpArgs false
set_option maxHeartbeats 4000000
set_option maxRecDepth 20000
namespace Go.Proofs.Ytemfngomfiimfaa.K
open Go.RowKit
attribute [local irreducible] strEq strOfNums Calls WL WC WQ WX Code.wp wpList bodyPost
def zo0 : Zo := ⟨0, [], 0⟩
def zN : List Int := List.replicate 128 0
/-- A device of sixty empty zones. -/
def dvN (s : Int) (a b : List Int) : Dv := ⟨s, List.replicate 60 zo0, a, b, [], [], false, -1, -1, 0⟩
def zpN : List (Zo × Sl) := List.replicate 60 (zo0, sl0)
theorem zpN_fst : zpN.map (·.1) = List.replicate 60 zo0 := List.map_replicate
instance : TBld Try.prog 29 (dvC dv0 ds0) [(0, 1), (1, 1), (2, 2), (4, 2), (6, 1), (7, 1), (8, 1), (9, 1)] := ⟨by kernel_rfl, by kernel_rfl⟩
/-- A root sector, made or not yet. -/
def NQ (N : Nat) (w : World) (k i : Nat) (s : Sl) : Prop := if k < i then OwB N w s zN else s = sl0
theorem NQ.ext {w w' : World} {N k i : Nat} {s : Sl} (h : NQ N w k i s) (e : Ext w w') : NQ N w' k i s := by
  unfold NQ at *
  split
  · rename_i hlt; rw [if_pos hlt] at h; exact h.ext e
  · rename_i hlt; rw [if_neg hlt] at h; exact h
theorem NQ.put {w w' : World} {N k i g : Nat} {s : Sl} {cs : List Value} {T : TypeId} (h : NQ N w k i s) (hB : Blk w g cs T) (hne : ByT ≠ T) (e : ExtB g w w') : NQ N w' k i s := by
  unfold NQ at *
  split
  · rename_i hlt; rw [if_pos hlt] at h; exact h.put hB hne e
  · rename_i hlt; rw [if_neg hlt] at h; exact h
theorem NQ.step {w : World} {N k i : Nat} {s : Sl} (h : NQ N w k i s) (hk : k ≠ i) : NQ N w k (i + 1) s := by
  unfold NQ at *
  split
  · rename_i hlt; rw [if_pos om_] at h; exact h
  · rename_i hlt; rw [if_neg om_] at h; exact h
theorem NQ.mk1 {w : World} {N i : Nat} {s : Sl} (h : OwB N w s zN) : NQ N w i (i + 1) s := by unfold NQ; rw [if_pos om_]; exact h
theorem NQ.get {w : World} {N k i : Nat} {s : Sl} (h : NQ N w k i s) (hk : k < i) : OwB N w s zN := by unfold NQ at h; rwa [if_pos hk] at h
theorem NQ.none {w : World} {N k i : Nat} {s : Sl} (h : NQ N w k i s) (hk : ¬ k < i) : s = sl0 := by unfold NQ at h; rwa [if_neg hk] at h
theorem dev_New_calls (s : Int) (hs : 1 ≤ s ∧ s ≤ 65536) (w : World) : Calls Try.prog 5 #[.int .i64 60, .int .i64 s] w fun e w' => ∃ st, e = .returned (.tuple #[.agg (dvC (dvN s zN zN) st).toArray, .int .i64 0]) ∧ DRw w.heap.size w' (dvN s zN zN) st zpN ∧ Ext w w' := by
  have hZl : zN.length = 128 := rfl
  have p0 := dvC_one dv0 ds0
  refine calls_W (args := [.int .i64 60, .int .i64 s]) Try.func5 rfl 36 rfl ?_
  (repeat' (first | (refine WL_is ?_; first | refine WL_nil ?_ | refine wl_ ?_ ) | (refine WC_is ?_; first | ((fail_if_success (refine WC_isReg (id := 1) ?_)); refine WC_seq (fun _ _ => ?_)) | refine wc_ ?_) | (refine WQ_is ?_; first | refine wq_ ?_) | (refine Kb.mk ?_; intro b_ w_ hb_ hl_ hx_ hB_) | (refine Ks.mk ?_; intro w_ hz_ hx_ hB_) | (refine Ko.mk ?_; intro A_ c_ w_ hx_ ho_ hr_; have hz_ := hx_.size; have hq_ := own_cap ho_) | (refine Kp.mk ?_; intro A_ c_ w_ hx_ hz_ ho_ hr_ hp_; have hq_ := own_cap ho_) | (refine Kl.mk ?_; intro b_ w_ hb_ hl_ hx_ hB_ ho_) | (refine Km.mk ?_; intro b_ w_ hb_ hl_ hx_ ho_) | (refine Ke.mk ?_; intro r_ hr_) | (refine Kg.mk ?_ ?_ <;> intro hs_ <;> (try simp only [strEq_t, strEq_f, decide_eq_true_eq, decide_eq_false_iff_not, beq_iff_eq, beq_eq_false_iff_ne, bne_iff_ne, bne_eq_false_iff_eq, Bool.not_eq_true', Bool.not_eq_false', Bool.not_true, Bool.not_false, gt_iff_lt, ge_iff_le, Int.not_lt, Int.not_le, ne_eq, Bool.false_eq_true, not_true_eq_false, reduceCtorEq] at hs_) <;> (try (exfalso; first | exact hs_ | (exact hs_ rfl) | omega))) | (refine WX_is ?_; first | refine wx_ ?_ | exact WX_altnil | (refine WX_isRd ?_; first | (refine WX_isT ?_; refine WX_readT rfl rfl rfl rfl rfl (by (first | refine wl_ ?_); refine WL_nil ?_; exact DR_mk rfl) ?_) | (refine WX_isF ?_; refine WX_read rfl rfl rfl rfl rfl (fun w_ hx_ => by (first | refine wl_ ?_); refine WL_nil ?_; exact DR_mk rfl) ?_) | refine wxg_ ?_) | (refine WX_isAct ?_; first | refine WX_eff1 rfl (fun _ _ => ?_) | refine WX_eff rfl (fun _ _ => ?_) ?_))))
  obtain ⟨bR, rfl⟩ : ∃ x, x = b_ := ⟨_, rfl⟩
  have hBR := hB_
  have hbR := hb_
  have hlR := hl_
  (repeat' (first | (refine WL_is ?_; first | refine WL_nil ?_ | (refine WL_makeS (m := 60) rfl rfl rfl rfl rfl rfl rfl (by decide) (by decide) (by decide) ?_; intro bZ_ wZ_ hbZ_ hlZ_ hxZ_ hBZ_ hoZ_) | refine wl_ ?_ ) | (refine WC_is ?_; first | ((fail_if_success (refine WC_isReg (id := 5) ?_)); refine WC_seq (fun _ _ => ?_)) | refine wc_ ?_) | (refine WQ_is ?_; first | refine wq_ ?_) | (refine Kb.mk ?_; intro b_ w_ hb_ hl_ hx_ hB_) | (refine Ks.mk ?_; intro w_ hz_ hx_ hB_) | (refine Ko.mk ?_; intro A_ c_ w_ hx_ ho_ hr_; have hz_ := hx_.size; have hq_ := own_cap ho_) | (refine Kp.mk ?_; intro A_ c_ w_ hx_ hz_ ho_ hr_ hp_; have hq_ := own_cap ho_) | (refine Kl.mk ?_; intro b_ w_ hb_ hl_ hx_ hB_ ho_) | (refine Km.mk ?_; intro b_ w_ hb_ hl_ hx_ ho_) | (refine Ke.mk ?_; intro r_ hr_) | (refine Kg.mk ?_ ?_ <;> intro hs_ <;> (try simp only [strEq_t, strEq_f, decide_eq_true_eq, decide_eq_false_iff_not, beq_iff_eq, beq_eq_false_iff_ne, bne_iff_ne, bne_eq_false_iff_eq, Bool.not_eq_true', Bool.not_eq_false', Bool.not_true, Bool.not_false, gt_iff_lt, ge_iff_le, Int.not_lt, Int.not_le, ne_eq, Bool.false_eq_true, not_true_eq_false, reduceCtorEq] at hs_) <;> (try (exfalso; first | exact hs_ | (exact hs_ rfl) | omega))) | (refine WX_is ?_; first | refine wx_ ?_ | exact WX_altnil | (refine WX_isRd ?_; first | (refine WX_isT ?_; refine WX_readT rfl rfl rfl rfl rfl (by (first | (refine WL_makeS (m := 60) rfl rfl rfl rfl rfl rfl rfl (by decide) (by decide) (by decide) ?_; intro bZ_ wZ_ hbZ_ hlZ_ hxZ_ hBZ_ hoZ_) | refine wl_ ?_); refine WL_nil ?_; exact DR_mk rfl) ?_) | (refine WX_isF ?_; refine WX_read rfl rfl rfl rfl rfl (fun w_ hx_ => by (first | (refine WL_makeS (m := 60) rfl rfl rfl rfl rfl rfl rfl (by decide) (by decide) (by decide) ?_; intro bZ_ wZ_ hbZ_ hlZ_ hxZ_ hBZ_ hoZ_) | refine wl_ ?_); refine WL_nil ?_; exact DR_mk rfl) ?_) | refine wxg_ ?_) | (refine WX_isAct ?_; first | refine WX_eff1 rfl (fun _ _ => ?_) | refine WX_eff rfl (fun _ _ => ?_) ?_))))
  have hBd : Blk w_ b_ (dvC (dvN s zN zN) ⟨⟨some ⟨bZ_, 0, none⟩, 60, 60⟩, sl0, sl0, sl0, sl0⟩) DeT := hB_
  have hBr : Blk w_ bR (dvC dv0 ds0) DeT := blk_
  have hmc : (madeCells #[Value.int IntKind.i64 0, Value.slice none 0 0, Value.int IntKind.i64 0] (60 * 3)).toList = catC zpC zpN := by kernel_rfl
  have hro : w_.ownsRow w.heap.size ZoT 3 (slV ⟨some ⟨bZ_, 0, none⟩, 60, 60⟩) 60 (catC zpC zpN) := by
    rw [← hmc]
    exact (show w_.ownsRow w.heap.size ZoT 3 (.slice (some ⟨bZ_, 0, none⟩) 60 60) 60 (madeCells #[Value.int IntKind.i64 0, Value.slice none 0 0, Value.int IntKind.i64 0] (60 * 3)).toList from own_)
  have hx0 : Ext w w_ := ext_
  have hz0 := hx0.size
  have hne : bR ≠ b_ := by omega
  have hbw : w.heap.size ≤ b_ := by omega
  refine WC_loopL (X := Nat × Sl × Sl) [4, 5, 6, 35] rfl (fun x w' => (x.1 ≤ 2 ∧ NQ w.heap.size w' 0 x.1 x.2.1 ∧ NQ w.heap.size w' 1 x.1 x.2.2) ∧ (Ext w w' ∧ w_.heap.size ≤ w'.heap.size) ∧ Blk w' b_ (dvC (dvN s zN zN) ⟨⟨some ⟨bZ_, 0, none⟩, 60, 60⟩, x.2.1, x.2.2, sl0, sl0⟩) DeT ∧ Blk w' bR (dvC dv0 ds0) DeT ∧ w'.ownsRow w.heap.size ZoT 3 (slV ⟨some ⟨bZ_, 0, none⟩, 60, 60⟩) 60 (catC zpC zpN)) (fun x => [(27, .int .i64 x.1)]) (fun x => 2 - x.1) (0, sl0, sl0) ⟨⟨om_, rfl, rfl⟩, ⟨hx0, om_⟩, hBd, hBr, hro⟩ env_ ?_
  intro ⟨i, s0, s1⟩ w4 ⟨⟨hi, hq0, hq1⟩, ⟨hx4, hz4⟩, hBd4, hBr4, hro4⟩ K hK
  dsimp only at hi hq0 hq1 hBd4 hBr4 hro4 ⊢
  have hz40 := hx4.size
  rcases Nat.lt_or_ge i 2 with hlt | hge
  · rcases (show i = 0 ∨ i = 1 by omega) with rfl | rfl
    · obtain rfl := hq0.none om_
      (repeat' (first | (refine WL_is ?_; first | refine WL_nil ?_ | (refine WL_makeI 128 rfl rfl rfl rfl rfl rfl rfl (by decide) (by decide) ?_; intro bM_ wM_ hbM_ hlM_ hxM_ hoM_ hrM_) | refine wl_ ?_ ) | (refine WC_is ?_; first | refine WC_seq (fun _ _ => ?_) | refine wc_ ?_) | (refine WQ_is ?_; first | refine wq_ ?_) | (refine Kb.mk ?_; intro b_ w_ hb_ hl_ hx_ hB_) | (refine Ks.mk ?_; intro w_ hz_ hx_ hB_) | (refine Ko.mk ?_; intro A_ c_ w_ hx_ ho_ hr_; have hz_ := hx_.size; have hq_ := own_cap ho_) | (refine Kp.mk ?_; intro A_ c_ w_ hx_ hz_ ho_ hr_ hp_; have hq_ := own_cap ho_) | (refine Kl.mk ?_; intro b_ w_ hb_ hl_ hx_ hB_ ho_) | (refine Km.mk ?_; intro b_ w_ hb_ hl_ hx_ ho_) | (refine Ke.mk ?_; intro r_ hr_) | (refine Kg.mk ?_ ?_ <;> intro hs_ <;> (try simp only [strEq_t, strEq_f, decide_eq_true_eq, decide_eq_false_iff_not, beq_iff_eq, beq_eq_false_iff_ne, bne_iff_ne, bne_eq_false_iff_eq, Bool.not_eq_true', Bool.not_eq_false', Bool.not_true, Bool.not_false, gt_iff_lt, ge_iff_le, Int.not_lt, Int.not_le, ne_eq, Bool.false_eq_true, not_true_eq_false, reduceCtorEq] at hs_) <;> (try (exfalso; first | exact hs_ | (exact hs_ rfl) | omega))) | (refine WX_is ?_; first | refine wx_ ?_ | exact WX_altnil | (refine WX_isRd ?_; first | (refine WX_isT ?_; refine WX_readT rfl rfl rfl rfl rfl (by (first | (refine WL_makeI 128 rfl rfl rfl rfl rfl rfl rfl (by decide) (by decide) ?_; intro bM_ wM_ hbM_ hlM_ hxM_ hoM_ hrM_) | refine wl_ ?_); refine WL_nil ?_; exact DR_mk rfl) ?_) | (refine WX_isF ?_; refine WX_read rfl rfl rfl rfl rfl (fun w_ hx_ => by (first | (refine WL_makeI 128 rfl rfl rfl rfl rfl rfl rfl (by decide) (by decide) ?_; intro bM_ wM_ hbM_ hlM_ hxM_ hoM_ hrM_) | refine wl_ ?_); refine WL_nil ?_; exact DR_mk rfl) ?_) | refine wxg_ ?_) | (refine WX_isAct ?_; first | refine WX_eff1 rfl (fun _ _ => ?_) | refine WX_eff rfl (fun _ _ => ?_) ?_))))
      all_goals first | (exfalso; omega) | skip
      all_goals
        have hBs : Blk wM_ b_ _ DeT := hBd4.ext hxM_
        exact WQ_againL hK (1, ⟨some ⟨bM_, 0, none⟩, 128, 128⟩, s1) ⟨⟨om_, NQ.mk1 (OwB.put (OwB.of hoM_ rfl hz40) hBs (by decide) hx_), ((hq1.ext hxM_).put hBs (by decide) hx_).step om_⟩, ⟨ext_, om_⟩, hB_, blk_, own_other hx_ (own_ext hro4 hxM_) (own_ne (own_ext hro4 hxM_) hBs (by decide))⟩ env_ om_
    · obtain rfl := hq1.none om_
      (repeat' (first | (refine WL_is ?_; first | refine WL_nil ?_ | (refine WL_makeI 128 rfl rfl rfl rfl rfl rfl rfl (by decide) (by decide) ?_; intro bM_ wM_ hbM_ hlM_ hxM_ hoM_ hrM_) | refine wl_ ?_ ) | (refine WC_is ?_; first | refine WC_seq (fun _ _ => ?_) | refine wc_ ?_) | (refine WQ_is ?_; first | refine wq_ ?_) | (refine Kb.mk ?_; intro b_ w_ hb_ hl_ hx_ hB_) | (refine Ks.mk ?_; intro w_ hz_ hx_ hB_) | (refine Ko.mk ?_; intro A_ c_ w_ hx_ ho_ hr_; have hz_ := hx_.size; have hq_ := own_cap ho_) | (refine Kp.mk ?_; intro A_ c_ w_ hx_ hz_ ho_ hr_ hp_; have hq_ := own_cap ho_) | (refine Kl.mk ?_; intro b_ w_ hb_ hl_ hx_ hB_ ho_) | (refine Km.mk ?_; intro b_ w_ hb_ hl_ hx_ ho_) | (refine Ke.mk ?_; intro r_ hr_) | (refine Kg.mk ?_ ?_ <;> intro hs_ <;> (try simp only [strEq_t, strEq_f, decide_eq_true_eq, decide_eq_false_iff_not, beq_iff_eq, beq_eq_false_iff_ne, bne_iff_ne, bne_eq_false_iff_eq, Bool.not_eq_true', Bool.not_eq_false', Bool.not_true, Bool.not_false, gt_iff_lt, ge_iff_le, Int.not_lt, Int.not_le, ne_eq, Bool.false_eq_true, not_true_eq_false, reduceCtorEq] at hs_) <;> (try (exfalso; first | exact hs_ | (exact hs_ rfl) | omega))) | (refine WX_is ?_; first | refine wx_ ?_ | exact WX_altnil | (refine WX_isRd ?_; first | (refine WX_isT ?_; refine WX_readT rfl rfl rfl rfl rfl (by (first | (refine WL_makeI 128 rfl rfl rfl rfl rfl rfl rfl (by decide) (by decide) ?_; intro bM_ wM_ hbM_ hlM_ hxM_ hoM_ hrM_) | refine wl_ ?_); refine WL_nil ?_; exact DR_mk rfl) ?_) | (refine WX_isF ?_; refine WX_read rfl rfl rfl rfl rfl (fun w_ hx_ => by (first | (refine WL_makeI 128 rfl rfl rfl rfl rfl rfl rfl (by decide) (by decide) ?_; intro bM_ wM_ hbM_ hlM_ hxM_ hoM_ hrM_) | refine wl_ ?_); refine WL_nil ?_; exact DR_mk rfl) ?_) | refine wxg_ ?_) | (refine WX_isAct ?_; first | refine WX_eff1 rfl (fun _ _ => ?_) | refine WX_eff rfl (fun _ _ => ?_) ?_))))
      all_goals first | (exfalso; omega) | skip
      all_goals
        have hBs : Blk wM_ b_ _ DeT := hBd4.ext hxM_
        exact WQ_againL hK (2, s0, ⟨some ⟨bM_, 0, none⟩, 128, 128⟩) ⟨⟨om_, ((hq0.ext hxM_).put hBs (by decide) hx_).step om_, NQ.mk1 (OwB.put (OwB.of hoM_ rfl hz40) hBs (by decide) hx_)⟩, ⟨ext_, om_⟩, hB_, blk_, own_other hx_ (own_ext hro4 hxM_) (own_ne (own_ext hro4 hxM_) hBs (by decide))⟩ env_ om_
  · obtain rfl : i = 2 := by omega
    have hDR : DRw w.heap.size w4 (dvN s zN zN) ⟨⟨some ⟨bZ_, 0, none⟩, 60, 60⟩, s0, s1, sl0, sl0⟩ zpN := ⟨zpN_fst, hro4, fun p hp => by
      obtain rfl : p = (zo0, sl0) := List.eq_of_mem_replicate hp
      exact own_nil _ _ _ _, hq0.get om_, hq1.get om_, own_nil _ _ _ _, own_nil _ _ _ _⟩
    have p1 := dvC_one (dvN s zN zN) ⟨⟨some ⟨bZ_, 0, none⟩, 60, 60⟩, s0, s1, sl0, sl0⟩
    (repeat' (first | (refine WL_is ?_; first | refine WL_nil ?_ | refine wl_ ?_ ) | (refine WC_is ?_; first | refine WC_seq (fun _ _ => ?_) | refine wc_ ?_) | (refine WQ_is ?_; first | refine wq_ ?_) | (refine Kb.mk ?_; intro b_ w_ hb_ hl_ hx_ hB_) | (refine Ks.mk ?_; intro w_ hz_ hx_ hB_) | (refine Ko.mk ?_; intro A_ c_ w_ hx_ ho_ hr_; have hz_ := hx_.size; have hq_ := own_cap ho_) | (refine Kp.mk ?_; intro A_ c_ w_ hx_ hz_ ho_ hr_ hp_; have hq_ := own_cap ho_) | (refine Kl.mk ?_; intro b_ w_ hb_ hl_ hx_ hB_ ho_) | (refine Km.mk ?_; intro b_ w_ hb_ hl_ hx_ ho_) | (refine Ke.mk ?_; intro r_ hr_) | (refine Kg.mk ?_ ?_ <;> intro hs_ <;> (try simp only [strEq_t, strEq_f, decide_eq_true_eq, decide_eq_false_iff_not, beq_iff_eq, beq_eq_false_iff_ne, bne_iff_ne, bne_eq_false_iff_eq, Bool.not_eq_true', Bool.not_eq_false', Bool.not_true, Bool.not_false, gt_iff_lt, ge_iff_le, Int.not_lt, Int.not_le, ne_eq, Bool.false_eq_true, not_true_eq_false, reduceCtorEq] at hs_) <;> (try (exfalso; first | exact hs_ | (exact hs_ rfl) | omega))) | (refine WX_is ?_; first | refine wx_ ?_ | exact WX_altnil | (refine WX_isRd ?_; first | (refine WX_isT ?_; refine WX_readT rfl rfl rfl rfl rfl (by (first | refine wl_ ?_); refine WL_nil ?_; exact DR_mk rfl) ?_) | (refine WX_isF ?_; refine WX_read rfl rfl rfl rfl rfl (fun w_ hx_ => by (first | refine wl_ ?_); refine WL_nil ?_; exact DR_mk rfl) ?_) | refine wxg_ ?_) | (refine WX_isAct ?_; first | refine WX_eff1 rfl (fun _ _ => ?_) | refine WX_eff rfl (fun _ _ => ?_) ?_))))
    all_goals first | (exfalso; omega) | skip
    all_goals exact ⟨_, rfl, hDR.other hBr4 hx_ (by decide) (by decide), ext_⟩
end Go.Proofs.Ytemfngomfiimfaa.K
