/- Chapter 10 (dev): a new device of one zone of eight bytes. Seat-free. | Chapter 14 (slot): a device of one empty zone: made. Seat-free. -/
import Derived.Test.YtejdjpjaahfnaaaHA
import Derived.Test.YtejdjpjaahfnaaaV12
import Derived.Test.YtejdjpjaahfnaaaHB
import Derived.Test.YtejdjpjaahfnaaaU7
set_option linter.unusedVariables false
set_option linter.unusedSimpArgs false
set_option maxHeartbeats 4000000
set_option maxRecDepth 20000
namespace Go.Proofs.Ytejdjpjaahfnaaa.K
open Go.RowKit
attribute [local irreducible] strEq strOfNums Calls WL WC WQ WX Code.wp wpList bodyPost
def zo0 : Zo := ⟨0, [], 0⟩
/-- A device of one empty zone. -/
def dvA (a b : List Int) (f g : List Int) (de : Int) : Dv := ⟨8, [zo0], a, b, f, g, false, -1, -1, de⟩
instance : TBld Try.prog 46 (dvC dv0 ds0) [(0, 1), (1, 1), (2, 2), (4, 2), (6, 1), (7, 1), (8, 1), (9, 1)] := ⟨by kernel_rfl, by kernel_rfl⟩
/-- A root sector, made or not yet. -/
def NQ (N : Nat) (w : World) (k i : Nat) (s : Sl) : Prop := if k < i then OwB N w s z128 else s = sl0
theorem NQ.ext {w w' : World} {N k i : Nat} {s : Sl} (h : NQ N w k i s) (e : Ext w w') : NQ N w' k i s := by
  unfold NQ at *
  split
  · rename_i hlt; rw [if_pos hlt] at h; exact h.ext e
  · rename_i hlt; rw [if_neg hlt] at h; exact h
theorem NQ.put {w w' : World} {N k i g : Nat} {s : Sl} {cs : List Value} {T : TypeId} (h : NQ N w k i s) (hB : Blk w g cs T) (hne : ByT ≠ T) (e : ExtB g w w') : NQ N w' k i s := by
  unfold NQ at *
  split
  · rename_i hlt; rw [if_pos hlt] at h; exact h.put hB hne e
  · rename_i hlt; rw [if_neg hlt] at h; exact h
theorem NQ.step {w : World} {N k i : Nat} {s : Sl} (h : NQ N w k i s) (hk : k ≠ i) : NQ N w k (i + 1) s := by
  unfold NQ at *
  split
  · rename_i hlt; rw [if_pos om_] at h; exact h
  · rename_i hlt; rw [if_neg om_] at h; exact h
theorem NQ.mk1 {w : World} {N i : Nat} {s : Sl} (h : OwB N w s z128) : NQ N w i (i + 1) s := by unfold NQ; rw [if_pos om_]; exact h
theorem NQ.get {w : World} {N k i : Nat} {s : Sl} (h : NQ N w k i s) (hk : k < i) : OwB N w s z128 := by unfold NQ at h; rwa [if_pos hk] at h
theorem NQ.none {w : World} {N k i : Nat} {s : Sl} (h : NQ N w k i s) (hk : ¬ k < i) : s = sl0 := by unfold NQ at h; rwa [if_neg hk] at h
theorem dev_New_calls (w : World) : Calls Try.prog 51 #[.int .i64 1, .int .i64 8] w fun e w' => ∃ s zp, e = .returned (.tuple #[.agg (dvC (dvA z128 z128 [] [] 0) s).toArray, .int .i64 0]) ∧ DRw w.heap.size w' (dvA z128 z128 [] [] 0) s zp ∧ Ext w w' := by
  obtain ⟨Z, hZ⟩ : ∃ Z, z128 = Z := ⟨_, rfl⟩
  have hZl : Z.length = 128 := by rw [← hZ]; rfl
  have p0 := dvC_one dv0 ds0
  refine calls_W (args := [.int .i64 1, .int .i64 8]) Try.func51 rfl 36 rfl ?_
  (repeat' (first | (refine WL_is ?_; first | refine WL_nil ?_ | refine wl_ ?_ ) | (refine WC_is ?_; first | ((fail_if_success (refine WC_isReg (id := 1) ?_)); refine WC_seq (fun _ _ => ?_)) | refine wc_ ?_) | (refine WQ_is ?_; first | refine wq_ ?_ | refine WQ_bodyAC (Or.inl rfl) rfl rfl rfl blk_ lr_ blk_ ?_ | refine WQ_bodyAC (Or.inr rfl) rfl rfl rfl blk_ lr_ blk_ ?_) | (refine Kb.mk ?_; intro b_ w_ hb_ hl_ hx_ hB_) | (refine Ks.mk ?_; intro w_ hz_ hx_ hB_) | (refine Ko.mk ?_; intro A_ c_ w_ hx_ ho_ hr_; have hz_ := hx_.size; have hq_ := own_cap ho_) | (refine Kp.mk ?_; intro A_ c_ w_ hx_ hz_ ho_ hr_ hp_; have hq_ := own_cap ho_) | (refine Kl.mk ?_; intro b_ w_ hb_ hl_ hx_ hB_ ho_) | (refine Km.mk ?_; intro b_ w_ hb_ hl_ hx_ ho_) | (refine Ke.mk ?_; intro r_ hr_) | (refine Kg.mk ?_ ?_ <;> intro hs_ <;> (try simp only [strEq_t, strEq_f, decide_eq_true_eq, decide_eq_false_iff_not, beq_iff_eq, beq_eq_false_iff_ne, bne_iff_ne, bne_eq_false_iff_eq, Bool.not_eq_true', Bool.not_eq_false', Bool.not_true, Bool.not_false, gt_iff_lt, ge_iff_le, Int.not_lt, Int.not_le, ne_eq, Bool.false_eq_true, not_true_eq_false, reduceCtorEq] at hs_) <;> (try (exfalso; first | exact hs_ | (exact hs_ rfl) | omega))) | (refine WX_is ?_; first | refine wx_ ?_ | exact WX_altnil | (refine WX_isRd ?_; first | (refine WX_isT ?_; refine WX_readT rfl rfl rfl rfl rfl (by (first | refine wl_ ?_); refine WL_nil ?_; exact DR_mk rfl) ?_) | (refine WX_isF ?_; refine WX_read rfl rfl rfl rfl rfl (fun w_ hx_ => by (first | refine wl_ ?_); refine WL_nil ?_; exact DR_mk rfl) ?_) | refine WX_nilP rfl rfl rfl rfl rfl rfl ?_ | refine wxg_ ?_) | (refine WX_isAct ?_; first | refine WX_eff1 rfl (fun _ _ => ?_) | refine WX_eff rfl (fun _ _ => ?_) ?_))))
  obtain ⟨bR, rfl⟩ : ∃ x, x = b_ := ⟨_, rfl⟩
  have hBR := hB_
  have hbR := hb_
  have hlR := hl_
  (repeat' (first | (refine WL_is ?_; first | refine WL_nil ?_ | (refine WL_makeS rfl rfl rfl rfl rfl rfl rfl (by decide) (by decide) (by decide) ?_; intro bZ_ wZ_ hbZ_ hlZ_ hxZ_ hBZ_ hoZ_) | refine wl_ ?_ ) | (refine WC_is ?_; first | ((fail_if_success (refine WC_isReg (id := 5) ?_)); refine WC_seq (fun _ _ => ?_)) | refine wc_ ?_) | (refine WQ_is ?_; first | refine wq_ ?_ | refine WQ_bodyAC (Or.inl rfl) rfl rfl rfl blk_ lr_ blk_ ?_ | refine WQ_bodyAC (Or.inr rfl) rfl rfl rfl blk_ lr_ blk_ ?_) | (refine Kb.mk ?_; intro b_ w_ hb_ hl_ hx_ hB_) | (refine Ks.mk ?_; intro w_ hz_ hx_ hB_) | (refine Ko.mk ?_; intro A_ c_ w_ hx_ ho_ hr_; have hz_ := hx_.size; have hq_ := own_cap ho_) | (refine Kp.mk ?_; intro A_ c_ w_ hx_ hz_ ho_ hr_ hp_; have hq_ := own_cap ho_) | (refine Kl.mk ?_; intro b_ w_ hb_ hl_ hx_ hB_ ho_) | (refine Km.mk ?_; intro b_ w_ hb_ hl_ hx_ ho_) | (refine Ke.mk ?_; intro r_ hr_) | (refine Kg.mk ?_ ?_ <;> intro hs_ <;> (try simp only [strEq_t, strEq_f, decide_eq_true_eq, decide_eq_false_iff_not, beq_iff_eq, beq_eq_false_iff_ne, bne_iff_ne, bne_eq_false_iff_eq, Bool.not_eq_true', Bool.not_eq_false', Bool.not_true, Bool.not_false, gt_iff_lt, ge_iff_le, Int.not_lt, Int.not_le, ne_eq, Bool.false_eq_true, not_true_eq_false, reduceCtorEq] at hs_) <;> (try (exfalso; first | exact hs_ | (exact hs_ rfl) | omega))) | (refine WX_is ?_; first | refine wx_ ?_ | exact WX_altnil | (refine WX_isRd ?_; first | (refine WX_isT ?_; refine WX_readT rfl rfl rfl rfl rfl (by (first | (refine WL_makeS rfl rfl rfl rfl rfl rfl rfl (by decide) (by decide) (by decide) ?_; intro bZ_ wZ_ hbZ_ hlZ_ hxZ_ hBZ_ hoZ_) | refine wl_ ?_); refine WL_nil ?_; exact DR_mk rfl) ?_) | (refine WX_isF ?_; refine WX_read rfl rfl rfl rfl rfl (fun w_ hx_ => by (first | (refine WL_makeS rfl rfl rfl rfl rfl rfl rfl (by decide) (by decide) (by decide) ?_; intro bZ_ wZ_ hbZ_ hlZ_ hxZ_ hBZ_ hoZ_) | refine wl_ ?_); refine WL_nil ?_; exact DR_mk rfl) ?_) | refine WX_nilP rfl rfl rfl rfl rfl rfl ?_ | refine wxg_ ?_) | (refine WX_isAct ?_; first | refine WX_eff1 rfl (fun _ _ => ?_) | refine WX_eff rfl (fun _ _ => ?_) ?_))))
  have hBd : Blk w_ b_ (dvC (dvA z128 z128 [] [] 0) ⟨⟨some ⟨bZ_, 0, none⟩, 1, 1⟩, sl0, sl0, sl0, sl0⟩) DeT := hB_
  have hBr : Blk w_ bR (dvC dv0 ds0) DeT := blk_
  have hmc : (madeCells #[Value.int IntKind.i64 0, Value.slice none 0 0, Value.int IntKind.i64 0] (1 * 3)).toList = catC zpC [(zo0, sl0)] := by kernel_rfl
  have hro : w_.ownsRow w.heap.size ZoT 3 (slV ⟨some ⟨bZ_, 0, none⟩, 1, 1⟩) 1 (catC zpC [(zo0, sl0)]) := by
    rw [← hmc]
    exact (show w_.ownsRow w.heap.size ZoT 3 (.slice (some ⟨bZ_, 0, none⟩) 1 1) 1 (madeCells #[Value.int IntKind.i64 0, Value.slice none 0 0, Value.int IntKind.i64 0] (1 * 3)).toList from own_)
  have hx0 : Ext w w_ := ext_
  have hz0 := hx0.size
  have hne : bR ≠ b_ := by omega
  have hbw : w.heap.size ≤ b_ := by omega
  refine WC_loopL (X := Nat × Sl × Sl) [4, 5, 6, 35] rfl (fun x w' => (x.1 ≤ 2 ∧ NQ w.heap.size w' 0 x.1 x.2.1 ∧ NQ w.heap.size w' 1 x.1 x.2.2) ∧ (Ext w w' ∧ w_.heap.size ≤ w'.heap.size) ∧ Blk w' b_ (dvC (dvA z128 z128 [] [] 0) ⟨⟨some ⟨bZ_, 0, none⟩, 1, 1⟩, x.2.1, x.2.2, sl0, sl0⟩) DeT ∧ Blk w' bR (dvC dv0 ds0) DeT ∧ w'.ownsRow w.heap.size ZoT 3 (slV ⟨some ⟨bZ_, 0, none⟩, 1, 1⟩) 1 (catC zpC [(zo0, sl0)])) (fun x => [(27, .int .i64 x.1)]) (fun x => 2 - x.1) (0, sl0, sl0) ⟨⟨om_, rfl, rfl⟩, ⟨hx0, om_⟩, hBd, hBr, hro⟩ env_ ?_
  intro ⟨i, s0, s1⟩ w4 ⟨⟨hi, hq0, hq1⟩, ⟨hx4, hz4⟩, hBd4, hBr4, hro4⟩ K hK
  dsimp only at hi hq0 hq1 hBd4 hBr4 hro4 ⊢
  have hz40 := hx4.size
  rcases Nat.lt_or_ge i 2 with hlt | hge
  · rcases (show i = 0 ∨ i = 1 by omega) with rfl | rfl
    · obtain rfl := hq0.none om_
      (repeat' (first | (refine WL_is ?_; first | refine WL_nil ?_ | (refine WL_makeI 128 rfl rfl rfl rfl rfl rfl rfl (by decide) (by decide) ?_; intro bM_ wM_ hbM_ hlM_ hxM_ hoM_ hrM_) | refine wl_ ?_ ) | (refine WC_is ?_; first | refine WC_seq (fun _ _ => ?_) | refine wc_ ?_) | (refine WQ_is ?_; first | refine wq_ ?_ | refine WQ_bodyAC (Or.inl rfl) rfl rfl rfl blk_ lr_ blk_ ?_ | refine WQ_bodyAC (Or.inr rfl) rfl rfl rfl blk_ lr_ blk_ ?_) | (refine Kb.mk ?_; intro b_ w_ hb_ hl_ hx_ hB_) | (refine Ks.mk ?_; intro w_ hz_ hx_ hB_) | (refine Ko.mk ?_; intro A_ c_ w_ hx_ ho_ hr_; have hz_ := hx_.size; have hq_ := own_cap ho_) | (refine Kp.mk ?_; intro A_ c_ w_ hx_ hz_ ho_ hr_ hp_; have hq_ := own_cap ho_) | (refine Kl.mk ?_; intro b_ w_ hb_ hl_ hx_ hB_ ho_) | (refine Km.mk ?_; intro b_ w_ hb_ hl_ hx_ ho_) | (refine Ke.mk ?_; intro r_ hr_) | (refine Kg.mk ?_ ?_ <;> intro hs_ <;> (try simp only [strEq_t, strEq_f, decide_eq_true_eq, decide_eq_false_iff_not, beq_iff_eq, beq_eq_false_iff_ne, bne_iff_ne, bne_eq_false_iff_eq, Bool.not_eq_true', Bool.not_eq_false', Bool.not_true, Bool.not_false, gt_iff_lt, ge_iff_le, Int.not_lt, Int.not_le, ne_eq, Bool.false_eq_true, not_true_eq_false, reduceCtorEq] at hs_) <;> (try (exfalso; first | exact hs_ | (exact hs_ rfl) | omega))) | (refine WX_is ?_; first | refine wx_ ?_ | exact WX_altnil | (refine WX_isRd ?_; first | (refine WX_isT ?_; refine WX_readT rfl rfl rfl rfl rfl (by (first | (refine WL_makeI 128 rfl rfl rfl rfl rfl rfl rfl (by decide) (by decide) ?_; intro bM_ wM_ hbM_ hlM_ hxM_ hoM_ hrM_) | refine wl_ ?_); refine WL_nil ?_; exact DR_mk rfl) ?_) | (refine WX_isF ?_; refine WX_read rfl rfl rfl rfl rfl (fun w_ hx_ => by (first | (refine WL_makeI 128 rfl rfl rfl rfl rfl rfl rfl (by decide) (by decide) ?_; intro bM_ wM_ hbM_ hlM_ hxM_ hoM_ hrM_) | refine wl_ ?_); refine WL_nil ?_; exact DR_mk rfl) ?_) | refine WX_nilP rfl rfl rfl rfl rfl rfl ?_ | refine wxg_ ?_) | (refine WX_isAct ?_; first | refine WX_eff1 rfl (fun _ _ => ?_) | refine WX_eff rfl (fun _ _ => ?_) ?_))))
      all_goals first | (exfalso; omega) | skip
      all_goals
        have hBs : Blk wM_ b_ _ DeT := hBd4.ext hxM_
        exact WQ_againL hK (1, ⟨some ⟨bM_, 0, none⟩, 128, 128⟩, s1) ⟨⟨om_, NQ.mk1 (OwB.put (OwB.of hoM_ rfl hz40) hBs (by decide) hx_), ((hq1.ext hxM_).put hBs (by decide) hx_).step om_⟩, ⟨ext_, om_⟩, hB_, blk_, own_other hx_ (own_ext hro4 hxM_) (own_ne (own_ext hro4 hxM_) hBs (by decide))⟩ env_ om_
    · obtain rfl := hq1.none om_
      (repeat' (first | (refine WL_is ?_; first | refine WL_nil ?_ | (refine WL_makeI 128 rfl rfl rfl rfl rfl rfl rfl (by decide) (by decide) ?_; intro bM_ wM_ hbM_ hlM_ hxM_ hoM_ hrM_) | refine wl_ ?_ ) | (refine WC_is ?_; first | refine WC_seq (fun _ _ => ?_) | refine wc_ ?_) | (refine WQ_is ?_; first | refine wq_ ?_ | refine WQ_bodyAC (Or.inl rfl) rfl rfl rfl blk_ lr_ blk_ ?_ | refine WQ_bodyAC (Or.inr rfl) rfl rfl rfl blk_ lr_ blk_ ?_) | (refine Kb.mk ?_; intro b_ w_ hb_ hl_ hx_ hB_) | (refine Ks.mk ?_; intro w_ hz_ hx_ hB_) | (refine Ko.mk ?_; intro A_ c_ w_ hx_ ho_ hr_; have hz_ := hx_.size; have hq_ := own_cap ho_) | (refine Kp.mk ?_; intro A_ c_ w_ hx_ hz_ ho_ hr_ hp_; have hq_ := own_cap ho_) | (refine Kl.mk ?_; intro b_ w_ hb_ hl_ hx_ hB_ ho_) | (refine Km.mk ?_; intro b_ w_ hb_ hl_ hx_ ho_) | (refine Ke.mk ?_; intro r_ hr_) | (refine Kg.mk ?_ ?_ <;> intro hs_ <;> (try simp only [strEq_t, strEq_f, decide_eq_true_eq, decide_eq_false_iff_not, beq_iff_eq, beq_eq_false_iff_ne, bne_iff_ne, bne_eq_false_iff_eq, Bool.not_eq_true', Bool.not_eq_false', Bool.not_true, Bool.not_false, gt_iff_lt, ge_iff_le, Int.not_lt, Int.not_le, ne_eq, Bool.false_eq_true, not_true_eq_false, reduceCtorEq] at hs_) <;> (try (exfalso; first | exact hs_ | (exact hs_ rfl) | omega))) | (refine WX_is ?_; first | refine wx_ ?_ | exact WX_altnil | (refine WX_isRd ?_; first | (refine WX_isT ?_; refine WX_readT rfl rfl rfl rfl rfl (by (first | (refine WL_makeI 128 rfl rfl rfl rfl rfl rfl rfl (by decide) (by decide) ?_; intro bM_ wM_ hbM_ hlM_ hxM_ hoM_ hrM_) | refine wl_ ?_); refine WL_nil ?_; exact DR_mk rfl) ?_) | (refine WX_isF ?_; refine WX_read rfl rfl rfl rfl rfl (fun w_ hx_ => by (first | (refine WL_makeI 128 rfl rfl rfl rfl rfl rfl rfl (by decide) (by decide) ?_; intro bM_ wM_ hbM_ hlM_ hxM_ hoM_ hrM_) | refine wl_ ?_); refine WL_nil ?_; exact DR_mk rfl) ?_) | refine WX_nilP rfl rfl rfl rfl rfl rfl ?_ | refine wxg_ ?_) | (refine WX_isAct ?_; first | refine WX_eff1 rfl (fun _ _ => ?_) | refine WX_eff rfl (fun _ _ => ?_) ?_))))
      all_goals first | (exfalso; omega) | skip
      all_goals
        have hBs : Blk wM_ b_ _ DeT := hBd4.ext hxM_
        exact WQ_againL hK (2, s0, ⟨some ⟨bM_, 0, none⟩, 128, 128⟩) ⟨⟨om_, ((hq0.ext hxM_).put hBs (by decide) hx_).step om_, NQ.mk1 (OwB.put (OwB.of hoM_ rfl hz40) hBs (by decide) hx_)⟩, ⟨ext_, om_⟩, hB_, blk_, own_other hx_ (own_ext hro4 hxM_) (own_ne (own_ext hro4 hxM_) hBs (by decide))⟩ env_ om_
  · obtain rfl : i = 2 := by omega
    have hDR : DRw w.heap.size w4 (dvA z128 z128 [] [] 0) ⟨⟨some ⟨bZ_, 0, none⟩, 1, 1⟩, s0, s1, sl0, sl0⟩ [(zo0, sl0)] := ⟨rfl, hro4, fun p hp => by
      obtain rfl : p = (zo0, sl0) := by simpa using hp
      exact own_nil _ _ _ _, hq0.get om_, hq1.get om_, own_nil _ _ _ _, own_nil _ _ _ _⟩
    have p1 := dvC_one (dvA z128 z128 [] [] 0) ⟨⟨some ⟨bZ_, 0, none⟩, 1, 1⟩, s0, s1, sl0, sl0⟩
    (repeat' (first | (refine WL_is ?_; first | refine WL_nil ?_ | refine wl_ ?_ ) | (refine WC_is ?_; first | refine WC_seq (fun _ _ => ?_) | refine wc_ ?_) | (refine WQ_is ?_; first | refine wq_ ?_ | refine WQ_bodyAC (Or.inl rfl) rfl rfl rfl blk_ lr_ blk_ ?_ | refine WQ_bodyAC (Or.inr rfl) rfl rfl rfl blk_ lr_ blk_ ?_) | (refine Kb.mk ?_; intro b_ w_ hb_ hl_ hx_ hB_) | (refine Ks.mk ?_; intro w_ hz_ hx_ hB_) | (refine Ko.mk ?_; intro A_ c_ w_ hx_ ho_ hr_; have hz_ := hx_.size; have hq_ := own_cap ho_) | (refine Kp.mk ?_; intro A_ c_ w_ hx_ hz_ ho_ hr_ hp_; have hq_ := own_cap ho_) | (refine Kl.mk ?_; intro b_ w_ hb_ hl_ hx_ hB_ ho_) | (refine Km.mk ?_; intro b_ w_ hb_ hl_ hx_ ho_) | (refine Ke.mk ?_; intro r_ hr_) | (refine Kg.mk ?_ ?_ <;> intro hs_ <;> (try simp only [strEq_t, strEq_f, decide_eq_true_eq, decide_eq_false_iff_not, beq_iff_eq, beq_eq_false_iff_ne, bne_iff_ne, bne_eq_false_iff_eq, Bool.not_eq_true', Bool.not_eq_false', Bool.not_true, Bool.not_false, gt_iff_lt, ge_iff_le, Int.not_lt, Int.not_le, ne_eq, Bool.false_eq_true, not_true_eq_false, reduceCtorEq] at hs_) <;> (try (exfalso; first | exact hs_ | (exact hs_ rfl) | omega))) | (refine WX_is ?_; first | refine wx_ ?_ | exact WX_altnil | (refine WX_isRd ?_; first | (refine WX_isT ?_; refine WX_readT rfl rfl rfl rfl rfl (by (first | refine wl_ ?_); refine WL_nil ?_; exact DR_mk rfl) ?_) | (refine WX_isF ?_; refine WX_read rfl rfl rfl rfl rfl (fun w_ hx_ => by (first | refine wl_ ?_); refine WL_nil ?_; exact DR_mk rfl) ?_) | refine WX_nilP rfl rfl rfl rfl rfl rfl ?_ | refine wxg_ ?_) | (refine WX_isAct ?_; first | refine WX_eff1 rfl (fun _ _ => ?_) | refine WX_eff rfl (fun _ _ => ?_) ?_))))
    all_goals first | (exfalso; omega) | skip
    all_goals exact ⟨_, _, rfl, hDR.other hBr4 hx_ (by decide) (by decide), ext_⟩
end Go.Proofs.Ytejdjpjaahfnaaa.K
set_option linter.unusedVariables false
set_option linter.unusedSimpArgs false
set_option maxHeartbeats 4000000
set_option maxRecDepth 20000
namespace Go.Proofs.Ytejdjpjaahfnaaa.K
open Go.RowKit
attribute [local irreducible] strEq strOfNums Calls WL WC WQ WX Code.wp wpList bodyPost
theorem zo0_st : Zst zo0 := ⟨by simp [zo0], by decide, by decide, by decide⟩
/-- A device of one empty zone goes on. -/
structure Okk (a b f g : List Int) (de : Int) : Prop where
  a : a.length = 128 ∧ ∀ x ∈ a, 0 ≤ x ∧ x < 256
  b : b.length = 128 ∧ ∀ x ∈ b, 0 ≤ x ∧ x < 256
  f : (f.length = 0 ∨ f.length = 128) ∧ ∀ x ∈ f, 0 ≤ x ∧ x < 256
  g : (g.length = 0 ∨ g.length = 128) ∧ ∀ x ∈ g, 0 ≤ x ∧ x < 256
  e : 0 ≤ de ∧ de ≤ 1000000
theorem Okk.w {a b f g : List Int} {de : Int} (h : Okk a b f g de) : DvW (dvA a b f g de) := by
  have h1 := h.a.1
  have h2 := h.b.1
  have h3 := h.f.1
  have h4 := h.g.1
  have h5 := h.e
  refine ⟨fun z hz => ?_, ⟨h.a.2, ?_⟩, ⟨h.b.2, ?_⟩, ⟨h.f.2, ?_⟩, ⟨h.g.2, ?_⟩, ?_, ?_, ?_, ?_, ?_⟩
  · obtain rfl : z = zo0 := by simpa [dvA] using hz
    exact zo0_st
  all_goals simp only [dvA, List.length_cons, List.length_nil]
  all_goals omega
theorem Okk.go {a b f g : List Int} {de : Int} (h : Okk a b f g de) : Go1 (dvA a b f g de) := by
  refine ⟨⟨fun z hz => ?_, ⟨h.a.1, h.f.1⟩, ⟨h.b.1, h.g.1⟩, by simp [dvA], by simp [dvA], by simp [dvA]⟩, rfl, rfl, rfl, h.e⟩
  obtain rfl : z = zo0 := by simpa [dvA] using hz
  show OkZ zo0 8
  decide
theorem dvA_fl {a b f g : List Int} {de : Int} : ∀ z ∈ (dvA a b f g de).zs, flZ z = z := by
  intro z hz
  obtain rfl : z = zo0 := by simpa [dvA] using hz
  rfl
theorem z128_ok : z128.length = 128 ∧ ∀ x ∈ z128, 0 ≤ x ∧ x < 256 := ⟨rfl, fun x hx => by have := List.eq_of_mem_replicate hx; omega⟩
theorem nil_ok : (([] : List Int).length = 0 ∨ ([] : List Int).length = 128) ∧ ∀ x ∈ ([] : List Int), 0 ≤ x ∧ x < 256 := ⟨.inl rfl, by simp⟩
theorem full_ok {a : List Int} (h : a.length = 128 ∧ ∀ x ∈ a, 0 ≤ x ∧ x < 256) : (a.length = 0 ∨ a.length = 128) ∧ ∀ x ∈ a, 0 ≤ x ∧ x < 256 := ⟨.inr h.1, h.2⟩
/-- A root sector laid, at either place. -/
theorem devA_R0_calls {a b f g : List Int} {de : Int} (h : Okk a b f g de) (A : Option Addr) (c : Nat) (bs : List Int) (w : World) (s : Ds) (zp : List (Zo × Sl)) (hM : DM w (dvA a b f g de) s zp) (hl : bs.length = 128) (hc : 128 ≤ c ∧ c ≤ 9223372036854775807) (hC : Cells w A (bs.map (.int .u8))) :
    Calls Try.prog 26 #[.agg (dvC (dvA a b f g de) s).toArray, .agg #[.int .i64 5, .int .i64 0, .slice A 128 c]] w fun e w' => ∃ s2 zp2, e = .returned (.tuple #[.agg (dvC (dvA a b bs g (de + 1)) s2).toArray, .int .i64 0]) ∧ DRw w.heap.size w' (dvA a b bs g (de + 1)) s2 zp2 ∧ Ext w w' :=
  dev_DoR_calls 0 ⟨A, 128, c⟩ bs w (dvA a b f g de) s zp h.w h.go hM ⟨hl, hc, hC⟩ hl (.inl rfl)
theorem devA_R1_calls {a b f g : List Int} {de : Int} (h : Okk a b f g de) (A : Option Addr) (c : Nat) (bs : List Int) (w : World) (s : Ds) (zp : List (Zo × Sl)) (hM : DM w (dvA a b f g de) s zp) (hl : bs.length = 128) (hc : 128 ≤ c ∧ c ≤ 9223372036854775807) (hC : Cells w A (bs.map (.int .u8))) :
    Calls Try.prog 26 #[.agg (dvC (dvA a b f g de) s).toArray, .agg #[.int .i64 5, .int .i64 1, .slice A 128 c]] w fun e w' => ∃ s2 zp2, e = .returned (.tuple #[.agg (dvC (dvA a b f bs (de + 1)) s2).toArray, .int .i64 0]) ∧ DRw w.heap.size w' (dvA a b f bs (de + 1)) s2 zp2 ∧ Ext w w' :=
  dev_DoR_calls 1 ⟨A, 128, c⟩ bs w (dvA a b f g de) s zp h.w h.go hM ⟨hl, hc, hC⟩ hl (.inr rfl)
theorem devA_F_calls {a b f g : List Int} {de : Int} (h : Okk a b f g de) (n : Int) (A : Option Addr) (m c : Nat) (w : World) (s : Ds) (zp : List (Zo × Sl)) (hM : DM w (dvA a b f g de) s zp) :
    Calls Try.prog 26 #[.agg (dvC (dvA a b f g de) s).toArray, .agg #[.int .i64 4, .int .i64 n, .slice A m c]] w fun e w' => ∃ s2 zp2, e = .returned (.tuple #[.agg (dvC (dvA (neI f a) (neI g b) [] [] (de + 1)) s2).toArray, .int .i64 0]) ∧ DRw w.heap.size w' (dvA (neI f a) (neI g b) [] [] (de + 1)) s2 zp2 ∧ Ext w w' :=
  dev_DoF_calls n ⟨A, m, c⟩ w (dvA a b f g de) s zp h.w h.go hM dvA_fl
theorem neI_full {f a : List Int} (h : f.length = 128) : neI f a = f := if_neg om_
theorem neI_nil {a : List Int} : neI [] a = a := if_pos rfl
theorem law14_made_calls (a b : List Int) (A B : Option Addr) (c k : Nat) (w : World) (ha : a.length = 128 ∧ ∀ x ∈ a, 0 ≤ x ∧ x < 256) (hb : b.length = 128 ∧ ∀ x ∈ b, 0 ≤ x ∧ x < 256) (hc : 128 ≤ c ∧ c ≤ 9223372036854775807) (hk : 128 ≤ k ∧ k ≤ 9223372036854775807) (hC : Cells w A (a.map (.int .u8))) (hD : Cells w B (b.map (.int .u8))) :
    Calls Try.prog 24 #[.slice A 128 c, .slice B 128 k] w fun e w' => ∃ s2 zp2, e = .returned (.agg (dvC (dvA a b [] [] 3) s2).toArray) ∧ DRw w.heap.size w' (dvA a b [] [] 3) s2 zp2 ∧ Ext w w' := by
  have k0 : Okk z128 z128 [] [] 0 := ⟨z128_ok, z128_ok, nil_ok, nil_ok, by decide⟩
  have k1 : Okk z128 z128 a [] 1 := ⟨z128_ok, z128_ok, full_ok ha, nil_ok, by decide⟩
  have k2 : Okk z128 z128 a b 2 := ⟨z128_ok, z128_ok, full_ok ha, full_ok hb, by decide⟩
  have c0 := fun w => dev_New_calls w
  have c1 := fun w s zp hM hC => devA_R0_calls k0 A c a w s zp hM ha.1 hc hC
  have c2 := fun w s zp hM hD => devA_R1_calls k1 B k b w s zp hM hb.1 hk hD
  have c3 := fun w s zp hM => devA_F_calls k2 0 none 0 0 w s zp hM
  rw [neI_full ha.1, neI_full hb.1] at c3
  have q0 := dvC_one dv0 ds0
  have q1 := dvC_one (dvA z128 z128 [] [] 0)
  have q2 := dvC_one (dvA z128 z128 a [] (0 + 1))
  have q3 := dvC_one (dvA z128 z128 a b (1 + 1))
  have q4 := dvC_one (dvA a b [] [] (2 + 1))
  generalize dvA z128 z128 [] [] 0 = D0 at *
  refine calls_W (args := [.slice A 128 c, .slice B 128 k]) Try.func24 rfl 32 rfl ?_
  (repeat' (first | (refine WL_is ?_; first | refine WL_nil ?_ | refine wl_ ?_ | (refine WL_isFn ?_; refine WL_call rfl rfl rfl (c0 _) ?_; rintro _ w_ ⟨s1_, z1_, rfl, hM1_, hx_⟩; have hz_ := hx_.size; refine ⟨_, rfl, ?_⟩) | (refine WL_isFn ?_; refine WL_call rfl rfl rfl (c1 _ _ _ dm_ cells_) ?_; rintro _ w_ ⟨s2_, z2_, rfl, hM2_, hx_⟩; have hz_ := hx_.size; refine ⟨_, rfl, ?_⟩) | (refine WL_isFn ?_; refine WL_call rfl rfl rfl (c2 _ _ _ dm_ cells_) ?_; rintro _ w_ ⟨s3_, z3_, rfl, hM3_, hx_⟩; have hz_ := hx_.size; refine ⟨_, rfl, ?_⟩) | (refine WL_isFn ?_; refine WL_call rfl rfl rfl (c3 _ _ _ dm_) ?_; rintro _ w_ ⟨s4_, z4_, rfl, hM4_, hx_⟩; have hz_ := hx_.size; refine ⟨_, rfl, ?_⟩)) | (refine WC_is ?_; first | refine WC_seq (fun _ _ => ?_) | refine wc_ ?_) | (refine WQ_is ?_; first | refine wq_ ?_ | refine WQ_bodyCTT (Or.inl rfl) rfl rfl rfl rfl blk_ lr_ ?_ | refine WQ_bodyCTT (Or.inr rfl) rfl rfl rfl rfl blk_ lr_ ?_) | (refine Kb.mk ?_; intro b_ w_ hb_ hl_ hx_ hB_) | (refine Ks.mk ?_; intro w_ hz_ hx_ hB_) | (refine Ko.mk ?_; intro A_ c_ w_ hx_ ho_ hr_; have hz_ := hx_.size; have hq_ := own_cap ho_) | (refine Kp.mk ?_; intro A_ c_ w_ hx_ hz_ ho_ hr_ hp_; have hq_ := own_cap ho_) | (refine Kl.mk ?_; intro b_ w_ hb_ hl_ hx_ hB_ ho_) | (refine Km.mk ?_; intro b_ w_ hb_ hl_ hx_ ho_) | (refine Ke.mk ?_; intro r_ hr_) | (refine Kg.mk ?_ ?_ <;> intro hs_ <;> (try simp only [strEq_t, strEq_f, decide_eq_true_eq, decide_eq_false_iff_not, beq_iff_eq, beq_eq_false_iff_ne, bne_iff_ne, bne_eq_false_iff_eq, Bool.not_eq_true', Bool.not_eq_false', Bool.not_true, Bool.not_false, gt_iff_lt, ge_iff_le, Int.not_lt, Int.not_le, ne_eq, Bool.false_eq_true, not_true_eq_false, reduceCtorEq] at hs_) <;> (try (exfalso; first | exact hs_ | (exact hs_ rfl) | omega))) | (refine WX_is ?_; first | refine wx_ ?_ | exact WX_altnil | (refine WX_isRd ?_; first | (refine WX_isT ?_; refine WX_readT rfl rfl rfl rfl rfl (by (first | refine wl_ ?_); refine WL_nil ?_; exact DR_mk rfl) ?_) | (refine WX_isF ?_; refine WX_read rfl rfl rfl rfl rfl (fun w_ hx_ => by (first | refine wl_ ?_); refine WL_nil ?_; exact DR_mk rfl) ?_) | refine wxg_ ?_) | (refine WX_isAct ?_; first | refine WX_eff1 rfl (fun _ _ => ?_) | refine WX_eff rfl (fun _ _ => ?_) ?_))))
  all_goals exact ⟨_, _, rfl, dr_, ext_⟩
end Go.Proofs.Ytejdjpjaahfnaaa.K
