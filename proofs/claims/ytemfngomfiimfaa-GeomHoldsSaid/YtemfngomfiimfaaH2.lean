/- Chapter 10 (dev): slices.Clone of zones; own: a device in memory of its own. Seat-free. -/
import Derived.Test.YtemfngomfiimfaaH1
set_option linter.unusedVariables false
set_option linter.unusedSimpArgs false
set_option maxHeartbeats 4000000
set_option maxRecDepth 20000
namespace Go.Proofs.Ytemfngomfiimfaa.K
open Go.RowKit
attribute [local irreducible] strEq strOfNums Calls WL WC WQ WX Code.wp wpList bodyPost
def dv0 : Dv := ⟨0, [], [], [], [], [], false, 0, 0, 0⟩
def sl0 : Sl := ⟨none, 0, 0⟩
def ds0 : Ds := ⟨sl0, sl0, sl0, sl0, sl0⟩
instance : TZc Try.prog 29 (dvC dv0 ds0) := ⟨by kernel_rfl⟩
theorem noneC {w : World} {A : Option Addr} {cs : List Value} (hC : Cells w A cs) (h : A = none) : cs = [] := by
  rcases hC with hC | ⟨ad, ha, _⟩
  · exact hC
  · rw [h] at ha; cases ha
theorem zp_nil {zp : List (Zo × Sl)} (h : catC zpC zp = []) : zp = [] := by
  have h1 := catC_length zpC_length zp
  rw [h] at h1
  exact List.eq_nil_of_length_eq_zero (by simp at h1; omega)
theorem slices_CloneZ_calls (zp : List (Zo × Sl)) (A : Option Addr) (m c : Nat) (w : World) (hl : zp.length = m) (hs : m ≤ 1000000) (hC : Cells w A (catC zpC zp)) :
    Calls Try.prog 33 #[.slice A m c] w fun e w' => ∃ A' c', e = .returned (.slice A' m c') ∧ w'.ownsRow w.heap.size ZoT 3 (.slice A' m c') m (catC zpC zp) ∧ Ext w w' := by
  have hcl : (catC zpC zp).length = m * 3 := by rw [catC_length zpC_length, hl]
  have h1 := zp_one zp
  cases A with
  | none =>
    have hx := noneC hC rfl
    obtain rfl : zp = [] := zp_nil hx
    obtain rfl : 0 = m := by simpa using hl
    refine calls_W (args := [.slice none 0 c]) Try.func33 rfl 8 rfl ?_
    (repeat' (first | (refine WL_is ?_; first | refine WL_nil ?_ | refine wl_ ?_ ) | (refine WC_is ?_; first | refine WC_seq (fun _ _ => ?_) | refine wc_ ?_) | (refine WQ_is ?_; first | refine wq_ ?_ | refine WQ_bodyAC (Or.inl rfl) rfl rfl rfl blk_ lr_ blk_ ?_ | refine WQ_bodyAC (Or.inr rfl) rfl rfl rfl blk_ lr_ blk_ ?_) | (refine Kb.mk ?_; intro b_ w_ hb_ hl_ hx_ hB_) | (refine Ks.mk ?_; intro w_ hz_ hx_ hB_) | (refine Ko.mk ?_; intro A_ c_ w_ hx_ ho_ hr_; have hz_ := hx_.size; have hq_ := own_cap ho_) | (refine Kp.mk ?_; intro A_ c_ w_ hx_ hz_ ho_ hr_ hp_; have hq_ := own_cap ho_) | (refine Kl.mk ?_; intro b_ w_ hb_ hl_ hx_ hB_ ho_) | (refine Km.mk ?_; intro b_ w_ hb_ hl_ hx_ ho_) | (refine Ke.mk ?_; intro r_ hr_) | (refine Kg.mk ?_ ?_ <;> intro hs_ <;> (try simp only [strEq_t, strEq_f, decide_eq_true_eq, decide_eq_false_iff_not, beq_iff_eq, beq_eq_false_iff_ne, bne_iff_ne, bne_eq_false_iff_eq, Bool.not_eq_true', Bool.not_eq_false', Bool.not_true, Bool.not_false, gt_iff_lt, ge_iff_le, Int.not_lt, Int.not_le, ne_eq, Bool.false_eq_true, not_true_eq_false, reduceCtorEq] at hs_) <;> (try (exfalso; first | exact hs_ | (exact hs_ rfl) | omega))) ))
    all_goals exact ⟨none, 0, rfl, own_nil _ _ _ _, ext_⟩
  | some ad =>
    generalize catC zpC zp = cs at *
    refine calls_W (args := [.slice (some ad) m c]) Try.func33 rfl 8 rfl ?_
    (repeat' (first | (refine WL_is ?_; first | refine WL_nil ?_ | (refine WL_lit0 rfl rfl rfl ?_; intro b_ w_ hb_ hl_ hx_ hB_ ho_) | (refine WL_isCall ?_; refine WL_isApp ?_; refine WL_appS rfl rfl rfl rfl rfl rfl as_ keepo_ om_ cells_ hcl h1 om_ om_ ?_; intro A_ c_ w_ hx_ hz_ ho_ hr_ hp_) | refine wl_ ?_ ) | (refine WC_is ?_; first | refine WC_seq (fun _ _ => ?_) | refine wc_ ?_) | (refine WQ_is ?_; first | refine wq_ ?_ | refine WQ_bodyAC (Or.inl rfl) rfl rfl rfl blk_ lr_ blk_ ?_ | refine WQ_bodyAC (Or.inr rfl) rfl rfl rfl blk_ lr_ blk_ ?_) | (refine Kb.mk ?_; intro b_ w_ hb_ hl_ hx_ hB_) | (refine Ks.mk ?_; intro w_ hz_ hx_ hB_) | (refine Ko.mk ?_; intro A_ c_ w_ hx_ ho_ hr_; have hz_ := hx_.size; have hq_ := own_cap ho_) | (refine Kp.mk ?_; intro A_ c_ w_ hx_ hz_ ho_ hr_ hp_; have hq_ := own_cap ho_) | (refine Kl.mk ?_; intro b_ w_ hb_ hl_ hx_ hB_ ho_) | (refine Km.mk ?_; intro b_ w_ hb_ hl_ hx_ ho_) | (refine Ke.mk ?_; intro r_ hr_) | (refine Kg.mk ?_ ?_ <;> intro hs_ <;> (try simp only [strEq_t, strEq_f, decide_eq_true_eq, decide_eq_false_iff_not, beq_iff_eq, beq_eq_false_iff_ne, bne_iff_ne, bne_eq_false_iff_eq, Bool.not_eq_true', Bool.not_eq_false', Bool.not_true, Bool.not_false, gt_iff_lt, ge_iff_le, Int.not_lt, Int.not_le, ne_eq, Bool.false_eq_true, not_true_eq_false, reduceCtorEq] at hs_) <;> (try (exfalso; first | exact hs_ | (exact hs_ rfl) | omega))) ))
    all_goals
      rw [Nat.zero_add, List.nil_append] at ho_
      exact ⟨_, _, by rw [Nat.zero_add], own_, ext_⟩
end Go.Proofs.Ytemfngomfiimfaa.K
