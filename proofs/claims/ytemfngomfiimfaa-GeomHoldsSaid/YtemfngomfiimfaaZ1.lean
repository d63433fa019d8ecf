/- Chapter 09 (zone): what a zone is and does, in plain words; own, takes, filled, Check, Copy. Seat-free. -/
import Derived.Test.YtemfngomfiimfaaTB
import Derived.Test.YtemfngomfiimfaaY
import Derived.Test.YtemfngomfiimfaaW
set_option linter.unusedVariables false
set_option linter.unusedSimpArgs false
set_option maxHeartbeats 4000000
set_option maxRecDepth 20000
namespace Go.Proofs.Ytemfngomfiimfaa.K
open Go.RowKit
attribute [local irreducible] strEq strOfNums Calls WL WC WQ WX Code.wp wpList bodyPost
/-- A zone: its state, its bytes, how many last. -/
structure Zo where
  s : Int
  d : List Int
  l : Int
def OkZ (z : Zo) (n : Int) : Prop := 1 ≤ n ∧ n ≤ 65536 ∧ (z.d.length : Int) ≤ n ∧ 0 ≤ z.l ∧ z.l ≤ z.d.length ∧ ((z.s = 0 ∧ z.d.length = 0) ∨ (z.s = 1 ∧ 0 < z.d.length ∧ (z.d.length : Int) < n) ∨ z.s = 2 ∨ z.s = 3 ∨ z.s = 4)
instance (z : Zo) (n : Int) : Decidable (OkZ z n) := by unfold OkZ; infer_instance
def okZ (z : Zo) (n : Int) : Bool := decide (OkZ z n)
theorem okZ_iff {z : Zo} {n : Int} : okZ z n = true ↔ OkZ z n := by unfold okZ; exact decide_eq_true_iff
theorem okZ_t {z : Zo} {n : Int} (h : OkZ z n) : okZ z n = true := okZ_iff.2 h
theorem okZ_f {z : Zo} {n : Int} (h : ¬ OkZ z n) : okZ z n = false := by unfold okZ; exact decide_eq_false h
def tkZ (s : Int) : Bool := decide (s = 0 ∨ s = 1)
def stZ (m : Nat) (n : Int) : Int := if m = 0 then 0 else if (m : Int) = n then 2 else 1
def appE (z : Zo) (n : Int) (k : Nat) : Int := if ¬ OkZ z n ∨ k = 0 then 1 else if (z.s ≠ 0 ∧ z.s ≠ 1) ∨ n - z.d.length < k then 90 else 0
def appZ (z : Zo) (n : Int) (bs : List Int) : Zo := if appE z n bs.length = 0 then ⟨stZ (z.d.length + bs.length) n, z.d ++ bs, z.l⟩ else z
def rsE (z : Zo) : Int := if z.s = 0 ∨ z.s = 1 ∨ z.s = 2 then 0 else 90
def rsZ (z : Zo) : Zo := if rsE z = 0 then ⟨0, [], 0⟩ else z
def fiE (z : Zo) : Int := if z.s = 0 ∨ z.s = 1 then 0 else 90
def fiZ (z : Zo) : Zo := if fiE z = 0 then ⟨2, z.d, z.l⟩ else z
def flZ (z : Zo) : Zo := ⟨z.s, z.d, z.d.length⟩
abbrev keepZ (z : Zo) (keep : Int) : Int := min (max keep z.l) (z.d.length : Int)
def crS (s : Int) (k : Nat) (n : Int) : Int := if s = 2 ∧ stZ k n = 1 then 2 else stZ k n
def crZ (z : Zo) (n keep : Int) : Zo :=
  if ¬ OkZ z n then z else if 3 ≤ z.s then ⟨z.s, z.d.take z.l.toNat, z.l⟩
  else ⟨crS z.s (keepZ z keep).toNat n, z.d.take (keepZ z keep).toNat, keepZ z keep⟩
def rdE (z : Zo) (at' n : Int) : Int := if z.s = 4 then 90 else if at' < 0 ∨ n < 0 ∨ at' > z.d.length ∨ n > z.d.length - at' then 1 else 0
def rdB (z : Zo) (at' n : Int) : List Int := if rdE z at' n = 0 then (z.d.drop at'.toNat).take n.toNat else []
/-- What is known of a zone that is handed in. -/
structure Zst (z : Zo) : Prop where
  bytes : ∀ x ∈ z.d, 0 ≤ x ∧ x < 256
  small : z.d.length ≤ 1000000
  sb : -9223372036854775808 ≤ z.s ∧ z.s ≤ 9223372036854775807
  lb : -9223372036854775808 ≤ z.l ∧ z.l ≤ 9223372036854775807
theorem isNone_cells {w : World} {A : Option Addr} {xs : List Int} {k : IntKind} (hC : Cells w A (xs.map (.int k))) (h : A = none) : xs = [] := by
  rcases hC with hC | ⟨ad, ha, _⟩
  · simpa using hC
  · rw [h] at ha; cases ha
theorem bytes_Clone_calls (xs : List Int) (A : Option Addr) (m c : Nat) (w : World) (hl : xs.length = m) (hs : m ≤ 1000000) (hC : Cells w A (xs.map (.int .u8))) :
    Calls Try.prog 34 #[.slice A m c] w fun e w' => ∃ A' c', e = .returned (.slice A' m c') ∧ w'.ownsRow w.heap.size 5 1 (.slice A' m c') m (xs.map (.int .u8)) ∧ Ext w w' := by
  refine calls_W (args := [.slice A m c]) Try.func34 rfl 8 rfl ?_
  cases A with
  | none =>
    have hx := isNone_cells hC rfl
    subst hx
    simp at hl
    subst hl
    (repeat' (first | (refine WL_is ?_; first | refine WL_nil ?_ | refine wl_ ?_ ) | (refine WC_is ?_; first | refine WC_seq (fun _ _ => ?_) | refine wc_ ?_) | (refine WQ_is ?_; first | refine wq_ ?_) | (refine Kb.mk ?_; intro b_ w_ hb_ hl_ hx_ hB_) | (refine Ks.mk ?_; intro w_ hz_ hx_ hB_) | (refine Ko.mk ?_; intro A_ c_ w_ hx_ ho_ hr_; have hz_ := hx_.size; have hq_ := own_cap ho_) | (refine Kp.mk ?_; intro A_ c_ w_ hx_ hz_ ho_ hr_ hp_; have hq_ := own_cap ho_) | (refine Kl.mk ?_; intro b_ w_ hb_ hl_ hx_ hB_ ho_) | (refine Km.mk ?_; intro b_ w_ hb_ hl_ hx_ ho_) | (refine Ke.mk ?_; intro r_ hr_) | (refine Kg.mk ?_ ?_ <;> intro hs_ <;> (try simp only [strEq_t, strEq_f, decide_eq_true_eq, decide_eq_false_iff_not, beq_iff_eq, beq_eq_false_iff_ne, bne_iff_ne, bne_eq_false_iff_eq, Bool.not_eq_true', Bool.not_eq_false', Bool.not_true, Bool.not_false, gt_iff_lt, ge_iff_le, Int.not_lt, Int.not_le, ne_eq, Bool.false_eq_true, not_true_eq_false, reduceCtorEq] at hs_) <;> (try (exfalso; first | exact hs_ | (exact hs_ rfl) | omega))) ))
    all_goals exact ⟨none, 0, rfl, own_nil _ _ _ _, ext_⟩
  | some ad =>
    (repeat' (first | (refine WL_is ?_; first | refine WL_nil ?_ | refine wl_ ?_ ) | (refine WC_is ?_; first | refine WC_seq (fun _ _ => ?_) | refine wc_ ?_) | (refine WQ_is ?_; first | refine wq_ ?_) | (refine Kb.mk ?_; intro b_ w_ hb_ hl_ hx_ hB_) | (refine Ks.mk ?_; intro w_ hz_ hx_ hB_) | (refine Ko.mk ?_; intro A_ c_ w_ hx_ ho_ hr_; have hz_ := hx_.size; have hq_ := own_cap ho_) | (refine Kp.mk ?_; intro A_ c_ w_ hx_ hz_ ho_ hr_ hp_; have hq_ := own_cap ho_) | (refine Kl.mk ?_; intro b_ w_ hb_ hl_ hx_ hB_ ho_) | (refine Km.mk ?_; intro b_ w_ hb_ hl_ hx_ ho_) | (refine Ke.mk ?_; intro r_ hr_) | (refine Kg.mk ?_ ?_ <;> intro hs_ <;> (try simp only [strEq_t, strEq_f, decide_eq_true_eq, decide_eq_false_iff_not, beq_iff_eq, beq_eq_false_iff_ne, bne_iff_ne, bne_eq_false_iff_eq, Bool.not_eq_true', Bool.not_eq_false', Bool.not_true, Bool.not_false, gt_iff_lt, ge_iff_le, Int.not_lt, Int.not_le, ne_eq, Bool.false_eq_true, not_true_eq_false, reduceCtorEq] at hs_) <;> (try (exfalso; first | exact hs_ | (exact hs_ rfl) | omega))) ))
    all_goals exact ⟨_, _, rfl, own_, ext_⟩
theorem zone_own_calls (z : Zo) (A : Option Addr) (m c : Nat) (w : World) (hz : Zst z) (hl : z.d.length = m) (hC : Cells w A (z.d.map (.int .u8))) :
    Calls Try.prog 41 #[.agg #[.int .i64 z.s, .slice A m c, .int .i64 z.l]] w fun e w' => ∃ A' c', e = .returned (.agg #[.int .i64 z.s, .slice A' m c', .int .i64 z.l]) ∧ w'.ownsRow w.heap.size 5 1 (.slice A' m c') m (z.d.map (.int .u8)) ∧ Ext w w' := by
  have hs := hz.small
  refine calls_W (args := [.agg #[.int .i64 z.s, .slice A m c, .int .i64 z.l]]) Try.func41 rfl 8 rfl ?_
  (repeat' (first | (refine WL_is ?_; first | refine WL_nil ?_ | refine wl_ ?_ | (refine WL_isFn ?_; refine WL_call rfl rfl rfl (bytes_Clone_calls z.d _ _ _ _ hl om_ cells_) ?_; rintro _ w_ ⟨A_, c_, rfl, ho_, hx_⟩; have hz_ := hx_.size; have hr_ := own_rd ho_; have hq_ := own_cap ho_; refine ⟨_, rfl, ?_⟩)) | (refine WC_is ?_; first | refine WC_seq (fun _ _ => ?_) | refine wc_ ?_) | (refine WQ_is ?_; first | refine wq_ ?_) | (refine Kb.mk ?_; intro b_ w_ hb_ hl_ hx_ hB_) | (refine Ks.mk ?_; intro w_ hz_ hx_ hB_) | (refine Ko.mk ?_; intro A_ c_ w_ hx_ ho_ hr_; have hz_ := hx_.size; have hq_ := own_cap ho_) | (refine Kp.mk ?_; intro A_ c_ w_ hx_ hz_ ho_ hr_ hp_; have hq_ := own_cap ho_) | (refine Kl.mk ?_; intro b_ w_ hb_ hl_ hx_ hB_ ho_) | (refine Km.mk ?_; intro b_ w_ hb_ hl_ hx_ ho_) | (refine Ke.mk ?_; intro r_ hr_) | (refine Kg.mk ?_ ?_ <;> intro hs_ <;> (try simp only [strEq_t, strEq_f, decide_eq_true_eq, decide_eq_false_iff_not, beq_iff_eq, beq_eq_false_iff_ne, bne_iff_ne, bne_eq_false_iff_eq, Bool.not_eq_true', Bool.not_eq_false', Bool.not_true, Bool.not_false, gt_iff_lt, ge_iff_le, Int.not_lt, Int.not_le, ne_eq, Bool.false_eq_true, not_true_eq_false, reduceCtorEq] at hs_) <;> (try (exfalso; first | exact hs_ | (exact hs_ rfl) | omega))) ))
  all_goals exact ⟨_, _, rfl, own_, ext_⟩
theorem zone_takes_calls (s : Int) (A : Option Addr) (m c : Nat) (l : Int) (w : World) (b : Bool) (hb : tkZ s = b) :
    Calls Try.prog 42 #[.agg #[.int .i64 s, .slice A m c, .int .i64 l]] w fun e w' => e = .returned (.bool b) ∧ Ext w w' := by
  subst hb
  unfold tkZ
  refine calls_W (args := [.agg #[.int .i64 s, .slice A m c, .int .i64 l]]) Try.func42 rfl 9 rfl ?_
  (repeat' (first | (refine WL_is ?_; first | refine WL_nil ?_ | refine wl_ ?_ ) | (refine WC_is ?_; first | refine WC_seq (fun _ _ => ?_) | refine wc_ ?_) | (refine WQ_is ?_; first | refine wq_ ?_) | (refine Kb.mk ?_; intro b_ w_ hb_ hl_ hx_ hB_) | (refine Ks.mk ?_; intro w_ hz_ hx_ hB_) | (refine Ko.mk ?_; intro A_ c_ w_ hx_ ho_ hr_; have hz_ := hx_.size; have hq_ := own_cap ho_) | (refine Kp.mk ?_; intro A_ c_ w_ hx_ hz_ ho_ hr_ hp_; have hq_ := own_cap ho_) | (refine Kl.mk ?_; intro b_ w_ hb_ hl_ hx_ hB_ ho_) | (refine Km.mk ?_; intro b_ w_ hb_ hl_ hx_ ho_) | (refine Ke.mk ?_; intro r_ hr_) | (refine Kg.mk ?_ ?_ <;> intro hs_ <;> (try simp only [strEq_t, strEq_f, decide_eq_true_eq, decide_eq_false_iff_not, beq_iff_eq, beq_eq_false_iff_ne, bne_iff_ne, bne_eq_false_iff_eq, Bool.not_eq_true', Bool.not_eq_false', Bool.not_true, Bool.not_false, gt_iff_lt, ge_iff_le, Int.not_lt, Int.not_le, ne_eq, Bool.false_eq_true, not_true_eq_false, reduceCtorEq] at hs_) <;> (try (exfalso; first | exact hs_ | (exact hs_ rfl) | omega))) ))
  all_goals refine ⟨?_, ext_⟩
  all_goals
    congr 2
    symm
    simp only [decide_eq_true_eq, decide_eq_false_iff_not]
    omega
theorem zone_filled_calls (s : Int) (A : Option Addr) (m c : Nat) (l : Int) (n : Int) (w : World) :
    Calls Try.prog 43 #[.agg #[.int .i64 s, .slice A m c, .int .i64 l], .int .i64 n] w fun e w' => e = .returned (.agg #[.int .i64 (stZ m n), .slice A m c, .int .i64 l]) ∧ Ext w w' := by
  unfold stZ
  refine calls_W (args := [.agg #[.int .i64 s, .slice A m c, .int .i64 l], .int .i64 n]) Try.func43 rfl 17 rfl ?_
  (repeat' (first | (refine WL_is ?_; first | refine WL_nil ?_ | refine wl_ ?_ ) | (refine WC_is ?_; first | refine WC_seq (fun _ _ => ?_) | refine wc_ ?_) | (refine WQ_is ?_; first | refine wq_ ?_) | (refine Kb.mk ?_; intro b_ w_ hb_ hl_ hx_ hB_) | (refine Ks.mk ?_; intro w_ hz_ hx_ hB_) | (refine Ko.mk ?_; intro A_ c_ w_ hx_ ho_ hr_; have hz_ := hx_.size; have hq_ := own_cap ho_) | (refine Kp.mk ?_; intro A_ c_ w_ hx_ hz_ ho_ hr_ hp_; have hq_ := own_cap ho_) | (refine Kl.mk ?_; intro b_ w_ hb_ hl_ hx_ hB_ ho_) | (refine Km.mk ?_; intro b_ w_ hb_ hl_ hx_ ho_) | (refine Ke.mk ?_; intro r_ hr_) | (refine Kg.mk ?_ ?_ <;> intro hs_ <;> (try simp only [strEq_t, strEq_f, decide_eq_true_eq, decide_eq_false_iff_not, beq_iff_eq, beq_eq_false_iff_ne, bne_iff_ne, bne_eq_false_iff_eq, Bool.not_eq_true', Bool.not_eq_false', Bool.not_true, Bool.not_false, gt_iff_lt, ge_iff_le, Int.not_lt, Int.not_le, ne_eq, Bool.false_eq_true, not_true_eq_false, reduceCtorEq] at hs_) <;> (try (exfalso; first | exact hs_ | (exact hs_ rfl) | omega))) ))
  all_goals refine ⟨?_, ext_⟩
  · rw [if_pos om_]; rfl
  · rw [if_neg om_, if_pos om_]; rfl
  · rw [if_neg om_, if_neg om_]; rfl
theorem zone_Check_calls (z : Zo) (A : Option Addr) (m c : Nat) (n : Int) (w : World) (hz : Zst z) (hl : z.d.length = m) (b : Bool) (hb : okZ z n = b) :
    Calls Try.prog 30 #[.agg #[.int .i64 z.s, .slice A m c, .int .i64 z.l], .int .i64 n] w fun e w' => e = .returned (.bool b) ∧ Ext w w' := by
  subst hb
  refine calls_W (args := [.agg #[.int .i64 z.s, .slice A m c, .int .i64 z.l], .int .i64 n]) Try.func30 rfl 50 rfl ?_
  (repeat' (first | (refine WL_is ?_; first | refine WL_nil ?_ | refine wl_ ?_ ) | (refine WC_is ?_; first | refine WC_seq (fun _ _ => ?_) | refine wc_ ?_) | (refine WQ_is ?_; first | refine wq_ ?_) | (refine Kb.mk ?_; intro b_ w_ hb_ hl_ hx_ hB_) | (refine Ks.mk ?_; intro w_ hz_ hx_ hB_) | (refine Ko.mk ?_; intro A_ c_ w_ hx_ ho_ hr_; have hz_ := hx_.size; have hq_ := own_cap ho_) | (refine Kp.mk ?_; intro A_ c_ w_ hx_ hz_ ho_ hr_ hp_; have hq_ := own_cap ho_) | (refine Kl.mk ?_; intro b_ w_ hb_ hl_ hx_ hB_ ho_) | (refine Km.mk ?_; intro b_ w_ hb_ hl_ hx_ ho_) | (refine Ke.mk ?_; intro r_ hr_) | (refine Kg.mk ?_ ?_ <;> intro hs_ <;> (try simp only [strEq_t, strEq_f, decide_eq_true_eq, decide_eq_false_iff_not, beq_iff_eq, beq_eq_false_iff_ne, bne_iff_ne, bne_eq_false_iff_eq, Bool.not_eq_true', Bool.not_eq_false', Bool.not_true, Bool.not_false, gt_iff_lt, ge_iff_le, Int.not_lt, Int.not_le, ne_eq, Bool.false_eq_true, not_true_eq_false, reduceCtorEq] at hs_) <;> (try (exfalso; first | exact hs_ | (exact hs_ rfl) | omega))) ))
  all_goals refine ⟨?_, ext_⟩
  all_goals
    congr 2
    first
      | exact (okZ_t (by unfold OkZ; omega)).symm
      | exact (okZ_f (by unfold OkZ; omega)).symm
      | (rw [Bool.eq_iff_iff, okZ_iff]; unfold OkZ; simp only [beq_iff_eq, decide_eq_true_eq, gt_iff_lt]; omega)
end Go.Proofs.Ytemfngomfiimfaa.K
