/- Chapter 09 (zone): what a zone is and does, in plain words; own, takes, filled, Check, Copy. Seat-free. | Chapter 09 (zone): Append, Reset, Finish, Flush, the program's and the document's. Seat-free. | Chapter 09 (zone): Reset, Finish, Flush, Read, Same, the program's and the document's. Seat-free. | Chapter 09 (zone): Crash, the program's and the document's. Seat-free. | Rules: nil checks, interfaces, type assertions, results out of an aggregate's cell and another one. Seat-free. | Rules: make of structs. Seat-free. | Chapter 10 (dev): what a device is and does, in plain words; devices in memory. Seat-free. | Chapter 10 (dev): slices.Clone of zones; own: a device in memory of its own. Seat-free. | Chapter 10 (dev): own: a device in memory of its own, with which something was done. Seat-free. -/
import Derived.Test.YtejdjpjaahfnaaaTB
import Derived.Test.YtejdjpjaahfnaaaY
import Derived.Test.YtejdjpjaahfnaaaW
import Derived.Test.YtejdjpjaahfnaaaU1
set_option linter.unusedVariables false
set_option linter.unusedSimpArgs false
set_option maxHeartbeats 4000000
set_option maxRecDepth 20000
namespace Go.Proofs.Ytejdjpjaahfnaaa.K
open Go.RowKit
attribute [local irreducible] strEq strOfNums Calls WL WC WQ WX Code.wp wpList bodyPost
/-- A zone: its state, its bytes, how many last. -/
structure Zo where
  s : Int
  d : List Int
  l : Int
def OkZ (z : Zo) (n : Int) : Prop := 1 ≤ n ∧ n ≤ 65536 ∧ (z.d.length : Int) ≤ n ∧ 0 ≤ z.l ∧ z.l ≤ z.d.length ∧ ((z.s = 0 ∧ z.d.length = 0) ∨ (z.s = 1 ∧ 0 < z.d.length ∧ (z.d.length : Int) < n) ∨ z.s = 2 ∨ z.s = 3 ∨ z.s = 4)
instance (z : Zo) (n : Int) : Decidable (OkZ z n) := by unfold OkZ; infer_instance
def okZ (z : Zo) (n : Int) : Bool := decide (OkZ z n)
theorem okZ_iff {z : Zo} {n : Int} : okZ z n = true ↔ OkZ z n := by unfold okZ; exact decide_eq_true_iff
theorem okZ_t {z : Zo} {n : Int} (h : OkZ z n) : okZ z n = true := okZ_iff.2 h
theorem okZ_f {z : Zo} {n : Int} (h : ¬ OkZ z n) : okZ z n = false := by unfold okZ; exact decide_eq_false h
def tkZ (s : Int) : Bool := decide (s = 0 ∨ s = 1)
def stZ (m : Nat) (n : Int) : Int := if m = 0 then 0 else if (m : Int) = n then 2 else 1
def appE (z : Zo) (n : Int) (k : Nat) : Int := if ¬ OkZ z n ∨ k = 0 then 1 else if (z.s ≠ 0 ∧ z.s ≠ 1) ∨ n - z.d.length < k then 90 else 0
def appZ (z : Zo) (n : Int) (bs : List Int) : Zo := if appE z n bs.length = 0 then ⟨stZ (z.d.length + bs.length) n, z.d ++ bs, z.l⟩ else z
def rsE (z : Zo) : Int := if z.s = 0 ∨ z.s = 1 ∨ z.s = 2 then 0 else 90
def rsZ (z : Zo) : Zo := if rsE z = 0 then ⟨0, [], 0⟩ else z
def fiE (z : Zo) : Int := if z.s = 0 ∨ z.s = 1 then 0 else 90
def fiZ (z : Zo) : Zo := if fiE z = 0 then ⟨2, z.d, z.l⟩ else z
def flZ (z : Zo) : Zo := ⟨z.s, z.d, z.d.length⟩
abbrev keepZ (z : Zo) (keep : Int) : Int := min (max keep z.l) (z.d.length : Int)
def crS (s : Int) (k : Nat) (n : Int) : Int := if s = 2 ∧ stZ k n = 1 then 2 else stZ k n
def crZ (z : Zo) (n keep : Int) : Zo :=
  if ¬ OkZ z n then z else if 3 ≤ z.s then ⟨z.s, z.d.take z.l.toNat, z.l⟩
  else ⟨crS z.s (keepZ z keep).toNat n, z.d.take (keepZ z keep).toNat, keepZ z keep⟩
def rdE (z : Zo) (at' n : Int) : Int := if z.s = 4 then 90 else if at' < 0 ∨ n < 0 ∨ at' > z.d.length ∨ n > z.d.length - at' then 1 else 0
def rdB (z : Zo) (at' n : Int) : List Int := if rdE z at' n = 0 then (z.d.drop at'.toNat).take n.toNat else []
/-- What is known of a zone that is handed in. -/
structure Zst (z : Zo) : Prop where
  bytes : ∀ x ∈ z.d, 0 ≤ x ∧ x < 256
  small : z.d.length ≤ 1000000
  sb : -9223372036854775808 ≤ z.s ∧ z.s ≤ 9223372036854775807
  lb : -9223372036854775808 ≤ z.l ∧ z.l ≤ 9223372036854775807
theorem isNone_cells {w : World} {A : Option Addr} {xs : List Int} {k : IntKind} (hC : Cells w A (xs.map (.int k))) (h : A = none) : xs = [] := by
  rcases hC with hC | ⟨ad, ha, _⟩
  · simpa using hC
  · rw [h] at ha; cases ha
theorem bytes_Clone_calls (xs : List Int) (A : Option Addr) (m c : Nat) (w : World) (hl : xs.length = m) (hs : m ≤ 1000000) (hC : Cells w A (xs.map (.int .u8))) :
    Calls Try.prog 68 #[.slice A m c] w fun e w' => ∃ A' c', e = .returned (.slice A' m c') ∧ w'.ownsRow w.heap.size 5 1 (.slice A' m c') m (xs.map (.int .u8)) ∧ Ext w w' := by
  refine calls_W (args := [.slice A m c]) Try.func68 rfl 8 rfl ?_
  cases A with
  | none =>
    have hx := isNone_cells hC rfl
    subst hx
    simp at hl
    subst hl
    (repeat' (first | (refine WL_is ?_; first | refine WL_nil ?_ | refine wl_ ?_ ) | (refine WC_is ?_; first | refine WC_seq (fun _ _ => ?_) | refine wc_ ?_) | (refine WQ_is ?_; first | refine wq_ ?_) | (refine Kb.mk ?_; intro b_ w_ hb_ hl_ hx_ hB_) | (refine Ks.mk ?_; intro w_ hz_ hx_ hB_) | (refine Ko.mk ?_; intro A_ c_ w_ hx_ ho_ hr_; have hz_ := hx_.size; have hq_ := own_cap ho_) | (refine Kp.mk ?_; intro A_ c_ w_ hx_ hz_ ho_ hr_ hp_; have hq_ := own_cap ho_) | (refine Kl.mk ?_; intro b_ w_ hb_ hl_ hx_ hB_ ho_) | (refine Km.mk ?_; intro b_ w_ hb_ hl_ hx_ ho_) | (refine Ke.mk ?_; intro r_ hr_) | (refine Kg.mk ?_ ?_ <;> intro hs_ <;> (try simp only [strEq_t, strEq_f, decide_eq_true_eq, decide_eq_false_iff_not, beq_iff_eq, beq_eq_false_iff_ne, bne_iff_ne, bne_eq_false_iff_eq, Bool.not_eq_true', Bool.not_eq_false', Bool.not_true, Bool.not_false, gt_iff_lt, ge_iff_le, Int.not_lt, Int.not_le, ne_eq, Bool.false_eq_true, not_true_eq_false, reduceCtorEq] at hs_) <;> (try (exfalso; first | exact hs_ | (exact hs_ rfl) | omega))) ))
    all_goals exact ⟨none, 0, rfl, own_nil _ _ _ _, ext_⟩
  | some ad =>
    (repeat' (first | (refine WL_is ?_; first | refine WL_nil ?_ | refine wl_ ?_ ) | (refine WC_is ?_; first | refine WC_seq (fun _ _ => ?_) | refine wc_ ?_) | (refine WQ_is ?_; first | refine wq_ ?_) | (refine Kb.mk ?_; intro b_ w_ hb_ hl_ hx_ hB_) | (refine Ks.mk ?_; intro w_ hz_ hx_ hB_) | (refine Ko.mk ?_; intro A_ c_ w_ hx_ ho_ hr_; have hz_ := hx_.size; have hq_ := own_cap ho_) | (refine Kp.mk ?_; intro A_ c_ w_ hx_ hz_ ho_ hr_ hp_; have hq_ := own_cap ho_) | (refine Kl.mk ?_; intro b_ w_ hb_ hl_ hx_ hB_ ho_) | (refine Km.mk ?_; intro b_ w_ hb_ hl_ hx_ ho_) | (refine Ke.mk ?_; intro r_ hr_) | (refine Kg.mk ?_ ?_ <;> intro hs_ <;> (try simp only [strEq_t, strEq_f, decide_eq_true_eq, decide_eq_false_iff_not, beq_iff_eq, beq_eq_false_iff_ne, bne_iff_ne, bne_eq_false_iff_eq, Bool.not_eq_true', Bool.not_eq_false', Bool.not_true, Bool.not_false, gt_iff_lt, ge_iff_le, Int.not_lt, Int.not_le, ne_eq, Bool.false_eq_true, not_true_eq_false, reduceCtorEq] at hs_) <;> (try (exfalso; first | exact hs_ | (exact hs_ rfl) | omega))) ))
    all_goals exact ⟨_, _, rfl, own_, ext_⟩
theorem zone_own_calls (z : Zo) (A : Option Addr) (m c : Nat) (w : World) (hz : Zst z) (hl : z.d.length = m) (hC : Cells w A (z.d.map (.int .u8))) :
    Calls Try.prog 75 #[.agg #[.int .i64 z.s, .slice A m c, .int .i64 z.l]] w fun e w' => ∃ A' c', e = .returned (.agg #[.int .i64 z.s, .slice A' m c', .int .i64 z.l]) ∧ w'.ownsRow w.heap.size 5 1 (.slice A' m c') m (z.d.map (.int .u8)) ∧ Ext w w' := by
  have hs := hz.small
  refine calls_W (args := [.agg #[.int .i64 z.s, .slice A m c, .int .i64 z.l]]) Try.func75 rfl 8 rfl ?_
  (repeat' (first | (refine WL_is ?_; first | refine WL_nil ?_ | refine wl_ ?_ | (refine WL_isFn ?_; refine WL_call rfl rfl rfl (bytes_Clone_calls z.d _ _ _ _ hl om_ cells_) ?_; rintro _ w_ ⟨A_, c_, rfl, ho_, hx_⟩; have hz_ := hx_.size; have hr_ := own_rd ho_; have hq_ := own_cap ho_; refine ⟨_, rfl, ?_⟩)) | (refine WC_is ?_; first | refine WC_seq (fun _ _ => ?_) | refine wc_ ?_) | (refine WQ_is ?_; first | refine wq_ ?_) | (refine Kb.mk ?_; intro b_ w_ hb_ hl_ hx_ hB_) | (refine Ks.mk ?_; intro w_ hz_ hx_ hB_) | (refine Ko.mk ?_; intro A_ c_ w_ hx_ ho_ hr_; have hz_ := hx_.size; have hq_ := own_cap ho_) | (refine Kp.mk ?_; intro A_ c_ w_ hx_ hz_ ho_ hr_ hp_; have hq_ := own_cap ho_) | (refine Kl.mk ?_; intro b_ w_ hb_ hl_ hx_ hB_ ho_) | (refine Km.mk ?_; intro b_ w_ hb_ hl_ hx_ ho_) | (refine Ke.mk ?_; intro r_ hr_) | (refine Kg.mk ?_ ?_ <;> intro hs_ <;> (try simp only [strEq_t, strEq_f, decide_eq_true_eq, decide_eq_false_iff_not, beq_iff_eq, beq_eq_false_iff_ne, bne_iff_ne, bne_eq_false_iff_eq, Bool.not_eq_true', Bool.not_eq_false', Bool.not_true, Bool.not_false, gt_iff_lt, ge_iff_le, Int.not_lt, Int.not_le, ne_eq, Bool.false_eq_true, not_true_eq_false, reduceCtorEq] at hs_) <;> (try (exfalso; first | exact hs_ | (exact hs_ rfl) | omega))) ))
  all_goals exact ⟨_, _, rfl, own_, ext_⟩
theorem zone_takes_calls (s : Int) (A : Option Addr) (m c : Nat) (l : Int) (w : World) (b : Bool) (hb : tkZ s = b) :
    Calls Try.prog 83 #[.agg #[.int .i64 s, .slice A m c, .int .i64 l]] w fun e w' => e = .returned (.bool b) ∧ Ext w w' := by
  subst hb
  unfold tkZ
  refine calls_W (args := [.agg #[.int .i64 s, .slice A m c, .int .i64 l]]) Try.func83 rfl 9 rfl ?_
  (repeat' (first | (refine WL_is ?_; first | refine WL_nil ?_ | refine wl_ ?_ ) | (refine WC_is ?_; first | refine WC_seq (fun _ _ => ?_) | refine wc_ ?_) | (refine WQ_is ?_; first | refine wq_ ?_) | (refine Kb.mk ?_; intro b_ w_ hb_ hl_ hx_ hB_) | (refine Ks.mk ?_; intro w_ hz_ hx_ hB_) | (refine Ko.mk ?_; intro A_ c_ w_ hx_ ho_ hr_; have hz_ := hx_.size; have hq_ := own_cap ho_) | (refine Kp.mk ?_; intro A_ c_ w_ hx_ hz_ ho_ hr_ hp_; have hq_ := own_cap ho_) | (refine Kl.mk ?_; intro b_ w_ hb_ hl_ hx_ hB_ ho_) | (refine Km.mk ?_; intro b_ w_ hb_ hl_ hx_ ho_) | (refine Ke.mk ?_; intro r_ hr_) | (refine Kg.mk ?_ ?_ <;> intro hs_ <;> (try simp only [strEq_t, strEq_f, decide_eq_true_eq, decide_eq_false_iff_not, beq_iff_eq, beq_eq_false_iff_ne, bne_iff_ne, bne_eq_false_iff_eq, Bool.not_eq_true', Bool.not_eq_false', Bool.not_true, Bool.not_false, gt_iff_lt, ge_iff_le, Int.not_lt, Int.not_le, ne_eq, Bool.false_eq_true, not_true_eq_false, reduceCtorEq] at hs_) <;> (try (exfalso; first | exact hs_ | (exact hs_ rfl) | omega))) ))
  all_goals refine ⟨?_, ext_⟩
  all_goals
    congr 2
    symm
    simp only [decide_eq_true_eq, decide_eq_false_iff_not]
    omega
theorem zone_filled_calls (s : Int) (A : Option Addr) (m c : Nat) (l : Int) (n : Int) (w : World) :
    Calls Try.prog 76 #[.agg #[.int .i64 s, .slice A m c, .int .i64 l], .int .i64 n] w fun e w' => e = .returned (.agg #[.int .i64 (stZ m n), .slice A m c, .int .i64 l]) ∧ Ext w w' := by
  unfold stZ
  refine calls_W (args := [.agg #[.int .i64 s, .slice A m c, .int .i64 l], .int .i64 n]) Try.func76 rfl 17 rfl ?_
  (repeat' (first | (refine WL_is ?_; first | refine WL_nil ?_ | refine wl_ ?_ ) | (refine WC_is ?_; first | refine WC_seq (fun _ _ => ?_) | refine wc_ ?_) | (refine WQ_is ?_; first | refine wq_ ?_) | (refine Kb.mk ?_; intro b_ w_ hb_ hl_ hx_ hB_) | (refine Ks.mk ?_; intro w_ hz_ hx_ hB_) | (refine Ko.mk ?_; intro A_ c_ w_ hx_ ho_ hr_; have hz_ := hx_.size; have hq_ := own_cap ho_) | (refine Kp.mk ?_; intro A_ c_ w_ hx_ hz_ ho_ hr_ hp_; have hq_ := own_cap ho_) | (refine Kl.mk ?_; intro b_ w_ hb_ hl_ hx_ hB_ ho_) | (refine Km.mk ?_; intro b_ w_ hb_ hl_ hx_ ho_) | (refine Ke.mk ?_; intro r_ hr_) | (refine Kg.mk ?_ ?_ <;> intro hs_ <;> (try simp only [strEq_t, strEq_f, decide_eq_true_eq, decide_eq_false_iff_not, beq_iff_eq, beq_eq_false_iff_ne, bne_iff_ne, bne_eq_false_iff_eq, Bool.not_eq_true', Bool.not_eq_false', Bool.not_true, Bool.not_false, gt_iff_lt, ge_iff_le, Int.not_lt, Int.not_le, ne_eq, Bool.false_eq_true, not_true_eq_false, reduceCtorEq] at hs_) <;> (try (exfalso; first | exact hs_ | (exact hs_ rfl) | omega))) ))
  all_goals refine ⟨?_, ext_⟩
  · rw [if_pos om_]; rfl
  · rw [if_neg om_, if_pos om_]; rfl
  · rw [if_neg om_, if_neg om_]; rfl
theorem zone_Check_calls (z : Zo) (A : Option Addr) (m c : Nat) (n : Int) (w : World) (hz : Zst z) (hl : z.d.length = m) (b : Bool) (hb : okZ z n = b) :
    Calls Try.prog 71 #[.agg #[.int .i64 z.s, .slice A m c, .int .i64 z.l], .int .i64 n] w fun e w' => e = .returned (.bool b) ∧ Ext w w' := by
  subst hb
  refine calls_W (args := [.agg #[.int .i64 z.s, .slice A m c, .int .i64 z.l], .int .i64 n]) Try.func71 rfl 50 rfl ?_
  (repeat' (first | (refine WL_is ?_; first | refine WL_nil ?_ | refine wl_ ?_ ) | (refine WC_is ?_; first | refine WC_seq (fun _ _ => ?_) | refine wc_ ?_) | (refine WQ_is ?_; first | refine wq_ ?_) | (refine Kb.mk ?_; intro b_ w_ hb_ hl_ hx_ hB_) | (refine Ks.mk ?_; intro w_ hz_ hx_ hB_) | (refine Ko.mk ?_; intro A_ c_ w_ hx_ ho_ hr_; have hz_ := hx_.size; have hq_ := own_cap ho_) | (refine Kp.mk ?_; intro A_ c_ w_ hx_ hz_ ho_ hr_ hp_; have hq_ := own_cap ho_) | (refine Kl.mk ?_; intro b_ w_ hb_ hl_ hx_ hB_ ho_) | (refine Km.mk ?_; intro b_ w_ hb_ hl_ hx_ ho_) | (refine Ke.mk ?_; intro r_ hr_) | (refine Kg.mk ?_ ?_ <;> intro hs_ <;> (try simp only [strEq_t, strEq_f, decide_eq_true_eq, decide_eq_false_iff_not, beq_iff_eq, beq_eq_false_iff_ne, bne_iff_ne, bne_eq_false_iff_eq, Bool.not_eq_true', Bool.not_eq_false', Bool.not_true, Bool.not_false, gt_iff_lt, ge_iff_le, Int.not_lt, Int.not_le, ne_eq, Bool.false_eq_true, not_true_eq_false, reduceCtorEq] at hs_) <;> (try (exfalso; first | exact hs_ | (exact hs_ rfl) | omega))) ))
  all_goals refine ⟨?_, ext_⟩
  all_goals
    congr 2
    first
      | exact (okZ_t (by unfold OkZ; omega)).symm
      | exact (okZ_f (by unfold OkZ; omega)).symm
      | (rw [Bool.eq_iff_iff, okZ_iff]; unfold OkZ; simp only [beq_iff_eq, decide_eq_true_eq, gt_iff_lt]; omega)
end Go.Proofs.Ytejdjpjaahfnaaa.K
set_option linter.unusedVariables false
set_option linter.unusedSimpArgs false
set_option maxHeartbeats 4000000
set_option maxRecDepth 20000
namespace Go.Proofs.Ytejdjpjaahfnaaa.K
open Go.RowKit
attribute [local irreducible] strEq strOfNums Calls WL WC WQ WX Code.wp wpList bodyPost
theorem zone_Append_calls (z : Zo) (bs : List Int) (A B : Option Addr) (m c k e : Nat) (n : Int) (w : World) (hz : Zst z) (hl : z.d.length = m) (hk : bs.length = k) (hks : k ≤ 1000000) (hn : -9223372036854775808 ≤ n ∧ n ≤ 9223372036854775807) (hc : m ≤ c ∧ c ≤ 9223372036854775807) (hC : Cells w A (z.d.map (.int .u8))) (hB : Cells w B (bs.map (.int .u8))) :
    Calls Try.prog 82 #[.agg #[.int .i64 z.s, .slice A m c, .int .i64 z.l], .int .i64 n, .slice B k e] w fun r w' => ∃ A' c', r = .returned (.tuple #[.agg #[.int .i64 (appZ z n bs).s, .slice A' (appZ z n bs).d.length c', .int .i64 (appZ z n bs).l], .int .i64 (appE z n k)]) ∧ w'.ownsRow w.heap.size 5 1 (.slice A' (appZ z n bs).d.length c') (appZ z n bs).d.length ((appZ z n bs).d.map (.int .u8)) ∧ Ext w w' := by
  have hs := hz.small
  subst hl; subst hk
  unfold appZ
  refine calls_W (args := [.agg #[.int .i64 z.s, .slice A z.d.length c, .int .i64 z.l], .int .i64 n, .slice B bs.length e]) Try.func82 rfl 51 rfl ?_
  by_cases h1 : OkZ z n ∧ bs.length ≠ 0
  · have hok := okZ_t h1.1
    have hO := h1.1
    unfold OkZ at hO
    by_cases h2 : (z.s = 0 ∨ z.s = 1) ∧ (bs.length : Int) ≤ n - z.d.length
    · have htk : tkZ z.s = true := decide_eq_true h2.1
      have e1 : appE z n bs.length = 0 := by unfold appE; rw [if_neg (fun h => h.elim (fun h => h h1.1) h1.2), if_neg om_]
      rw [e1]
      simp only [if_true, List.length_append]
      (repeat' (first | (refine WL_is ?_; first | refine WL_nil ?_ | refine wl_ ?_ | (refine WL_isFn ?_; refine WL_call rfl rfl rfl (zone_Check_calls z _ _ _ _ _ hz rfl _ hok) ?_; rintro _ w_ ⟨rfl, hx_⟩; have hz_ := hx_.size; refine ⟨_, rfl, ?_⟩) | (refine WL_isFn ?_; refine WL_call rfl rfl rfl (zone_takes_calls _ _ _ _ _ _ _ htk) ?_; rintro _ w_ ⟨rfl, hx_⟩; have hz_ := hx_.size; refine ⟨_, rfl, ?_⟩) | (refine WL_isFn ?_; refine WL_call rfl rfl rfl (zone_filled_calls _ _ _ _ _ _ _) ?_; rintro _ w_ ⟨rfl, hx_⟩; have hz_ := hx_.size; refine ⟨_, rfl, ?_⟩)) | (refine WC_is ?_; first | refine WC_seq (fun _ _ => ?_) | refine wc_ ?_) | (refine WQ_is ?_; first | refine wq_ ?_) | (refine Kb.mk ?_; intro b_ w_ hb_ hl_ hx_ hB_) | (refine Ks.mk ?_; intro w_ hz_ hx_ hB_) | (refine Ko.mk ?_; intro A_ c_ w_ hx_ ho_ hr_; have hz_ := hx_.size; have hq_ := own_cap ho_) | (refine Kp.mk ?_; intro A_ c_ w_ hx_ hz_ ho_ hr_ hp_; have hq_ := own_cap ho_) | (refine Kl.mk ?_; intro b_ w_ hb_ hl_ hx_ hB_ ho_) | (refine Km.mk ?_; intro b_ w_ hb_ hl_ hx_ ho_) | (refine Ke.mk ?_; intro r_ hr_) | (refine Kg.mk ?_ ?_ <;> intro hs_ <;> (try simp only [strEq_t, strEq_f, decide_eq_true_eq, decide_eq_false_iff_not, beq_iff_eq, beq_eq_false_iff_ne, bne_iff_ne, bne_eq_false_iff_eq, Bool.not_eq_true', Bool.not_eq_false', Bool.not_true, Bool.not_false, gt_iff_lt, ge_iff_le, Int.not_lt, Int.not_le, ne_eq, Bool.false_eq_true, not_true_eq_false, reduceCtorEq] at hs_) <;> (try (exfalso; first | exact hs_ | (exact hs_ rfl) | omega))) ))
      all_goals exact ⟨_, _, rfl, own_, ext_⟩
    · have e1 : appE z n bs.length = 90 := by unfold appE; rw [if_neg (fun h => h.elim (fun h => h h1.1) h1.2), if_pos om_]
      rw [e1]
      simp only [show ((90 : Int) = 0) = False from by simp, if_false]
      cases htk : tkZ z.s with
      | true =>
        have htk2 := of_decide_eq_true htk
        (repeat' (first | (refine WL_is ?_; first | refine WL_nil ?_ | refine wl_ ?_ | (refine WL_isFn ?_; refine WL_call rfl rfl rfl (zone_Check_calls z _ _ _ _ _ hz rfl _ hok) ?_; rintro _ w_ ⟨rfl, hx_⟩; have hz_ := hx_.size; refine ⟨_, rfl, ?_⟩) | (refine WL_isFn ?_; refine WL_call rfl rfl rfl (zone_takes_calls _ _ _ _ _ _ _ htk) ?_; rintro _ w_ ⟨rfl, hx_⟩; have hz_ := hx_.size; refine ⟨_, rfl, ?_⟩) | (refine WL_isFn ?_; refine WL_call rfl rfl rfl (zone_own_calls z _ _ _ _ hz rfl cells_) ?_; rintro _ w_ ⟨A_, c_, rfl, ho_, hx_⟩; have hz_ := hx_.size; have hr_ := own_rd ho_; have hq_ := own_cap ho_; refine ⟨_, rfl, ?_⟩)) | (refine WC_is ?_; first | refine WC_seq (fun _ _ => ?_) | refine wc_ ?_) | (refine WQ_is ?_; first | refine wq_ ?_) | (refine Kb.mk ?_; intro b_ w_ hb_ hl_ hx_ hB_) | (refine Ks.mk ?_; intro w_ hz_ hx_ hB_) | (refine Ko.mk ?_; intro A_ c_ w_ hx_ ho_ hr_; have hz_ := hx_.size; have hq_ := own_cap ho_) | (refine Kp.mk ?_; intro A_ c_ w_ hx_ hz_ ho_ hr_ hp_; have hq_ := own_cap ho_) | (refine Kl.mk ?_; intro b_ w_ hb_ hl_ hx_ hB_ ho_) | (refine Km.mk ?_; intro b_ w_ hb_ hl_ hx_ ho_) | (refine Ke.mk ?_; intro r_ hr_) | (refine Kg.mk ?_ ?_ <;> intro hs_ <;> (try simp only [strEq_t, strEq_f, decide_eq_true_eq, decide_eq_false_iff_not, beq_iff_eq, beq_eq_false_iff_ne, bne_iff_ne, bne_eq_false_iff_eq, Bool.not_eq_true', Bool.not_eq_false', Bool.not_true, Bool.not_false, gt_iff_lt, ge_iff_le, Int.not_lt, Int.not_le, ne_eq, Bool.false_eq_true, not_true_eq_false, reduceCtorEq] at hs_) <;> (try (exfalso; first | exact hs_ | (exact hs_ rfl) | omega))) ))
        all_goals exact ⟨_, _, rfl, own_, ext_⟩
      | false =>
        (repeat' (first | (refine WL_is ?_; first | refine WL_nil ?_ | refine wl_ ?_ | (refine WL_isFn ?_; refine WL_call rfl rfl rfl (zone_Check_calls z _ _ _ _ _ hz rfl _ hok) ?_; rintro _ w_ ⟨rfl, hx_⟩; have hz_ := hx_.size; refine ⟨_, rfl, ?_⟩) | (refine WL_isFn ?_; refine WL_call rfl rfl rfl (zone_takes_calls _ _ _ _ _ _ _ htk) ?_; rintro _ w_ ⟨rfl, hx_⟩; have hz_ := hx_.size; refine ⟨_, rfl, ?_⟩) | (refine WL_isFn ?_; refine WL_call rfl rfl rfl (zone_own_calls z _ _ _ _ hz rfl cells_) ?_; rintro _ w_ ⟨A_, c_, rfl, ho_, hx_⟩; have hz_ := hx_.size; have hr_ := own_rd ho_; have hq_ := own_cap ho_; refine ⟨_, rfl, ?_⟩)) | (refine WC_is ?_; first | refine WC_seq (fun _ _ => ?_) | refine wc_ ?_) | (refine WQ_is ?_; first | refine wq_ ?_) | (refine Kb.mk ?_; intro b_ w_ hb_ hl_ hx_ hB_) | (refine Ks.mk ?_; intro w_ hz_ hx_ hB_) | (refine Ko.mk ?_; intro A_ c_ w_ hx_ ho_ hr_; have hz_ := hx_.size; have hq_ := own_cap ho_) | (refine Kp.mk ?_; intro A_ c_ w_ hx_ hz_ ho_ hr_ hp_; have hq_ := own_cap ho_) | (refine Kl.mk ?_; intro b_ w_ hb_ hl_ hx_ hB_ ho_) | (refine Km.mk ?_; intro b_ w_ hb_ hl_ hx_ ho_) | (refine Ke.mk ?_; intro r_ hr_) | (refine Kg.mk ?_ ?_ <;> intro hs_ <;> (try simp only [strEq_t, strEq_f, decide_eq_true_eq, decide_eq_false_iff_not, beq_iff_eq, beq_eq_false_iff_ne, bne_iff_ne, bne_eq_false_iff_eq, Bool.not_eq_true', Bool.not_eq_false', Bool.not_true, Bool.not_false, gt_iff_lt, ge_iff_le, Int.not_lt, Int.not_le, ne_eq, Bool.false_eq_true, not_true_eq_false, reduceCtorEq] at hs_) <;> (try (exfalso; first | exact hs_ | (exact hs_ rfl) | omega))) ))
        all_goals exact ⟨_, _, rfl, own_, ext_⟩
  · have e1 : appE z n bs.length = 1 := by unfold appE; rw [if_pos]; by_cases h : OkZ z n; exact .inr (Nat.eq_zero_of_not_pos (fun h3 => h1 ⟨h, by omega⟩)); exact .inl h
    rw [e1]
    simp only [show ((1 : Int) = 0) = False from by simp, if_false]
    cases hok : okZ z n with
    | true =>
      have hO := okZ_iff.1 hok
      have h3 : bs.length = 0 := Nat.eq_zero_of_not_pos (fun h3 => h1 ⟨hO, by omega⟩)
      (repeat' (first | (refine WL_is ?_; first | refine WL_nil ?_ | refine wl_ ?_ | (refine WL_isFn ?_; refine WL_call rfl rfl rfl (zone_Check_calls z _ _ _ _ _ hz rfl _ hok) ?_; rintro _ w_ ⟨rfl, hx_⟩; have hz_ := hx_.size; refine ⟨_, rfl, ?_⟩) | (refine WL_isFn ?_; refine WL_call rfl rfl rfl (zone_own_calls z _ _ _ _ hz rfl cells_) ?_; rintro _ w_ ⟨A_, c_, rfl, ho_, hx_⟩; have hz_ := hx_.size; have hr_ := own_rd ho_; have hq_ := own_cap ho_; refine ⟨_, rfl, ?_⟩)) | (refine WC_is ?_; first | refine WC_seq (fun _ _ => ?_) | refine wc_ ?_) | (refine WQ_is ?_; first | refine wq_ ?_) | (refine Kb.mk ?_; intro b_ w_ hb_ hl_ hx_ hB_) | (refine Ks.mk ?_; intro w_ hz_ hx_ hB_) | (refine Ko.mk ?_; intro A_ c_ w_ hx_ ho_ hr_; have hz_ := hx_.size; have hq_ := own_cap ho_) | (refine Kp.mk ?_; intro A_ c_ w_ hx_ hz_ ho_ hr_ hp_; have hq_ := own_cap ho_) | (refine Kl.mk ?_; intro b_ w_ hb_ hl_ hx_ hB_ ho_) | (refine Km.mk ?_; intro b_ w_ hb_ hl_ hx_ ho_) | (refine Ke.mk ?_; intro r_ hr_) | (refine Kg.mk ?_ ?_ <;> intro hs_ <;> (try simp only [strEq_t, strEq_f, decide_eq_true_eq, decide_eq_false_iff_not, beq_iff_eq, beq_eq_false_iff_ne, bne_iff_ne, bne_eq_false_iff_eq, Bool.not_eq_true', Bool.not_eq_false', Bool.not_true, Bool.not_false, gt_iff_lt, ge_iff_le, Int.not_lt, Int.not_le, ne_eq, Bool.false_eq_true, not_true_eq_false, reduceCtorEq] at hs_) <;> (try (exfalso; first | exact hs_ | (exact hs_ rfl) | omega))) ))
      all_goals exact ⟨_, _, rfl, own_, ext_⟩
    | false =>
      (repeat' (first | (refine WL_is ?_; first | refine WL_nil ?_ | refine wl_ ?_ | (refine WL_isFn ?_; refine WL_call rfl rfl rfl (zone_Check_calls z _ _ _ _ _ hz rfl _ hok) ?_; rintro _ w_ ⟨rfl, hx_⟩; have hz_ := hx_.size; refine ⟨_, rfl, ?_⟩) | (refine WL_isFn ?_; refine WL_call rfl rfl rfl (zone_own_calls z _ _ _ _ hz rfl cells_) ?_; rintro _ w_ ⟨A_, c_, rfl, ho_, hx_⟩; have hz_ := hx_.size; have hr_ := own_rd ho_; have hq_ := own_cap ho_; refine ⟨_, rfl, ?_⟩)) | (refine WC_is ?_; first | refine WC_seq (fun _ _ => ?_) | refine wc_ ?_) | (refine WQ_is ?_; first | refine wq_ ?_) | (refine Kb.mk ?_; intro b_ w_ hb_ hl_ hx_ hB_) | (refine Ks.mk ?_; intro w_ hz_ hx_ hB_) | (refine Ko.mk ?_; intro A_ c_ w_ hx_ ho_ hr_; have hz_ := hx_.size; have hq_ := own_cap ho_) | (refine Kp.mk ?_; intro A_ c_ w_ hx_ hz_ ho_ hr_ hp_; have hq_ := own_cap ho_) | (refine Kl.mk ?_; intro b_ w_ hb_ hl_ hx_ hB_ ho_) | (refine Km.mk ?_; intro b_ w_ hb_ hl_ hx_ ho_) | (refine Ke.mk ?_; intro r_ hr_) | (refine Kg.mk ?_ ?_ <;> intro hs_ <;> (try simp only [strEq_t, strEq_f, decide_eq_true_eq, decide_eq_false_iff_not, beq_iff_eq, beq_eq_false_iff_ne, bne_iff_ne, bne_eq_false_iff_eq, Bool.not_eq_true', Bool.not_eq_false', Bool.not_true, Bool.not_false, gt_iff_lt, ge_iff_le, Int.not_lt, Int.not_le, ne_eq, Bool.false_eq_true, not_true_eq_false, reduceCtorEq] at hs_) <;> (try (exfalso; first | exact hs_ | (exact hs_ rfl) | omega))) ))
      all_goals exact ⟨_, _, rfl, own_, ext_⟩
end Go.Proofs.Ytejdjpjaahfnaaa.K
set_option linter.unusedVariables false
set_option linter.unusedSimpArgs false
set_option maxHeartbeats 4000000
set_option maxRecDepth 20000
namespace Go.Proofs.Ytejdjpjaahfnaaa.K
open Go.RowKit
attribute [local irreducible] strEq strOfNums Calls WL WC WQ WX Code.wp wpList bodyPost
theorem tkZ_t {s : Int} (h : s = 0 ∨ s = 1) : tkZ s = true := decide_eq_true h
theorem tkZ_f {s : Int} (h : ¬ (s = 0 ∨ s = 1)) : tkZ s = false := decide_eq_false h
theorem Zst.state {z : Zo} (h : Zst z) {s : Int} (hs : -9223372036854775808 ≤ s ∧ s ≤ 9223372036854775807) : Zst ⟨s, z.d, z.l⟩ := ⟨h.bytes, h.small, hs, h.lb⟩
section
variable (z : Zo) (A : Option Addr) (m c : Nat) (w : World) (hz : Zst z) (hl : z.d.length = m) (hc : m ≤ c ∧ c ≤ 9223372036854775807) (hC : Cells w A (z.d.map (.int .u8)))
theorem zone_Reset_calls (hz : Zst z) (hl : z.d.length = m) (hC : Cells w A (z.d.map (.int .u8))) :
    Calls Try.prog 79 #[.agg #[.int .i64 z.s, .slice A m c, .int .i64 z.l]] w fun r w' => ∃ A' c', r = .returned (.tuple #[.agg #[.int .i64 (rsZ z).s, .slice A' (rsZ z).d.length c', .int .i64 (rsZ z).l], .int .i64 (rsE z)]) ∧ w'.ownsRow w.heap.size 5 1 (.slice A' (rsZ z).d.length c') (rsZ z).d.length ((rsZ z).d.map (.int .u8)) ∧ Ext w w' := by
  subst hl
  unfold rsZ
  refine calls_W (args := [.agg #[.int .i64 z.s, .slice A z.d.length c, .int .i64 z.l]]) Try.func79 rfl 15 rfl ?_
  by_cases h1 : z.s = 0 ∨ z.s = 1 ∨ z.s = 2
  · have e1 : rsE z = 0 := if_pos h1
    rw [e1]
    simp only [if_true]
    cases htk : tkZ z.s with
    | true =>
      (repeat' (first | (refine WL_is ?_; first | refine WL_nil ?_ | refine wl_ ?_ | (refine WL_isFn ?_; refine WL_call rfl rfl rfl (zone_takes_calls _ _ _ _ _ _ _ htk) ?_; rintro _ w_ ⟨rfl, hx_⟩; have hz_ := hx_.size; refine ⟨_, rfl, ?_⟩)) | (refine WC_is ?_; first | refine WC_seq (fun _ _ => ?_) | refine wc_ ?_) | (refine WQ_is ?_; first | refine wq_ ?_) | (refine Kb.mk ?_; intro b_ w_ hb_ hl_ hx_ hB_) | (refine Ks.mk ?_; intro w_ hz_ hx_ hB_) | (refine Ko.mk ?_; intro A_ c_ w_ hx_ ho_ hr_; have hz_ := hx_.size; have hq_ := own_cap ho_) | (refine Kp.mk ?_; intro A_ c_ w_ hx_ hz_ ho_ hr_ hp_; have hq_ := own_cap ho_) | (refine Kl.mk ?_; intro b_ w_ hb_ hl_ hx_ hB_ ho_) | (refine Km.mk ?_; intro b_ w_ hb_ hl_ hx_ ho_) | (refine Ke.mk ?_; intro r_ hr_) | (refine Kg.mk ?_ ?_ <;> intro hs_ <;> (try simp only [strEq_t, strEq_f, decide_eq_true_eq, decide_eq_false_iff_not, beq_iff_eq, beq_eq_false_iff_ne, bne_iff_ne, bne_eq_false_iff_eq, Bool.not_eq_true', Bool.not_eq_false', Bool.not_true, Bool.not_false, gt_iff_lt, ge_iff_le, Int.not_lt, Int.not_le, ne_eq, Bool.false_eq_true, not_true_eq_false, reduceCtorEq] at hs_) <;> (try (exfalso; first | exact hs_ | (exact hs_ rfl) | omega))) ))
      all_goals exact ⟨none, 0, rfl, own_nil _ _ _ _, ext_⟩
    | false =>
      have htk2 := of_decide_eq_false htk
      (repeat' (first | (refine WL_is ?_; first | refine WL_nil ?_ | refine wl_ ?_ | (refine WL_isFn ?_; refine WL_call rfl rfl rfl (zone_takes_calls _ _ _ _ _ _ _ htk) ?_; rintro _ w_ ⟨rfl, hx_⟩; have hz_ := hx_.size; refine ⟨_, rfl, ?_⟩)) | (refine WC_is ?_; first | refine WC_seq (fun _ _ => ?_) | refine wc_ ?_) | (refine WQ_is ?_; first | refine wq_ ?_) | (refine Kb.mk ?_; intro b_ w_ hb_ hl_ hx_ hB_) | (refine Ks.mk ?_; intro w_ hz_ hx_ hB_) | (refine Ko.mk ?_; intro A_ c_ w_ hx_ ho_ hr_; have hz_ := hx_.size; have hq_ := own_cap ho_) | (refine Kp.mk ?_; intro A_ c_ w_ hx_ hz_ ho_ hr_ hp_; have hq_ := own_cap ho_) | (refine Kl.mk ?_; intro b_ w_ hb_ hl_ hx_ hB_ ho_) | (refine Km.mk ?_; intro b_ w_ hb_ hl_ hx_ ho_) | (refine Ke.mk ?_; intro r_ hr_) | (refine Kg.mk ?_ ?_ <;> intro hs_ <;> (try simp only [strEq_t, strEq_f, decide_eq_true_eq, decide_eq_false_iff_not, beq_iff_eq, beq_eq_false_iff_ne, bne_iff_ne, bne_eq_false_iff_eq, Bool.not_eq_true', Bool.not_eq_false', Bool.not_true, Bool.not_false, gt_iff_lt, ge_iff_le, Int.not_lt, Int.not_le, ne_eq, Bool.false_eq_true, not_true_eq_false, reduceCtorEq] at hs_) <;> (try (exfalso; first | exact hs_ | (exact hs_ rfl) | omega))) ))
      all_goals exact ⟨none, 0, rfl, own_nil _ _ _ _, ext_⟩
  · have e1 : rsE z = 90 := if_neg h1
    have htk := tkZ_f (s := z.s) om_
    rw [e1]
    simp only [show ((90 : Int) = 0) = False from by simp, if_false]
    (repeat' (first | (refine WL_is ?_; first | refine WL_nil ?_ | refine wl_ ?_ | (refine WL_isFn ?_; refine WL_call rfl rfl rfl (zone_takes_calls _ _ _ _ _ _ _ htk) ?_; rintro _ w_ ⟨rfl, hx_⟩; have hz_ := hx_.size; refine ⟨_, rfl, ?_⟩) | (refine WL_isFn ?_; refine WL_call rfl rfl rfl (zone_own_calls z _ _ _ _ hz rfl cells_) ?_; rintro _ w_ ⟨A_, c_, rfl, ho_, hx_⟩; have hz_ := hx_.size; have hr_ := own_rd ho_; have hq_ := own_cap ho_; refine ⟨_, rfl, ?_⟩)) | (refine WC_is ?_; first | refine WC_seq (fun _ _ => ?_) | refine wc_ ?_) | (refine WQ_is ?_; first | refine wq_ ?_) | (refine Kb.mk ?_; intro b_ w_ hb_ hl_ hx_ hB_) | (refine Ks.mk ?_; intro w_ hz_ hx_ hB_) | (refine Ko.mk ?_; intro A_ c_ w_ hx_ ho_ hr_; have hz_ := hx_.size; have hq_ := own_cap ho_) | (refine Kp.mk ?_; intro A_ c_ w_ hx_ hz_ ho_ hr_ hp_; have hq_ := own_cap ho_) | (refine Kl.mk ?_; intro b_ w_ hb_ hl_ hx_ hB_ ho_) | (refine Km.mk ?_; intro b_ w_ hb_ hl_ hx_ ho_) | (refine Ke.mk ?_; intro r_ hr_) | (refine Kg.mk ?_ ?_ <;> intro hs_ <;> (try simp only [strEq_t, strEq_f, decide_eq_true_eq, decide_eq_false_iff_not, beq_iff_eq, beq_eq_false_iff_ne, bne_iff_ne, bne_eq_false_iff_eq, Bool.not_eq_true', Bool.not_eq_false', Bool.not_true, Bool.not_false, gt_iff_lt, ge_iff_le, Int.not_lt, Int.not_le, ne_eq, Bool.false_eq_true, not_true_eq_false, reduceCtorEq] at hs_) <;> (try (exfalso; first | exact hs_ | (exact hs_ rfl) | omega))) ))
    all_goals exact ⟨_, _, rfl, own_, ext_⟩
theorem zone_Finish_calls (hz : Zst z) (hl : z.d.length = m) (hC : Cells w A (z.d.map (.int .u8))) :
    Calls Try.prog 80 #[.agg #[.int .i64 z.s, .slice A m c, .int .i64 z.l]] w fun r w' => ∃ A' c', r = .returned (.tuple #[.agg #[.int .i64 (fiZ z).s, .slice A' (fiZ z).d.length c', .int .i64 (fiZ z).l], .int .i64 (fiE z)]) ∧ w'.ownsRow w.heap.size 5 1 (.slice A' (fiZ z).d.length c') (fiZ z).d.length ((fiZ z).d.map (.int .u8)) ∧ Ext w w' := by
  subst hl
  unfold fiZ
  refine calls_W (args := [.agg #[.int .i64 z.s, .slice A z.d.length c, .int .i64 z.l]]) Try.func80 rfl 12 rfl ?_
  by_cases h1 : z.s = 0 ∨ z.s = 1
  · have e1 : fiE z = 0 := if_pos h1
    have htk := tkZ_t h1
    rw [e1]
    simp only [if_true]
    (repeat' (first | (refine WL_is ?_; first | refine WL_nil ?_ | refine wl_ ?_ | (refine WL_isFn ?_; refine WL_call rfl rfl rfl (zone_takes_calls _ _ _ _ _ _ _ htk) ?_; rintro _ w_ ⟨rfl, hx_⟩; have hz_ := hx_.size; refine ⟨_, rfl, ?_⟩) | (refine WL_isFn ?_; refine WL_call rfl rfl rfl (zone_own_calls ⟨2, z.d, z.l⟩ _ _ _ _ (hz.state (by decide)) rfl cells_) ?_; rintro _ w_ ⟨A_, c_, rfl, ho_, hx_⟩; have hz_ := hx_.size; have hr_ := own_rd ho_; have hq_ := own_cap ho_; refine ⟨_, rfl, ?_⟩)) | (refine WC_is ?_; first | refine WC_seq (fun _ _ => ?_) | refine wc_ ?_) | (refine WQ_is ?_; first | refine wq_ ?_) | (refine Kb.mk ?_; intro b_ w_ hb_ hl_ hx_ hB_) | (refine Ks.mk ?_; intro w_ hz_ hx_ hB_) | (refine Ko.mk ?_; intro A_ c_ w_ hx_ ho_ hr_; have hz_ := hx_.size; have hq_ := own_cap ho_) | (refine Kp.mk ?_; intro A_ c_ w_ hx_ hz_ ho_ hr_ hp_; have hq_ := own_cap ho_) | (refine Kl.mk ?_; intro b_ w_ hb_ hl_ hx_ hB_ ho_) | (refine Km.mk ?_; intro b_ w_ hb_ hl_ hx_ ho_) | (refine Ke.mk ?_; intro r_ hr_) | (refine Kg.mk ?_ ?_ <;> intro hs_ <;> (try simp only [strEq_t, strEq_f, decide_eq_true_eq, decide_eq_false_iff_not, beq_iff_eq, beq_eq_false_iff_ne, bne_iff_ne, bne_eq_false_iff_eq, Bool.not_eq_true', Bool.not_eq_false', Bool.not_true, Bool.not_false, gt_iff_lt, ge_iff_le, Int.not_lt, Int.not_le, ne_eq, Bool.false_eq_true, not_true_eq_false, reduceCtorEq] at hs_) <;> (try (exfalso; first | exact hs_ | (exact hs_ rfl) | omega))) ))
    all_goals exact ⟨_, _, rfl, own_, ext_⟩
  · have e1 : fiE z = 90 := if_neg h1
    have htk := tkZ_f h1
    rw [e1]
    simp only [show ((90 : Int) = 0) = False from by simp, if_false]
    (repeat' (first | (refine WL_is ?_; first | refine WL_nil ?_ | refine wl_ ?_ | (refine WL_isFn ?_; refine WL_call rfl rfl rfl (zone_takes_calls _ _ _ _ _ _ _ htk) ?_; rintro _ w_ ⟨rfl, hx_⟩; have hz_ := hx_.size; refine ⟨_, rfl, ?_⟩) | (refine WL_isFn ?_; refine WL_call rfl rfl rfl (zone_own_calls z _ _ _ _ hz rfl cells_) ?_; rintro _ w_ ⟨A_, c_, rfl, ho_, hx_⟩; have hz_ := hx_.size; have hr_ := own_rd ho_; have hq_ := own_cap ho_; refine ⟨_, rfl, ?_⟩)) | (refine WC_is ?_; first | refine WC_seq (fun _ _ => ?_) | refine wc_ ?_) | (refine WQ_is ?_; first | refine wq_ ?_) | (refine Kb.mk ?_; intro b_ w_ hb_ hl_ hx_ hB_) | (refine Ks.mk ?_; intro w_ hz_ hx_ hB_) | (refine Ko.mk ?_; intro A_ c_ w_ hx_ ho_ hr_; have hz_ := hx_.size; have hq_ := own_cap ho_) | (refine Kp.mk ?_; intro A_ c_ w_ hx_ hz_ ho_ hr_ hp_; have hq_ := own_cap ho_) | (refine Kl.mk ?_; intro b_ w_ hb_ hl_ hx_ hB_ ho_) | (refine Km.mk ?_; intro b_ w_ hb_ hl_ hx_ ho_) | (refine Ke.mk ?_; intro r_ hr_) | (refine Kg.mk ?_ ?_ <;> intro hs_ <;> (try simp only [strEq_t, strEq_f, decide_eq_true_eq, decide_eq_false_iff_not, beq_iff_eq, beq_eq_false_iff_ne, bne_iff_ne, bne_eq_false_iff_eq, Bool.not_eq_true', Bool.not_eq_false', Bool.not_true, Bool.not_false, gt_iff_lt, ge_iff_le, Int.not_lt, Int.not_le, ne_eq, Bool.false_eq_true, not_true_eq_false, reduceCtorEq] at hs_) <;> (try (exfalso; first | exact hs_ | (exact hs_ rfl) | omega))) ))
    all_goals exact ⟨_, _, rfl, own_, ext_⟩
theorem zone_Flush_calls (hz : Zst z) (hl : z.d.length = m) (hC : Cells w A (z.d.map (.int .u8))) :
    Calls Try.prog 74 #[.agg #[.int .i64 z.s, .slice A m c, .int .i64 z.l]] w fun r w' => ∃ A' c', r = .returned (.agg #[.int .i64 z.s, .slice A' z.d.length c', .int .i64 (z.d.length : Int)]) ∧ w'.ownsRow w.heap.size 5 1 (.slice A' z.d.length c') z.d.length (z.d.map (.int .u8)) ∧ Ext w w' := by
  subst hl
  have hs := hz.small
  refine calls_W (args := [.agg #[.int .i64 z.s, .slice A z.d.length c, .int .i64 z.l]]) Try.func74 rfl 9 rfl ?_
  (repeat' (first | (refine WL_is ?_; first | refine WL_nil ?_ | refine wl_ ?_ | (refine WL_isFn ?_; refine WL_call rfl rfl rfl (zone_own_calls (flZ z) _ _ _ _ ⟨hz.bytes, hz.small, hz.sb, by show _ ∧ _; unfold flZ; dsimp only; omega⟩ rfl cells_) ?_; rintro _ w_ ⟨A_, c_, rfl, ho_, hx_⟩; have hz_ := hx_.size; have hr_ := own_rd ho_; have hq_ := own_cap ho_; refine ⟨_, rfl, ?_⟩)) | (refine WC_is ?_; first | refine WC_seq (fun _ _ => ?_) | refine wc_ ?_) | (refine WQ_is ?_; first | refine wq_ ?_) | (refine Kb.mk ?_; intro b_ w_ hb_ hl_ hx_ hB_) | (refine Ks.mk ?_; intro w_ hz_ hx_ hB_) | (refine Ko.mk ?_; intro A_ c_ w_ hx_ ho_ hr_; have hz_ := hx_.size; have hq_ := own_cap ho_) | (refine Kp.mk ?_; intro A_ c_ w_ hx_ hz_ ho_ hr_ hp_; have hq_ := own_cap ho_) | (refine Kl.mk ?_; intro b_ w_ hb_ hl_ hx_ hB_ ho_) | (refine Km.mk ?_; intro b_ w_ hb_ hl_ hx_ ho_) | (refine Ke.mk ?_; intro r_ hr_) | (refine Kg.mk ?_ ?_ <;> intro hs_ <;> (try simp only [strEq_t, strEq_f, decide_eq_true_eq, decide_eq_false_iff_not, beq_iff_eq, beq_eq_false_iff_ne, bne_iff_ne, bne_eq_false_iff_eq, Bool.not_eq_true', Bool.not_eq_false', Bool.not_true, Bool.not_false, gt_iff_lt, ge_iff_le, Int.not_lt, Int.not_le, ne_eq, Bool.false_eq_true, not_true_eq_false, reduceCtorEq] at hs_) <;> (try (exfalso; first | exact hs_ | (exact hs_ rfl) | omega))) ))
  all_goals exact ⟨_, _, rfl, own_, ext_⟩
end
def sameZ (x y : Zo) : Bool := x.s == y.s && strEq (strOfNums x.d) (strOfNums y.d) && x.l == y.l
end Go.Proofs.Ytejdjpjaahfnaaa.K
set_option linter.unusedVariables false
set_option linter.unusedSimpArgs false
set_option maxHeartbeats 4000000
set_option maxRecDepth 20000
namespace Go.Proofs.Ytejdjpjaahfnaaa.K
open Go.RowKit
attribute [local irreducible] strEq strOfNums Calls WL WC WQ WX Code.wp wpList bodyPost
theorem zone_Crash_calls (z : Zo) (A : Option Addr) (m c : Nat) (n keep : Int) (w : World) (hz : Zst z) (hl : z.d.length = m) (hC : Cells w A (z.d.map (.int .u8))) :
    Calls Try.prog 59 #[.agg #[.int .i64 z.s, .slice A m c, .int .i64 z.l], .int .i64 n, .int .i64 keep] w fun r w' => ∃ A' c', r = .returned (.agg #[.int .i64 (crZ z n keep).s, .slice A' (crZ z n keep).d.length c', .int .i64 (crZ z n keep).l]) ∧ w'.ownsRow w.heap.size 5 1 (.slice A' (crZ z n keep).d.length c') (crZ z n keep).d.length ((crZ z n keep).d.map (.int .u8)) ∧ Ext w w' := by
  have hs := hz.small
  subst hl
  refine calls_W (args := [.agg #[.int .i64 z.s, .slice A z.d.length c, .int .i64 z.l], .int .i64 n, .int .i64 keep]) Try.func59 rfl 55 rfl ?_
  by_cases h1 : OkZ z n
  · have hok := okZ_t h1
    have hO := h1
    unfold OkZ at hO
    by_cases h3 : 3 ≤ z.s
    · have e1 : crZ z n keep = ⟨z.s, z.d.take z.l.toNat, z.l⟩ := by unfold crZ; rw [if_neg (fun h => h h1), if_pos h3]
      have hlen : (z.d.take z.l.toNat).length = z.l.toNat := by rw [List.length_take]; omega
      rw [e1]
      simp only [hlen]
      (repeat' (first | (refine WL_is ?_; first | refine WL_nil ?_ | refine wl_ ?_ | (refine WL_isFn ?_; refine WL_call rfl rfl rfl (zone_own_calls z _ _ _ _ hz rfl cells_) ?_; rintro _ w_ ⟨A_, c_, rfl, ho_, hx_⟩; have hz_ := hx_.size; have hr_ := own_rd ho_; have hq_ := own_cap ho_; refine ⟨_, rfl, ?_⟩) | (refine WL_isFn ?_; refine WL_call rfl rfl rfl (zone_Check_calls z _ _ _ _ _ hz rfl _ hok) ?_; rintro _ w_ ⟨rfl, hx_⟩; have hz_ := hx_.size; refine ⟨_, rfl, ?_⟩)) | (refine WC_is ?_; first | refine WC_seq (fun _ _ => ?_) | refine wc_ ?_) | (refine WQ_is ?_; first | refine wq_ ?_) | (refine Kb.mk ?_; intro b_ w_ hb_ hl_ hx_ hB_) | (refine Ks.mk ?_; intro w_ hz_ hx_ hB_) | (refine Ko.mk ?_; intro A_ c_ w_ hx_ ho_ hr_; have hz_ := hx_.size; have hq_ := own_cap ho_) | (refine Kp.mk ?_; intro A_ c_ w_ hx_ hz_ ho_ hr_ hp_; have hq_ := own_cap ho_) | (refine Kl.mk ?_; intro b_ w_ hb_ hl_ hx_ hB_ ho_) | (refine Km.mk ?_; intro b_ w_ hb_ hl_ hx_ ho_) | (refine Ke.mk ?_; intro r_ hr_) | (refine Kg.mk ?_ ?_ <;> intro hs_ <;> (try simp only [strEq_t, strEq_f, decide_eq_true_eq, decide_eq_false_iff_not, beq_iff_eq, beq_eq_false_iff_ne, bne_iff_ne, bne_eq_false_iff_eq, Bool.not_eq_true', Bool.not_eq_false', Bool.not_true, Bool.not_false, gt_iff_lt, ge_iff_le, Int.not_lt, Int.not_le, ne_eq, Bool.false_eq_true, not_true_eq_false, reduceCtorEq] at hs_) <;> (try (exfalso; first | exact hs_ | (exact hs_ rfl) | omega))) ))
      all_goals exact ⟨_, _, rfl, own_takeI (m := z.d.length) own_ om_, ext_⟩
    · have hk0 : 0 ≤ keepZ z keep ∧ keepZ z keep ≤ z.d.length := by unfold keepZ; omega
      have hlen : (z.d.take (keepZ z keep).toNat).length = (keepZ z keep).toNat := by rw [List.length_take]; omega
      have e1 : crZ z n keep = ⟨crS z.s (keepZ z keep).toNat n, z.d.take (keepZ z keep).toNat, keepZ z keep⟩ := by unfold crZ; rw [if_neg (fun h => h h1), if_neg h3]
      rw [e1]
      simp only [hlen]
      by_cases h5 : z.s = 2 ∧ stZ (keepZ z keep).toNat n = 1
      · have e2 : crS z.s (keepZ z keep).toNat n = z.s := by unfold crS; rw [if_pos h5]; exact h5.1.symm
        rw [e2]
        unfold keepZ at *
        (repeat' (first | (refine WL_is ?_; first | refine WL_nil ?_ | refine wl_ ?_ | (refine WL_isFn ?_; refine WL_call rfl rfl rfl (zone_own_calls z _ _ _ _ hz rfl cells_) ?_; rintro _ w_ ⟨A_, c_, rfl, ho_, hx_⟩; have hz_ := hx_.size; have hr_ := own_rd ho_; have hq_ := own_cap ho_; refine ⟨_, rfl, ?_⟩) | (refine WL_isFn ?_; refine WL_call rfl rfl rfl (zone_Check_calls z _ _ _ _ _ hz rfl _ hok) ?_; rintro _ w_ ⟨rfl, hx_⟩; have hz_ := hx_.size; refine ⟨_, rfl, ?_⟩) | (refine WL_isFn ?_; refine WL_call rfl rfl rfl (zone_filled_calls _ _ _ _ _ _ _) ?_; rintro _ w_ ⟨rfl, hx_⟩; have hz_ := hx_.size; refine ⟨_, rfl, ?_⟩)) | (refine WC_is ?_; first | refine WC_seq (fun _ _ => ?_) | refine wc_ ?_) | (refine WQ_is ?_; first | refine wq_ ?_) | (refine Kb.mk ?_; intro b_ w_ hb_ hl_ hx_ hB_) | (refine Ks.mk ?_; intro w_ hz_ hx_ hB_) | (refine Ko.mk ?_; intro A_ c_ w_ hx_ ho_ hr_; have hz_ := hx_.size; have hq_ := own_cap ho_) | (refine Kp.mk ?_; intro A_ c_ w_ hx_ hz_ ho_ hr_ hp_; have hq_ := own_cap ho_) | (refine Kl.mk ?_; intro b_ w_ hb_ hl_ hx_ hB_ ho_) | (refine Km.mk ?_; intro b_ w_ hb_ hl_ hx_ ho_) | (refine Ke.mk ?_; intro r_ hr_) | (refine Kg.mk ?_ ?_ <;> intro hs_ <;> (try simp only [strEq_t, strEq_f, decide_eq_true_eq, decide_eq_false_iff_not, beq_iff_eq, beq_eq_false_iff_ne, bne_iff_ne, bne_eq_false_iff_eq, Bool.not_eq_true', Bool.not_eq_false', Bool.not_true, Bool.not_false, gt_iff_lt, ge_iff_le, Int.not_lt, Int.not_le, ne_eq, Bool.false_eq_true, not_true_eq_false, reduceCtorEq] at hs_) <;> (try (exfalso; first | exact hs_ | (exact hs_ rfl) | omega))) ))
        all_goals exact ⟨_, _, rfl, own_takeI (m := z.d.length) own_ om_, ext_⟩
      · have e2 : crS z.s (keepZ z keep).toNat n = stZ (keepZ z keep).toNat n := by unfold crS; rw [if_neg h5]
        rw [e2]
        unfold keepZ at *
        (repeat' (first | (refine WL_is ?_; first | refine WL_nil ?_ | refine wl_ ?_ | (refine WL_isFn ?_; refine WL_call rfl rfl rfl (zone_own_calls z _ _ _ _ hz rfl cells_) ?_; rintro _ w_ ⟨A_, c_, rfl, ho_, hx_⟩; have hz_ := hx_.size; have hr_ := own_rd ho_; have hq_ := own_cap ho_; refine ⟨_, rfl, ?_⟩) | (refine WL_isFn ?_; refine WL_call rfl rfl rfl (zone_Check_calls z _ _ _ _ _ hz rfl _ hok) ?_; rintro _ w_ ⟨rfl, hx_⟩; have hz_ := hx_.size; refine ⟨_, rfl, ?_⟩) | (refine WL_isFn ?_; refine WL_call rfl rfl rfl (zone_filled_calls _ _ _ _ _ _ _) ?_; rintro _ w_ ⟨rfl, hx_⟩; have hz_ := hx_.size; refine ⟨_, rfl, ?_⟩)) | (refine WC_is ?_; first | refine WC_seq (fun _ _ => ?_) | refine wc_ ?_) | (refine WQ_is ?_; first | refine wq_ ?_) | (refine Kb.mk ?_; intro b_ w_ hb_ hl_ hx_ hB_) | (refine Ks.mk ?_; intro w_ hz_ hx_ hB_) | (refine Ko.mk ?_; intro A_ c_ w_ hx_ ho_ hr_; have hz_ := hx_.size; have hq_ := own_cap ho_) | (refine Kp.mk ?_; intro A_ c_ w_ hx_ hz_ ho_ hr_ hp_; have hq_ := own_cap ho_) | (refine Kl.mk ?_; intro b_ w_ hb_ hl_ hx_ hB_ ho_) | (refine Km.mk ?_; intro b_ w_ hb_ hl_ hx_ ho_) | (refine Ke.mk ?_; intro r_ hr_) | (refine Kg.mk ?_ ?_ <;> intro hs_ <;> (try simp only [strEq_t, strEq_f, decide_eq_true_eq, decide_eq_false_iff_not, beq_iff_eq, beq_eq_false_iff_ne, bne_iff_ne, bne_eq_false_iff_eq, Bool.not_eq_true', Bool.not_eq_false', Bool.not_true, Bool.not_false, gt_iff_lt, ge_iff_le, Int.not_lt, Int.not_le, ne_eq, Bool.false_eq_true, not_true_eq_false, reduceCtorEq] at hs_) <;> (try (exfalso; first | exact hs_ | (exact hs_ rfl) | omega))) ))
        all_goals exact ⟨_, _, rfl, own_takeI (m := z.d.length) own_ om_, ext_⟩
  · have hok := okZ_f h1
    have e1 : crZ z n keep = z := by unfold crZ; rw [if_pos h1]
    rw [e1]
    (repeat' (first | (refine WL_is ?_; first | refine WL_nil ?_ | refine wl_ ?_ | (refine WL_isFn ?_; refine WL_call rfl rfl rfl (zone_own_calls z _ _ _ _ hz rfl cells_) ?_; rintro _ w_ ⟨A_, c_, rfl, ho_, hx_⟩; have hz_ := hx_.size; have hr_ := own_rd ho_; have hq_ := own_cap ho_; refine ⟨_, rfl, ?_⟩) | (refine WL_isFn ?_; refine WL_call rfl rfl rfl (zone_Check_calls z _ _ _ _ _ hz rfl _ hok) ?_; rintro _ w_ ⟨rfl, hx_⟩; have hz_ := hx_.size; refine ⟨_, rfl, ?_⟩)) | (refine WC_is ?_; first | refine WC_seq (fun _ _ => ?_) | refine wc_ ?_) | (refine WQ_is ?_; first | refine wq_ ?_) | (refine Kb.mk ?_; intro b_ w_ hb_ hl_ hx_ hB_) | (refine Ks.mk ?_; intro w_ hz_ hx_ hB_) | (refine Ko.mk ?_; intro A_ c_ w_ hx_ ho_ hr_; have hz_ := hx_.size; have hq_ := own_cap ho_) | (refine Kp.mk ?_; intro A_ c_ w_ hx_ hz_ ho_ hr_ hp_; have hq_ := own_cap ho_) | (refine Kl.mk ?_; intro b_ w_ hb_ hl_ hx_ hB_ ho_) | (refine Km.mk ?_; intro b_ w_ hb_ hl_ hx_ ho_) | (refine Ke.mk ?_; intro r_ hr_) | (refine Kg.mk ?_ ?_ <;> intro hs_ <;> (try simp only [strEq_t, strEq_f, decide_eq_true_eq, decide_eq_false_iff_not, beq_iff_eq, beq_eq_false_iff_ne, bne_iff_ne, bne_eq_false_iff_eq, Bool.not_eq_true', Bool.not_eq_false', Bool.not_true, Bool.not_false, gt_iff_lt, ge_iff_le, Int.not_lt, Int.not_le, ne_eq, Bool.false_eq_true, not_true_eq_false, reduceCtorEq] at hs_) <;> (try (exfalso; first | exact hs_ | (exact hs_ rfl) | omega))) ))
    all_goals exact ⟨_, _, rfl, own_, ext_⟩
end Go.Proofs.Ytejdjpjaahfnaaa.K
set_option linter.unusedVariables false
set_option linter.unusedSimpArgs false
namespace Go.Proofs.Ytejdjpjaahfnaaa.K
open Go.RowKit
section
variable {P : Program} {ops : Array Oper} {Q : Exit → Act → World → Prop} {n : Nat} {E : Env} {w : World} {l : List Oper}
variable {dd : Option Tmp} {d : Nat} {ty : TypeId} {pos : String} {aft : Array Edge} {g : Option (Nat × Bool)}
theorem WL_nilP {x : Operand} {ad : Addr} (hdn : Nat.ble (d + 1) n = true) (hw : wants ops E g = some true) (hx : evE E x = some (.pointer (some ad)))
    (h : WL P ops Q l n ((d, .pointer (some ad)) :: E) w) : WL P ops Q (⟨some d, .nilCheck x, ty, pos, aft, g⟩ :: l) n E w := by
  refine WL_val rfl hdn hw _ w (fun a ha => ?_) h
  unfold execOp
  simp only [evE_eval ha hx]
  rfl
theorem WL_iface {T : TypeId} {x : Operand} {v : Value} (hdn : Nat.ble (d + 1) n = true) (hw : wants ops E g = some true) (hx : evE E x = some v) (hr : ∀ w, (Instr.makeInterface T v).run P w = .ok (.iface T v) w)
    (h : WL P ops Q l n ((d, .iface T v) :: E) w) : WL P ops Q (⟨some d, .makeInterface T x, ty, pos, aft, g⟩ :: l) n E w := by
  refine WL_val rfl hdn hw _ w (fun a ha => ?_) h
  unfold execOp
  simp only [evE_eval ha hx, Sem.run_bind, hr w, Result.andThen_ok]
  rfl
theorem WL_assert {T U : TypeId} {x : Operand} {v r : Value} {ok : Bool} (hdn : Nat.ble (d + 1) n = true) (hw : wants ops E g = some true) (hx : evE E x = some v) (hr : ∀ w, (Instr.typeAssert v T U ok).run P w = .ok r w)
    (h : WL P ops Q l n ((d, r) :: E) w) : WL P ops Q (⟨some d, .typeAssert x T U ok, ty, pos, aft, g⟩ :: l) n E w := by
  refine WL_val rfl hdn hw _ w (fun a ha => ?_) h
  unfold execOp
  simp only [evE_eval ha hx, Sem.run_bind, hr w, Result.andThen_ok]
  rfl
end
section
variable {P : Program} {ops : Array Oper} {C : World → Prop} {QX : Act → World → Prop} {n : Nat} {E : Env} {w : World} {bb xx : Bool} {i : Nat} {l : Plan}
theorem WX_nilP {o : Oper} {d : Nat} {x : Operand} {ad : Addr} (ho : nthO ops.toList i = some o) (hop : o.op = .nilCheck x) (hd : o.dst = some d) (hdn : Nat.ble (d + 1) n = true) (hw : wants ops E o.guard = some true) (hx : evE E x = some (.pointer (some ad)))
    (h : WX P ops C QX false l n ((d, .pointer (some ad)) :: E) w) : WX P ops C QX bb (.rd xx i l) n E w := by
  intro a ha
  refine XW_rd ?_
  refine ⟨o, nthO_get ho, .pointer (some ad), .inl ⟨wants_spec ha hw, fun w' _ => ?_⟩, ?_⟩
  · unfold execOp
    rw [hop]
    simp only [evE_eval ha hx]
    rfl
  · rw [hd]; exact h _ (ha.put (Nat.le_of_ble_eq_true hdn) _)
theorem WQ_bodyAC {fn : Func} {R : Ending → World → Prop} {t u : Tmp} {T U : TypeId} {s : Nat} [TAgg P T] [TSize P T s] [TScalar P U] {b c : Nat} {cs : List Value} {v' : Value} {T' U' : TypeId} {e : Exit} (he : e = .ret ∨ e = .normal) (hr : fn.results = #[.cell t T, .cell u U])
    (hv : lk E t = some (.pointer (some ⟨b, 0, none⟩))) (hv' : lk E u = some (.pointer (some ⟨c, 0, none⟩))) (hb : Blk w b cs T') (hl : cs.length = s) (hc : Blk w c [v'] U') (h : R (.returned (.tuple #[.agg cs.toArray, v'])) w) : WQ (bodyPost P fn R) e n E w := by
  intro a ha
  have h' : a.defers = [] ∧ ∃ v, (results fn a.tmps).run P w = .ok v w ∧ R (.returned v) w := by
    refine ⟨ha.2.1, _, ?_, h⟩
    have k1 := ha.2.2 t _ hv
    have k2 := ha.2.2 u _ hv'
    rw [Array.getD_eq_getD_getElem?] at k1 k2
    simp only [results, hr]
    simp [Sem.run_bind, Result.andThen, k1, k2, asAddr, run_loadVar_agg (P := P) (T := T) hl hb, run_loadVar_cell (P := P) (T := U) hc]
  rcases he with rfl | rfl <;> exact h'
end
end Go.Proofs.Ytejdjpjaahfnaaa.K
set_option linter.unusedVariables false
set_option linter.unusedSimpArgs false
namespace Go.Proofs.Ytejdjpjaahfnaaa.K
open Go.RowKit
section
variable {P : Program} {ops : Array Oper} {Q : Exit → Act → World → Prop} {n : Nat} {E : Env} {w : World} {l : List Oper}
variable {dd : Option Tmp} {d : Nat} {ty : TypeId} {pos : String} {aft : Array Edge} {g : Option (Nat × Bool)}
theorem WL_makeS {t e s b : Nat} [hT : TSlice P t e s b] {zs : List Value} [hz : TZero P e (.agg zs.toArray)] {x y : Operand} {m : Nat} {i i' : Int} {k k' : IntKind} {cs : List Value} (hdn : Nat.ble (d + 1) n = true) (hw : wants ops E g = some true) (hx : evE E x = some (.int k i)) (hy : evE E y = some (.int k' i')) (hi : i = (m : Int)) (hi' : i' = (m : Int))
    (hcs : (madeCells zs.toArray (m * s)).toList = cs) (hbytes : b * m ≤ 281474976710656) (h63 : m * s ≤ 4611686018427387904) (hm : m ≤ 4611686018427387904)
    (h : ∀ b' w', w.heap.size ≤ b' → b' < w'.heap.size → Ext w w' → Blk w' b' cs e → w'.ownsRow w.heap.size e s (.slice (some ⟨b', 0, none⟩) m m) m cs → WL P ops Q l n ((d, .slice (some ⟨b', 0, none⟩) m m) :: E) w') :
    WL P ops Q (⟨some d, .makeSlice t x y, ty, pos, aft, g⟩ :: l) n E w := by
  subst hi; subst hi'
  obtain ⟨inf, hinf, hs, hby⟩ := slice_info (P := P) t
  have hz0 : inf.zero = some (.agg zs.toArray) := by have := hz.out; rw [hinf] at this; exact this
  have hr := run_make (P := P) w t e inf (.agg zs.toArray) hT.out hinf hz0 k k' (m : Int) (m : Int) om_ om_ (by rw [hby]; have : ((b * m : Nat) : Int) ≤ ((281474976710656 : Nat) : Int) := Int.ofNat_le.2 hbytes; rw [Int.natCast_mul] at this; exact this) om_
  rw [Int.toNat_natCast, hs] at hr
  have hblk : Blk (w.alloc (.cells (madeCells zs.toArray (m * s)) e)) w.heap.size cs e := by
    unfold Blk
    rw [heap_alloc_new w _, ← hcs, Array.toArray_toList]
  have hown := World.ownsRow_lit (base := w.heap.size) (e := e) (size := s) w (madeCells zs.toArray (m * s)) m (Nat.le_refl _) (by unfold maxLen; omega) (by rw [size_madeCells])
  rw [hcs] at hown
  refine WL_val rfl hdn hw _ _ (fun a ha => ?_) (h w.heap.size _ (Nat.le_refl _) (by simp) (Ext.alloc w _) hblk hown)
  unfold execOp
  simp only [evE_eval ha hx, evE_eval ha hy, Sem.run_bind, hr, Result.andThen_ok]
  rfl
end
end Go.Proofs.Ytejdjpjaahfnaaa.K
set_option linter.unusedVariables false
set_option linter.unusedSimpArgs false
set_option maxHeartbeats 4000000
set_option maxRecDepth 20000
namespace Go.Proofs.Ytejdjpjaahfnaaa.K
open Go.RowKit
attribute [local irreducible] strEq strOfNums Calls WL WC WQ WX Code.wp wpList bodyPost
/-- A device. -/
structure Dv where
  sz : Int
  zs : List Zo
  r0 : List Int
  r1 : List Int
  f0 : List Int
  f1 : List Int
  dn : Bool
  lf : Int
  ft : Int
  de : Int
/-- What every device that comes in is. -/
structure DvW (d : Dv) : Prop where
  zw : ∀ z ∈ d.zs, Zst z
  r0 : (∀ x ∈ d.r0, 0 ≤ x ∧ x < 256) ∧ d.r0.length ≤ 1000000
  r1 : (∀ x ∈ d.r1, 0 ≤ x ∧ x < 256) ∧ d.r1.length ≤ 1000000
  f0 : (∀ x ∈ d.f0, 0 ≤ x ∧ x < 256) ∧ d.f0.length ≤ 1000000
  f1 : (∀ x ∈ d.f1, 0 ≤ x ∧ x < 256) ∧ d.f1.length ≤ 1000000
  zl : d.zs.length ≤ 1000000
  sb : -9223372036854775808 ≤ d.sz ∧ d.sz ≤ 9223372036854775807
  lb : -9223372036854775808 ≤ d.lf ∧ d.lf ≤ 9223372036854775807
  fb : -9223372036854775808 ≤ d.ft ∧ d.ft ≤ 9223372036854775807
  db : -9223372036854775808 ≤ d.de ∧ d.de ≤ 9223372036854775807
/-- May a device be? -/
def OkD (d : Dv) : Prop := (∀ z ∈ d.zs, OkZ z d.sz) ∧ (d.r0.length = 128 ∧ (d.f0.length = 0 ∨ d.f0.length = 128)) ∧ (d.r1.length = 128 ∧ (d.f1.length = 0 ∨ d.f1.length = 128)) ∧ (0 < d.zs.length ∧ d.zs.length ≤ 64) ∧ 0 < d.sz ∧ d.sz ≤ 65536
instance (d : Dv) : Decidable (OkD d) := by unfold OkD; infer_instance
def okD (d : Dv) : Bool := decide (OkD d)
theorem okD_iff {d : Dv} : okD d = true ↔ OkD d := decide_eq_true_iff
/-- How many of the first i zones are open. -/
def opT (zs : List Zo) : Nat → Nat
  | 0 => 0
  | i + 1 => opT zs i + (if ((zs[i]?).map (·.s)) = some 1 then 1 else 0)
def opD (d : Dv) : Nat := opT d.zs d.zs.length
theorem opT_le (zs : List Zo) : ∀ i, opT zs i ≤ i
  | 0 => Nat.le_refl _
  | i + 1 => by have := opT_le zs i; unfold opT; split <;> omega
theorem opT_step (zs : List Zo) (i : Nat) : opT zs (i + 1) = opT zs i + (if ((zs[i]?).map (·.s)) = some 1 then 1 else 0) := rfl
/-- A zone behind a command of a zone. -/
def zdE (d : Dv) (k : Int) (z : Zo) (b : List Int) : Int := if k = 2 then rsE z else if k = 3 then fiE z else if z.s = 0 ∧ 4 ≤ opD d then 90 else appE z d.sz b.length
def zdZ (d : Dv) (k : Int) (z : Zo) (b : List Int) : Zo := if k = 2 then rsZ z else if k = 3 then fiZ z else appZ z d.sz b
def zoE (d : Dv) (k n : Int) (b : List Int) : Int := if n < 0 then 1 else match d.zs[n.toNat]? with
  | none => 1
  | some z => zdE d k z b
def zoD (d : Dv) (k n : Int) (b : List Int) : Dv := if n < 0 then d else match d.zs[n.toNat]? with
  | none => d
  | some z => if zdE d k z b = 0 then { d with zs := d.zs.set n.toNat (zdZ d k z b) } else d
/-- A flush. -/
def neI (f r : List Int) : List Int := if f.length = 0 then r else f
def fsD (d : Dv) : Dv := { d with zs := d.zs.map flZ, r0 := neI d.f0 d.r0, r1 := neI d.f1 d.r1, f0 := [], f1 := [] }
/-- A root sector. -/
def roD (d : Dv) (n : Int) (b : List Int) : Dv := if n = 0 then { d with f0 := b } else { d with f1 := b }
def dnE (d : Dv) (k n : Int) (b : List Int) : Int := if k = 1 ∨ k = 2 ∨ k = 3 then zoE d k n b else if k = 4 then 0 else if k = 5 then (if n < 0 ∨ n ≥ 2 ∨ b.length ≠ 128 then 100 else 0) else 1
def dnD (d : Dv) (k n : Int) (b : List Int) : Dv := if k = 1 ∨ k = 2 ∨ k = 3 then zoD d k n b else if k = 4 then fsD d else if k = 5 then (if n < 0 ∨ n ≥ 2 ∨ b.length ≠ 128 then d else roD d n b) else d
/-- A device that did one command more. -/
def d1 (d : Dv) : Dv := { d with lf := if d.lf > 0 then d.lf - 1 else d.lf, de := IntKind.i64.wrap (d.de + 1) }
def d2 (d : Dv) : Dv := { d1 d with ft := if d.ft > 0 then d.ft - 1 else d.ft }
def doE (d : Dv) (k n : Int) (b : List Int) : Int := if ¬ OkD d then 1 else if d.dn = true ∨ d.lf = 0 then 101 else if d.ft = 0 then 102 else dnE (d2 d) k n b
def doD (d : Dv) (k n : Int) (b : List Int) : Dv := if ¬ OkD d then d else if d.dn = true ∨ d.lf = 0 then { d with dn := true } else if d.ft = 0 then { d1 d with ft := -1 } else dnD (d2 d) k n b
def crI (f r : List Int) (b : Bool) : List Int := if f.length = 0 ∨ b = false then r else f
def crL (sz : Int) (ks : List Int) (zs : List Zo) : List Zo := zs.mapIdx fun i z => crZ z sz (ks.getD i 0)
def crD (d : Dv) (ks : List Int) (b0 b1 : Bool) : Dv := if ¬ OkD d then d else { d with zs := crL d.sz ks d.zs, r0 := crI d.f0 d.r0 b0, r1 := crI d.f1 d.r1 b1, f0 := [], f1 := [], dn := false, lf := -1, ft := -1 }
/-- A slice. -/
structure Sl where
  A : Option Addr
  m : Nat
  c : Nat
def slV (s : Sl) : Value := .slice s.A s.m s.c
/-- A slice holds these bytes. -/
def SlB (w : World) (s : Sl) (xs : List Int) : Prop := xs.length = s.m ∧ (s.m ≤ s.c ∧ s.c ≤ 9223372036854775807) ∧ Cells w s.A (xs.map (.int .u8))
theorem SlB.ext {w w' : World} {s : Sl} {xs : List Int} (h : SlB w s xs) (k : Ext w w') : SlB w' s xs := ⟨h.1, h.2.1, h.2.2.ext k⟩
/-- A zone as it lies in memory. -/
def zpC (p : Zo × Sl) : List Value := [.int .i64 p.1.s, slV p.2, .int .i64 p.1.l]
theorem zpC_length (p : Zo × Sl) : (zpC p).length = 3 := rfl
structure Ds where
  Z : Sl
  r0 : Sl
  r1 : Sl
  f0 : Sl
  f1 : Sl
def dvC (d : Dv) (s : Ds) : List Value := [.int .i64 d.sz, slV s.Z, slV s.r0, slV s.r1, slV s.f0, slV s.f1, .bool d.dn, .int .i64 d.lf, .int .i64 d.ft, .int .i64 d.de]
theorem dvC_length (d : Dv) (s : Ds) : (dvC d s).length = 10 := rfl
theorem dvC_one (d : Dv) (s : Ds) : ∀ u ∈ dvC d s, u.oneCell' = true := by
  intro u hu
  simp only [dvC, List.mem_cons, List.not_mem_nil, or_false] at hu
  rcases hu with rfl | rfl | rfl | rfl | rfl | rfl | rfl | rfl | rfl | rfl <;> rfl
/-- A device lies in memory. -/
structure DM (w : World) (d : Dv) (s : Ds) (zp : List (Zo × Sl)) : Prop where
  zs : zp.map (·.1) = d.zs
  zm : zp.length = s.Z.m
  zc : s.Z.m ≤ s.Z.c ∧ s.Z.c ≤ 9223372036854775807
  zz : Cells w s.Z.A (catC zpC zp)
  zb : ∀ p ∈ zp, SlB w p.2 p.1.d
  r0 : SlB w s.r0 d.r0
  r1 : SlB w s.r1 d.r1
  f0 : SlB w s.f0 d.f0
  f1 : SlB w s.f1 d.f1
theorem DM.ext {w w' : World} {d : Dv} {s : Ds} {zp : List (Zo × Sl)} (h : DM w d s zp) (k : Ext w w') : DM w' d s zp := ⟨h.zs, h.zm, h.zc, h.zz.ext k, fun p hp => (h.zb p hp).ext k, h.r0.ext k, h.r1.ext k, h.f0.ext k, h.f1.ext k⟩
theorem DM.go {w w' : World} {d : Dv} {s : Ds} {zp : List (Zo × Sl)} (h : DM w d s zp) (k : Ext w w') : DM w' d s zp := h.ext k
theorem DM.len {w : World} {d : Dv} {s : Ds} {zp : List (Zo × Sl)} (h : DM w d s zp) : d.zs.length = s.Z.m := by rw [← h.zs, List.length_map, h.zm]
theorem DM.get {w : World} {d : Dv} {s : Ds} {zp : List (Zo × Sl)} (h : DM w d s zp) {i : Nat} (hi : i < s.Z.m) : ∃ p, zp[i]? = some p ∧ d.zs[i]? = some p.1 ∧ SlB w p.2 p.1.d := by
  have hi' : i < zp.length := by rw [h.zm]; exact hi
  refine ⟨zp[i], List.getElem?_eq_getElem hi', ?_, h.zb _ (List.getElem_mem hi')⟩
  rw [← h.zs, List.getElem?_map, List.getElem?_eq_getElem hi']; rfl
theorem zp_at {zp : List (Zo × Sl)} {i : Nat} {p : Zo × Sl} (h : zp[i]? = some p) : (catC zpC zp)[(i : Int).toNat * 3 + 0]? = some (.int .i64 p.1.s) ∧ (catC zpC zp)[(i : Int).toNat * 3 + 1]? = some (slV p.2) ∧ (catC zpC zp)[(i : Int).toNat * 3 + 2]? = some (.int .i64 p.1.l) := by
  have hS := Seg.cat (f := zpC) (s := 3) zpC_length h
  have e : ∀ k, k < 3 → (catC zpC zp)[i * 3 + k]? = (zpC p)[k]? := fun k hk => by
    rw [← hS.2.2, List.getElem?_take, if_pos hk, List.getElem?_drop]
  rw [Int.toNat_natCast]
  exact ⟨e 0 om_, e 1 om_, e 2 om_⟩
theorem DM.sz {w : World} {d : Dv} {s : Ds} {zp : List (Zo × Sl)} (h : DM w d s zp) : (catC zpC zp).length = s.Z.m * 3 := by rw [catC_length zpC_length, h.zm]
theorem zp_one (zp : List (Zo × Sl)) : ∀ u ∈ catC zpC zp, u.oneCell' = true := by
  intro v hv
  simp only [catC, List.mem_flatMap] at hv
  obtain ⟨p, _, hv⟩ := hv
  simp only [zpC, List.mem_cons, List.not_mem_nil, or_false] at hv
  rcases hv with rfl | rfl | rfl <;> rfl
/-! ### a device in memory of a call's own -/
abbrev ByT : TypeId := 5
abbrev ZoT : TypeId := 92
abbrev DeT : TypeId := 46
abbrev EroT : TypeId := 29
def OwB (N : Nat) (w : World) (s : Sl) (xs : List Int) : Prop := w.ownsRow N ByT 1 (slV s) xs.length (xs.map (.int .u8))
theorem OwB.slB {N : Nat} {w : World} {s : Sl} {xs : List Int} (h : OwB N w s xs) : SlB w s xs := by
  have h' : w.ownsRow N ByT 1 (.slice s.A s.m s.c) xs.length (xs.map (.int .u8)) := h
  obtain ⟨A, c, he, _, _⟩ := own_cells h'
  cases s with
  | mk A m c =>
    dsimp only at he h'
    cases he
    exact ⟨rfl, own_cap h', own_rd h'⟩
theorem own_ne {w : World} {base n size g : Nat} {e T : TypeId} {v : Value} {xs cs : List Value} (h : w.ownsRow base e size v n xs) (hB : Blk w g cs T) (hne : e ≠ T) : ∀ g', v.ownBlock = some g' → g' ≠ g := by
  intro g' hg' he
  subst he
  rcases h.2 with ⟨rfl, _⟩ | ⟨g2, cap, cur, rfl, _, hh, _⟩
  · cases hg'
  · simp only [Value.ownBlock, Option.some.injEq] at hg'
    subst hg'
    unfold Blk at hB
    rw [hh] at hB
    simp only [Option.some.injEq, Obj.cells.injEq] at hB
    exact hne hB.2.1
theorem OwB.ext {N : Nat} {w w' : World} {s : Sl} {xs : List Int} (h : OwB N w s xs) (k : Ext w w') : OwB N w' s xs := own_ext h k
theorem OwB.put {N : Nat} {w w' : World} {s : Sl} {xs : List Int} {g : Nat} {cs : List Value} {T : TypeId} (h : OwB N w s xs) (hB : Blk w g cs T) (hne : ByT ≠ T) (k : ExtB g w w') : OwB N w' s xs := own_other k h (own_ne h hB hne)
theorem OwB.of {N M : Nat} {w : World} {A : Option Addr} {m c : Nat} {xs : List Int} (h : w.ownsRow M ByT 1 (.slice A m c) m (xs.map (.int .u8))) (hl : xs.length = m) (hN : N ≤ M) : OwB N w ⟨A, m, c⟩ xs := by
  subst hl; exact own_mono h hN
structure DSt (N : Nat) (w : World) (b : Nat) (d : Dv) (s : Ds) (zp : List (Zo × Sl)) : Prop where
  bd : Blk w b (dvC d s) DeT
  zs : zp.map (·.1) = d.zs
  zr : w.ownsRow N ZoT 3 (slV s.Z) zp.length (catC zpC zp)
  zb : ∀ p ∈ zp, OwB N w p.2 p.1.d
  r0 : OwB N w s.r0 d.r0
  r1 : OwB N w s.r1 d.r1
  f0 : OwB N w s.f0 d.f0
  f1 : OwB N w s.f1 d.f1
theorem row_m {N : Nat} {w : World} {T : TypeId} {k : Nat} {s : Sl} {n : Nat} {cs : List Value} (h : w.ownsRow N T k (slV s) n cs) : s.m = n := by
  have h' : w.ownsRow N T k (.slice s.A s.m s.c) n cs := h
  obtain ⟨A, c, he, _, _⟩ := own_cells h'
  cases s with
  | mk A m c => dsimp only at he; cases he; rfl
theorem DSt.dm {N : Nat} {w : World} {b : Nat} {d : Dv} {s : Ds} {zp : List (Zo × Sl)} (h : DSt N w b d s zp) : DM w d s zp := by
  have hm := row_m h.zr
  have hr : w.ownsRow N ZoT 3 (.slice s.Z.A s.Z.m s.Z.c) zp.length (catC zpC zp) := h.zr
  refine ⟨h.zs, hm.symm, own_cap hr, own_rd hr, fun p hp => (h.zb p hp).slB, h.r0.slB, h.r1.slB, h.f0.slB, h.f1.slB⟩
theorem DSt.ext {N : Nat} {w w' : World} {b : Nat} {d : Dv} {s : Ds} {zp : List (Zo × Sl)} (h : DSt N w b d s zp) (k : Ext w w') : DSt N w' b d s zp :=
  ⟨h.bd.ext k, h.zs, own_ext h.zr k, fun p hp => (h.zb p hp).ext k, h.r0.ext k, h.r1.ext k, h.f0.ext k, h.f1.ext k⟩
theorem DSt.mono {N M : Nat} {w : World} {b : Nat} {d : Dv} {s : Ds} {zp : List (Zo × Sl)} (h : DSt N w b d s zp) (k : M ≤ N) : DSt M w b d s zp :=
  ⟨h.bd, h.zs, own_mono h.zr k, fun p hp => own_mono (h.zb p hp) k, own_mono h.r0 k, own_mono h.r1 k, own_mono h.f0 k, own_mono h.f1 k⟩
/-- A device whose rows are a call's own. -/
structure DRw (N : Nat) (w : World) (d : Dv) (s : Ds) (zp : List (Zo × Sl)) : Prop where
  zs : zp.map (·.1) = d.zs
  zr : w.ownsRow N ZoT 3 (slV s.Z) zp.length (catC zpC zp)
  zb : ∀ p ∈ zp, OwB N w p.2 p.1.d
  r0 : OwB N w s.r0 d.r0
  r1 : OwB N w s.r1 d.r1
  f0 : OwB N w s.f0 d.f0
  f1 : OwB N w s.f1 d.f1
theorem DSt.dr {N : Nat} {w : World} {b : Nat} {d : Dv} {s : Ds} {zp : List (Zo × Sl)} (h : DSt N w b d s zp) : DRw N w d s zp := ⟨h.zs, h.zr, h.zb, h.r0, h.r1, h.f0, h.f1⟩
theorem DRw.dm {N : Nat} {w : World} {d : Dv} {s : Ds} {zp : List (Zo × Sl)} (h : DRw N w d s zp) : DM w d s zp := by
  have hm := row_m h.zr
  have hr : w.ownsRow N ZoT 3 (.slice s.Z.A s.Z.m s.Z.c) zp.length (catC zpC zp) := h.zr
  refine ⟨h.zs, hm.symm, own_cap hr, own_rd hr, fun p hp => (h.zb p hp).slB, h.r0.slB, h.r1.slB, h.f0.slB, h.f1.slB⟩
theorem DRw.mono {N M : Nat} {w : World} {d : Dv} {s : Ds} {zp : List (Zo × Sl)} (h : DRw N w d s zp) (k : M ≤ N) : DRw M w d s zp :=
  ⟨h.zs, own_mono h.zr k, fun p hp => own_mono (h.zb p hp) k, own_mono h.r0 k, own_mono h.r1 k, own_mono h.f0 k, own_mono h.f1 k⟩
theorem DRw.ext {N : Nat} {w w' : World} {d : Dv} {s : Ds} {zp : List (Zo × Sl)} (h : DRw N w d s zp) (k : Ext w w') : DRw N w' d s zp :=
  ⟨h.zs, own_ext h.zr k, fun p hp => (h.zb p hp).ext k, h.r0.ext k, h.r1.ext k, h.f0.ext k, h.f1.ext k⟩
theorem DRw.other {N : Nat} {w w' : World} {g : Nat} {d : Dv} {s : Ds} {zp : List (Zo × Sl)} {cs : List Value} {T : TypeId} (h : DRw N w d s zp) (hB : Blk w g cs T) (k : ExtB g w w') (n1 : ByT ≠ T) (n2 : ZoT ≠ T) : DRw N w' d s zp :=
  ⟨h.zs, own_other k h.zr (own_ne h.zr hB n2), fun p hp => (h.zb p hp).put hB n1 k, h.r0.put hB n1 k, h.r1.put hB n1 k, h.f0.put hB n1 k, h.f1.put hB n1 k⟩
/-- The device's own cells turn. -/
theorem DSt.dev {N : Nat} {w w' : World} {b : Nat} {d d' : Dv} {s s' : Ds} {zp : List (Zo × Sl)} (h : DSt N w b d s zp) (k : ExtB b w w') (hB : Blk w' b (dvC d' s') DeT) (hz : s'.Z = s.Z) (hzs : d'.zs = d.zs)
    (r0 : OwB N w s'.r0 d'.r0) (r1 : OwB N w s'.r1 d'.r1) (f0 : OwB N w s'.f0 d'.f0) (f1 : OwB N w s'.f1 d'.f1) : DSt N w' b d' s' zp := by
  have n1 : ByT ≠ DeT := by decide
  have n2 : ZoT ≠ DeT := by decide
  refine ⟨hB, h.zs.trans hzs.symm, ?_, fun p hp => (h.zb p hp).put h.bd n1 k, r0.put h.bd n1 k, r1.put h.bd n1 k, f0.put h.bd n1 k, f1.put h.bd n1 k⟩
  rw [hz]
  exact own_other k h.zr (own_ne h.zr h.bd n2)
/-- Another block turns. -/
theorem DSt.other {N : Nat} {w w' : World} {b g : Nat} {d : Dv} {s : Ds} {zp : List (Zo × Sl)} {cs : List Value} {T : TypeId} (h : DSt N w b d s zp) (hB : Blk w g cs T) (k : ExtB g w w') (hb : b ≠ g) (n1 : ByT ≠ T) (n2 : ZoT ≠ T) : DSt N w' b d s zp :=
  ⟨h.bd.extB k hb, h.zs, own_other k h.zr (own_ne h.zr hB n2), fun p hp => (h.zb p hp).put hB n1 k, h.r0.put hB n1 k, h.r1.put hB n1 k, h.f0.put hB n1 k, h.f1.put hB n1 k⟩
/-- The row of the zones, opened. -/
theorem row_open {N : Nat} {w : World} {T : TypeId} {k : Nat} {s : Sl} {n : Nat} {cs : List Value} (h : w.ownsRow N T k (slV s) n cs) (hn : 0 < n) : ∃ g rest, s.A = some ⟨g, 0, none⟩ ∧ N ≤ g ∧ Blk w g (cs ++ rest) T := by
  rcases h.2 with ⟨_, h0⟩ | ⟨g, cap, cur, hv, hb, hg, h1, h2, h3, h4⟩
  · omega
  · have hv' : Value.slice s.A s.m s.c = .slice (some ⟨g, 0, none⟩) n cap := hv
    simp only [Value.slice.injEq] at hv'
    refine ⟨g, cur.toList.drop (n * k), hv'.1, hb, ?_⟩
    unfold Blk
    rw [← h4, List.take_append_drop]
    exact hg
theorem row_put {N : Nat} {w w' : World} {T : TypeId} {k : Nat} {s : Sl} {n g : Nat} {cs cs' rest : List Value} (h : w.ownsRow N T k (slV s) n cs) (hA : s.A = some ⟨g, 0, none⟩) (hB : Blk w g (cs ++ rest) T) (hB' : Blk w' g (cs' ++ rest) T) (hl : cs'.length = cs.length) : w'.ownsRow N T k (slV s) n cs' := by
  obtain ⟨hl0, h2⟩ := h
  refine ⟨hl.trans hl0, ?_⟩
  rcases h2 with ⟨hv, h0⟩ | ⟨g', cap, cur, hv, hb, hg, h1, h2, h3, h4⟩
  · have hv' : Value.slice s.A s.m s.c = .slice none 0 0 := hv
    simp only [Value.slice.injEq] at hv'
    rw [hA] at hv'
    cases hv'.1
  · right
    have hv' : Value.slice s.A s.m s.c = .slice (some ⟨g', 0, none⟩) n cap := hv
    simp only [Value.slice.injEq] at hv'
    have e1 := hv'.1
    rw [hA] at e1
    simp only [Option.some.injEq, Addr.mk.injEq, and_true] at e1
    subst e1
    have hB2 : w.heap[g]? = some (.cells (cs ++ rest).toArray T (0, 0)) := hB
    rw [hg] at hB2
    simp only [Option.some.injEq, Obj.cells.injEq, and_true] at hB2
    refine ⟨g, cap, (cs' ++ rest).toArray, hv, hb, hB', h1, h2, ?_, ?_⟩
    · have : cur.size = (cs ++ rest).length := by rw [hB2]; simp
      rw [← h3, this, List.size_toArray, List.length_append, List.length_append, hl]
    · show (cs' ++ rest).take (n * k) = cs'
      rw [← hl0, ← hl, List.take_left]
/-- A zone turns. -/
theorem DSt.zone {N : Nat} {w w' : World} {b g : Nat} {d : Dv} {s : Ds} {zp : List (Zo × Sl)} {rest : List Value} (h : DSt N w b d s zp) (hA : s.Z.A = some ⟨g, 0, none⟩) (hB : Blk w g (catC zpC zp ++ rest) ZoT) (k : ExtB g w w') {i : Nat} {p : Zo × Sl} (hi : i < zp.length) (hB' : Blk w' g (catC zpC (zp.set i p) ++ rest) ZoT) (hp : OwB N w p.2 p.1.d) : DSt N w' b { d with zs := d.zs.set i p.1 } s (zp.set i p) := by
  have n1 : ByT ≠ ZoT := by decide
  have n2 : DeT ≠ ZoT := by decide
  have hbg : b ≠ g := by
    intro e
    subst e
    have h1 : w.heap[b]? = some (.cells (dvC d s).toArray DeT (0, 0)) := h.bd
    have h2 : w.heap[b]? = some (.cells (catC zpC zp ++ rest).toArray ZoT (0, 0)) := hB
    rw [h1] at h2
    simp only [Option.some.injEq, Obj.cells.injEq] at h2
    exact n2 h2.2.1
  refine ⟨h.bd.extB k hbg, ?_, ?_, ?_, h.r0.put hB n1 k, h.r1.put hB n1 k, h.f0.put hB n1 k, h.f1.put hB n1 k⟩
  · rw [List.map_set, h.zs]
  · rw [List.length_set]
    exact row_put h.zr hA hB hB' (by rw [catC_length zpC_length, catC_length zpC_length, List.length_set])
  · intro q hq
    rcases List.mem_or_eq_of_mem_set hq with hq | rfl
    · exact (h.zb q hq).put hB n1 k
    · exact hp.put hB n1 k
theorem Put.appR {cs vs cs' rest : List Value} {i : Nat} (h : Put cs i vs cs') : Put (cs ++ rest) i vs (cs' ++ rest) := by
  obtain ⟨h1, h2⟩ := h
  refine ⟨by rw [List.length_append]; omega, ?_⟩
  rw [List.take_append_of_le_length om_, List.drop_append_of_le_length h1, ← h2, List.append_assoc, List.append_assoc, List.append_assoc]
theorem Put.zp {zp : List (Zo × Sl)} {rest : List Value} {i : Nat} (p : Zo × Sl) (hi : i < zp.length) : Put (catC zpC zp ++ rest) (0 + i * 3) (zpC p) (catC zpC (zp.set i p) ++ rest) := by
  rw [Nat.zero_add]
  exact (Put.cat zpC_length p hi).appR
/-- Below N nothing turns, but what P names, at most. -/
structure BelowE (N : Nat) (P : Nat → Prop) (w w' : World) : Prop where
  os : w'.os = w.os
  tape : w'.tape = w.tape
  output : w'.output = w.output
  size : w.heap.size ≤ w'.heap.size
  block : ∀ k, k < N → ¬ P k → w'.heap[k]? = w.heap[k]?
theorem BelowE.refl (N : Nat) (P : Nat → Prop) (w : World) : BelowE N P w w := ⟨rfl, rfl, rfl, Nat.le_refl _, fun _ _ _ => rfl⟩
theorem BelowE.then {N : Nat} {P : Nat → Prop} {a b c : World} (h : BelowE N P a b) (k : BelowE N P b c) : BelowE N P a c :=
  ⟨k.os.trans h.os, k.tape.trans h.tape, k.output.trans h.output, Nat.le_trans h.size k.size, fun i hi hn => (k.block i hi hn).trans (h.block i hi hn)⟩
theorem BelowE.ext {N : Nat} {P : Nat → Prop} {a b c : World} (h : BelowE N P a b) (k : Ext b c) (hN : N ≤ a.heap.size) : BelowE N P a c :=
  h.then ⟨k.os, k.tape, k.output, k.size, fun i hi _ => k.block i (Nat.lt_of_lt_of_le hi (Nat.le_trans hN h.size))⟩
theorem BelowE.extB {N : Nat} {P : Nat → Prop} {g : Nat} {a b c : World} (h : BelowE N P a b) (k : ExtB g b c) (hN : N ≤ a.heap.size) (hg : N ≤ g ∨ P g) : BelowE N P a c :=
  h.then ⟨k.os, k.tape, k.output, k.size, fun i hi hn => k.block i (Nat.lt_of_lt_of_le hi (Nat.le_trans hN h.size)) (by
    intro e2; cases e2
    rcases hg with hg | hg
    · omega
    · exact hn hg)⟩
theorem BelowE.mono {N N' : Nat} {P P' : Nat → Prop} {a b : World} (h : BelowE N P a b) (hN : N' ≤ N) (hP : ∀ k, k < N' → P k → P' k) : BelowE N' P' a b :=
  ⟨h.os, h.tape, h.output, h.size, fun i hi hn => h.block i om_ (fun hp => hn (hP i hi hp))⟩
theorem BelowE.of {N : Nat} {P : Nat → Prop} {a b : World} (h : Ext a b) (hN : N ≤ a.heap.size) : BelowE N P a b := (BelowE.refl N P a).ext h hN
theorem BelowE.toExt {N : Nat} {P : Nat → Prop} {a b : World} (h : BelowE N P a b) (hN : a.heap.size ≤ N) (hP : ∀ k, k < a.heap.size → ¬ P k) : Ext a b :=
  ⟨h.os, h.tape, h.output, h.size, fun i hi => h.block i om_ (hP i hi)⟩
theorem BelowE.blk {N : Nat} {P : Nat → Prop} {a b : World} {g : Nat} {cs : List Value} {T : TypeId} (h : BelowE N P a b) (hB : Blk a g cs T) (hg : g < N) (hP : ¬ P g) : Blk b g cs T := (h.block g hg hP).trans hB
end Go.Proofs.Ytejdjpjaahfnaaa.K
set_option linter.unusedVariables false
set_option linter.unusedSimpArgs false
set_option maxHeartbeats 4000000
set_option maxRecDepth 20000
namespace Go.Proofs.Ytejdjpjaahfnaaa.K
open Go.RowKit
attribute [local irreducible] strEq strOfNums Calls WL WC WQ WX Code.wp wpList bodyPost
def dv0 : Dv := ⟨0, [], [], [], [], [], false, 0, 0, 0⟩
def sl0 : Sl := ⟨none, 0, 0⟩
def ds0 : Ds := ⟨sl0, sl0, sl0, sl0, sl0⟩
instance : TZc Try.prog 46 (dvC dv0 ds0) := ⟨by kernel_rfl⟩
theorem noneC {w : World} {A : Option Addr} {cs : List Value} (hC : Cells w A cs) (h : A = none) : cs = [] := by
  rcases hC with hC | ⟨ad, ha, _⟩
  · exact hC
  · rw [h] at ha; cases ha
theorem zp_nil {zp : List (Zo × Sl)} (h : catC zpC zp = []) : zp = [] := by
  have h1 := catC_length zpC_length zp
  rw [h] at h1
  exact List.eq_nil_of_length_eq_zero (by simp at h1; omega)
theorem slices_CloneZ_calls (zp : List (Zo × Sl)) (A : Option Addr) (m c : Nat) (w : World) (hl : zp.length = m) (hs : m ≤ 1000000) (hC : Cells w A (catC zpC zp)) :
    Calls Try.prog 67 #[.slice A m c] w fun e w' => ∃ A' c', e = .returned (.slice A' m c') ∧ w'.ownsRow w.heap.size ZoT 3 (.slice A' m c') m (catC zpC zp) ∧ Ext w w' := by
  have hcl : (catC zpC zp).length = m * 3 := by rw [catC_length zpC_length, hl]
  have h1 := zp_one zp
  cases A with
  | none =>
    have hx := noneC hC rfl
    obtain rfl : zp = [] := zp_nil hx
    obtain rfl : 0 = m := by simpa using hl
    refine calls_W (args := [.slice none 0 c]) Try.func67 rfl 8 rfl ?_
    (repeat' (first | (refine WL_is ?_; first | refine WL_nil ?_ | refine wl_ ?_ ) | (refine WC_is ?_; first | refine WC_seq (fun _ _ => ?_) | refine wc_ ?_) | (refine WQ_is ?_; first | refine wq_ ?_ | refine WQ_bodyAC (Or.inl rfl) rfl rfl rfl blk_ lr_ blk_ ?_ | refine WQ_bodyAC (Or.inr rfl) rfl rfl rfl blk_ lr_ blk_ ?_) | (refine Kb.mk ?_; intro b_ w_ hb_ hl_ hx_ hB_) | (refine Ks.mk ?_; intro w_ hz_ hx_ hB_) | (refine Ko.mk ?_; intro A_ c_ w_ hx_ ho_ hr_; have hz_ := hx_.size; have hq_ := own_cap ho_) | (refine Kp.mk ?_; intro A_ c_ w_ hx_ hz_ ho_ hr_ hp_; have hq_ := own_cap ho_) | (refine Kl.mk ?_; intro b_ w_ hb_ hl_ hx_ hB_ ho_) | (refine Km.mk ?_; intro b_ w_ hb_ hl_ hx_ ho_) | (refine Ke.mk ?_; intro r_ hr_) | (refine Kg.mk ?_ ?_ <;> intro hs_ <;> (try simp only [strEq_t, strEq_f, decide_eq_true_eq, decide_eq_false_iff_not, beq_iff_eq, beq_eq_false_iff_ne, bne_iff_ne, bne_eq_false_iff_eq, Bool.not_eq_true', Bool.not_eq_false', Bool.not_true, Bool.not_false, gt_iff_lt, ge_iff_le, Int.not_lt, Int.not_le, ne_eq, Bool.false_eq_true, not_true_eq_false, reduceCtorEq] at hs_) <;> (try (exfalso; first | exact hs_ | (exact hs_ rfl) | omega))) ))
    all_goals exact ⟨none, 0, rfl, own_nil _ _ _ _, ext_⟩
  | some ad =>
    generalize catC zpC zp = cs at *
    refine calls_W (args := [.slice (some ad) m c]) Try.func67 rfl 8 rfl ?_
    (repeat' (first | (refine WL_is ?_; first | refine WL_nil ?_ | (refine WL_lit0 rfl rfl rfl ?_; intro b_ w_ hb_ hl_ hx_ hB_ ho_) | (refine WL_isCall ?_; refine WL_isApp ?_; refine WL_appS rfl rfl rfl rfl rfl rfl as_ keepo_ om_ cells_ hcl h1 om_ om_ ?_; intro A_ c_ w_ hx_ hz_ ho_ hr_ hp_) | refine wl_ ?_ ) | (refine WC_is ?_; first | refine WC_seq (fun _ _ => ?_) | refine wc_ ?_) | (refine WQ_is ?_; first | refine wq_ ?_ | refine WQ_bodyAC (Or.inl rfl) rfl rfl rfl blk_ lr_ blk_ ?_ | refine WQ_bodyAC (Or.inr rfl) rfl rfl rfl blk_ lr_ blk_ ?_) | (refine Kb.mk ?_; intro b_ w_ hb_ hl_ hx_ hB_) | (refine Ks.mk ?_; intro w_ hz_ hx_ hB_) | (refine Ko.mk ?_; intro A_ c_ w_ hx_ ho_ hr_; have hz_ := hx_.size; have hq_ := own_cap ho_) | (refine Kp.mk ?_; intro A_ c_ w_ hx_ hz_ ho_ hr_ hp_; have hq_ := own_cap ho_) | (refine Kl.mk ?_; intro b_ w_ hb_ hl_ hx_ hB_ ho_) | (refine Km.mk ?_; intro b_ w_ hb_ hl_ hx_ ho_) | (refine Ke.mk ?_; intro r_ hr_) | (refine Kg.mk ?_ ?_ <;> intro hs_ <;> (try simp only [strEq_t, strEq_f, decide_eq_true_eq, decide_eq_false_iff_not, beq_iff_eq, beq_eq_false_iff_ne, bne_iff_ne, bne_eq_false_iff_eq, Bool.not_eq_true', Bool.not_eq_false', Bool.not_true, Bool.not_false, gt_iff_lt, ge_iff_le, Int.not_lt, Int.not_le, ne_eq, Bool.false_eq_true, not_true_eq_false, reduceCtorEq] at hs_) <;> (try (exfalso; first | exact hs_ | (exact hs_ rfl) | omega))) ))
    all_goals
      rw [Nat.zero_add, List.nil_append] at ho_
      exact ⟨_, _, by rw [Nat.zero_add], own_, ext_⟩
end Go.Proofs.Ytejdjpjaahfnaaa.K
set_option linter.unusedVariables false
set_option linter.unusedSimpArgs false
set_option maxHeartbeats 4000000
set_option maxRecDepth 20000
namespace Go.Proofs.Ytejdjpjaahfnaaa.K
open Go.RowKit
attribute [local irreducible] strEq strOfNums Calls WL WC WQ WX Code.wp wpList bodyPost
theorem zp_set1 {zp : List (Zo × Sl)} {rest : List Value} {i : Nat} {p : Zo × Sl} (h : zp[i]? = some p) (b : Sl) : (catC zpC zp ++ rest).set (0 + i * 3 + 1) (slV b) = catC zpC (zp.set i (p.1, b)) ++ rest := by
  have hi : i < zp.length := (List.getElem?_eq_some_iff.1 h).1
  have hS := Seg.cat (f := zpC) (s := 3) zpC_length h
  have hP := Put.cat (f := zpC) zpC_length (p.1, b) hi
  have hl := catC_length zpC_length zp
  have e1 : catC zpC zp = (catC zpC zp).take (i * 3) ++ (zpC p ++ (catC zpC zp).drop (i * 3 + 3)) := by
    rw [← hS.2.2, ← List.drop_drop, List.take_append_drop, List.take_append_drop]
  have hlt : ((catC zpC zp).take (i * 3)).length = i * 3 := by rw [List.length_take, hl]; omega
  rw [← hP.2, Nat.zero_add]
  generalize (catC zpC zp).drop (i * 3 + 3) = D at e1
  generalize hT : (catC zpC zp).take (i * 3) = T at *
  have e2 : (catC zpC zp).drop (i * 3 + (zpC (p.1, b)).length) = D := by
    rw [e1, List.drop_append, hlt, List.drop_of_length_le (by rw [hlt]; omega), List.nil_append, show i * 3 + (zpC (p.1, b)).length - i * 3 = 3 from by rw [zpC_length]; omega]
    rfl
  rw [e2, e1, List.append_assoc, List.set_append, if_neg om_, hlt, show i * 3 + 1 - i * 3 = 1 by omega, List.append_assoc]
  show T ++ (zpC (p.1, b) ++ (D ++ rest)) = _
  simp only [List.append_assoc]
theorem zp_rest {zp : List (Zo × Sl)} {rest : List Value} {i : Nat} {p : Zo × Sl} (h : zp[i]? = some p) : (catC zpC zp ++ rest)[0 + i * 3 + 0]? = some (.int .i64 p.1.s) ∧ (catC zpC zp ++ rest)[0 + i * 3 + 1]? = some (slV p.2) ∧ (catC zpC zp ++ rest)[0 + i * 3 + 2]? = some (.int .i64 p.1.l) ∧ 0 + i * 3 + 1 < (catC zpC zp ++ rest).length := by
  have hi : i < zp.length := (List.getElem?_eq_some_iff.1 h).1
  have hl := catC_length zpC_length zp
  obtain ⟨h0, h1, h2⟩ := zp_at h
  rw [Int.toNat_natCast] at h0 h1 h2
  have e : ∀ k, k < 3 → (catC zpC zp ++ rest)[0 + i * 3 + k]? = (catC zpC zp)[i * 3 + k]? := fun k hk => by rw [Nat.zero_add, List.getElem?_append_left om_]
  exact ⟨(e 0 om_).trans h0, (e 1 om_).trans h1, (e 2 om_).trans h2, by rw [List.length_append]; omega⟩
/-- What loop 1 of own leaves behind i rounds. -/
def ZQ (w0 : World) (N : Nat) (w : World) (d : Dv) (i : Nat) (zq : List (Zo × Sl)) : Prop := zq.map (·.1) = d.zs ∧ ∀ j p, zq[j]? = some p → if j < i then OwB N w p.2 p.1.d else SlB w0 p.2 p.1.d
theorem ZQ.ext {w0 w w' : World} {N : Nat} {d : Dv} {i : Nat} {zq : List (Zo × Sl)} (h : ZQ w0 N w d i zq) (k : Ext w w') : ZQ w0 N w' d i zq := ⟨h.1, fun j p hj => by
  have := h.2 j p hj
  split
  · rename_i hlt; rw [if_pos hlt] at this; exact this.ext k
  · rename_i hlt; rw [if_neg hlt] at this; exact this⟩
theorem ZQ.put {w0 w w' : World} {N : Nat} {d : Dv} {i : Nat} {zq : List (Zo × Sl)} {g : Nat} {cs : List Value} {T : TypeId} (h : ZQ w0 N w d i zq) (hB : Blk w g cs T) (hne : ByT ≠ T) (k : ExtB g w w') : ZQ w0 N w' d i zq := ⟨h.1, fun j p hj => by
  have := h.2 j p hj
  split
  · rename_i hlt; rw [if_pos hlt] at this; exact this.put hB hne k
  · rename_i hlt; rw [if_neg hlt] at this; exact this⟩
theorem ZQ.next {w0 w : World} {N : Nat} {d : Dv} {i : Nat} {zq : List (Zo × Sl)} {p : Zo × Sl} {b : Sl} (h : ZQ w0 N w d i zq) (hp : zq[i]? = some p) (hb : OwB N w b p.1.d) : ZQ w0 N w d (i + 1) (zq.set i (p.1, b)) := by
  have hi : i < zq.length := (List.getElem?_eq_some_iff.1 hp).1
  have hpe : zq[i] = p := (List.getElem?_eq_some_iff.1 hp).2
  refine ⟨?_, fun j q hj => ?_⟩
  · rw [List.map_set, h.1]
    have : d.zs[i]? = some p.1 := by rw [← h.1, List.getElem?_map, hp]; rfl
    obtain ⟨h1, h2⟩ := List.getElem?_eq_some_iff.1 this
    show d.zs.set i p.1 = d.zs
    rw [← h2]; exact List.set_getElem_self _
  · rw [List.getElem?_set] at hj
    split at hj
    · rename_i e
      subst e
      cases hj
      rw [if_pos om_]
      exact hb
    · rename_i e
      have := h.2 j q hj
      by_cases hlt : j < i
      · rw [if_pos hlt] at this; rw [if_pos om_]; exact this
      · rw [if_neg hlt] at this; rw [if_neg om_]; exact this
/-- What loop 2 leaves. -/
def RQ (w0 : World) (N : Nat) (w : World) (k i : Nat) (s : Sl) (xs : List Int) : Prop := if k < i then OwB N w s xs else SlB w0 s xs
theorem RQ.ext {w0 w w' : World} {N k i : Nat} {s : Sl} {xs : List Int} (h : RQ w0 N w k i s xs) (e : Ext w w') : RQ w0 N w' k i s xs := by
  unfold RQ at *
  split
  · rename_i hlt; rw [if_pos hlt] at h; exact h.ext e
  · rename_i hlt; rw [if_neg hlt] at h; exact h
theorem RQ.put {w0 w w' : World} {N k i g : Nat} {s : Sl} {xs : List Int} {cs : List Value} {T : TypeId} (h : RQ w0 N w k i s xs) (hB : Blk w g cs T) (hne : ByT ≠ T) (e : ExtB g w w') : RQ w0 N w' k i s xs := by
  unfold RQ at *
  split
  · rename_i hlt; rw [if_pos hlt] at h; exact h.put hB hne e
  · rename_i hlt; rw [if_neg hlt] at h; exact h
theorem OwB.keepo {N : Nat} {w w' : World} {s : Sl} {xs : List Int} (h : OwB N w s xs) (k : KeepO N w.heap.size 0 0 w w') : OwB N w' s xs := own_go h (Nat.le_refl _) k
theorem RQ.keepo {w0 w w' : World} {N k i : Nat} {s : Sl} {xs : List Int} (h : RQ w0 N w k i s xs) (e : KeepO N w.heap.size 0 0 w w') : RQ w0 N w' k i s xs := by
  unfold RQ at *
  split
  · rename_i hlt; rw [if_pos hlt] at h; exact h.keepo e
  · rename_i hlt; rw [if_neg hlt] at h; exact h
theorem RQ.old {w0 w : World} {N k i : Nat} {s : Sl} {xs : List Int} (h : RQ w0 N w k i s xs) (hk : ¬ k < i) : SlB w0 s xs := by unfold RQ at h; rw [if_neg hk] at h; exact h
theorem RQ.new {w0 w : World} {N k i : Nat} {s : Sl} {xs : List Int} (h : RQ w0 N w k i s xs) (hk : k < i) : OwB N w s xs := by unfold RQ at h; rw [if_pos hk] at h; exact h
theorem RQ.step {w0 w : World} {N k i : Nat} {s : Sl} {xs : List Int} (h : RQ w0 N w k i s xs) (hk : k ≠ i) : RQ w0 N w k (i + 1) s xs := by
  unfold RQ at *
  split
  · rename_i hlt; rw [if_pos om_] at h; exact h
  · rename_i hlt; rw [if_neg om_] at h; exact h
theorem RQ.mk1 {w0 w : World} {N i : Nat} {s : Sl} {xs : List Int} (h : OwB N w s xs) : RQ w0 N w i (i + 1) s xs := by unfold RQ; rw [if_pos om_]; exact h
theorem round1 {w0 w4 wS w' : World} {N M : Nat} {d : Dv} {i n g : Nat} {zq : List (Zo × Sl)} {rest : List Value} {p : Zo × Sl} {S : Sl} {A : Option Addr} {m c : Nat} (hzq : ZQ w0 N w4 d i zq) (hp : zq[i]? = some p) (hr : w4.ownsRow N ZoT 3 (slV S) n (catC zpC zq)) (hA : S.A = some ⟨g, 0, none⟩) (hB : Blk w4 g (catC zpC zq ++ rest) ZoT) (k1 : Ext w4 wS) (ho : wS.ownsRow M ByT 1 (.slice A m c) m (p.1.d.map (.int .u8))) (hl : p.1.d.length = m) (hN : N ≤ M) (k2 : ExtB g wS w') (hB' : Blk w' g ((catC zpC zq ++ rest).set (0 + i * 3 + 1) (slV ⟨A, m, c⟩)) ZoT) :
    ZQ w0 N w' d (i + 1) (zq.set i (p.1, ⟨A, m, c⟩)) ∧ w'.ownsRow N ZoT 3 (slV S) n (catC zpC (zq.set i (p.1, ⟨A, m, c⟩))) := by
  have hBS := hB.ext k1
  rw [zp_set1 hp] at hB'
  refine ⟨((hzq.ext k1).next hp (OwB.of ho hl hN)).put hBS (by decide) k2, row_put (own_ext hr k1) hA hBS hB' ?_⟩
  rw [catC_length zpC_length, catC_length zpC_length, List.length_set]
theorem blk_ne {w : World} {g b : Nat} {cs cs' : List Value} {T T' : TypeId} (h : Blk w g cs T) (h' : Blk w b cs' T') (hne : T ≠ T') : g ≠ b := by
  intro e
  subst e
  have h1 : w.heap[g]? = some (.cells cs.toArray T (0, 0)) := h
  have h2 : w.heap[g]? = some (.cells cs'.toArray T' (0, 0)) := h'
  rw [h1] at h2
  simp only [Option.some.injEq, Obj.cells.injEq] at h2
  exact hne h2.2.1
theorem dev_own_calls {f : FuncId} {fn : Func} [hfn : TFn Try.prog f fn] (cap : Array Value) (w0 : World) (d : Dv) (s : Ds) (zp : List (Zo × Sl)) (hW : DvW d) (hM : DM w0 d s zp) (d2 : Dv) (be : Option Nat) (E : Int)
    (hbe : ∀ x, be = some x → x < w0.heap.size)
    (hdo : ∀ w1 b s1 zp1 M, Ext w0 w1 → w0.heap.size ≤ b → b < M → M ≤ w1.heap.size → DSt M w1 b d s1 zp1 → Calls Try.prog f (Value.pointer (some ⟨b, 0, none⟩) :: cap.toList).toArray w1 fun e w2 => e = .returned (.tuple #[]) ∧ ∃ s2 zp2, DSt M w2 b d2 s2 zp2 ∧ BelowE M (fun k => k = b ∨ be = some k) w1 w2 ∧ (∀ x, be = some x → Blk w2 x [.int .i64 E] EroT)) :
    Calls Try.prog 54 #[.agg (dvC d s).toArray, .func (.func f) #[] cap] w0 fun e w' => ∃ s2 zp2, e = .returned (.agg (dvC d2 s2).toArray) ∧ DRw w0.heap.size w' d2 s2 zp2 ∧ BelowE w0.heap.size (fun k => be = some k) w0 w' ∧ (∀ x, be = some x → Blk w' x [.int .i64 E] EroT) := by
  have lz := hM.sz
  have lm := hM.len
  have hzl := hW.zl
  have hs : s.Z.m ≤ 1000000 := by omega
  have p1 := dvC_one d s
  have a1 := fun w hC => slices_CloneZ_calls zp s.Z.A s.Z.m s.Z.c w hM.zm hs hC
  have hzz := hM.zz
  obtain ⟨⟨ZA, n, Zc⟩, r0, r1, f0, f1⟩ := s
  dsimp only at lz lm hs a1 hzz
  refine calls_W (args := [.agg (dvC d ⟨⟨ZA, n, Zc⟩, r0, r1, f0, f1⟩).toArray, .func (.func f) #[] cap]) Try.func54 rfl 53 rfl ?_
  (repeat' (first | (refine WL_is ?_; first | refine WL_nil ?_ | refine wl_ ?_ | (refine WL_isFn ?_; refine WL_call rfl rfl rfl (a1 _ cells_) ?_; rintro _ w_ ⟨A_, c_, rfl, ho_, hx_⟩; have hz_ := hx_.size; have hr_ := own_rd ho_; have hq_ := own_cap ho_; refine ⟨_, rfl, ?_⟩)) | (refine WC_is ?_; first | ((fail_if_success (refine WC_isReg (id := 2) ?_)); refine WC_seq (fun _ _ => ?_)) | refine WC_orderE (.rd false 0 (.rd false 1 (.rd false 2 (.rd true 3 (.rd true 4 (.rd true 5 (.rd true 6 (.rd true 7 (.rd true 8 (.act true 9 (.rd true 10 (.rd true 11 (.act false 12 .nil .nil))) .nil)))))))))) [[], [], [], [], [], [], [], [], [], [3, 4, 5, 6, 7, 8], [], [], [0, 1, 2, 3, 4, 5, 6, 7, 8, 9, 10, 11]] [9, 12] (some 12) 5 (by kernel_rfl) (by kernel_rfl) (fun w_ hx_ hz_ => ?_) | refine WC_orderE (.rd false 0 (.rd false 1 (.rd true 2 (.rd true 3 (.rd true 4 (.rd true 5 (.rd false 7 (.rd false 8 (.rd false 9 (.rd false 10 (.rd false 12 (.rd false 15 (.act true 6 (.act true 11 (.rd true 13 (.act true 14 (.rd true 16 (.act false 17 .nil .nil)) .nil)) .nil) .nil))))))))))))) [[], [], [], [], [], [], [2, 3, 4, 5], [], [], [], [], [2, 3, 4, 5, 6, 7, 8, 9, 10], [], [], [0, 2, 3, 4, 5, 6, 7, 8, 9, 10, 11, 12, 13], [], [], [0, 1, 2, 3, 4, 5, 6, 7, 8, 9, 10, 11, 12, 13, 14, 15, 16]] [6, 11, 14, 17] (some 17) 10 (by kernel_rfl) (by kernel_rfl) (fun w_ hx_ hz_ => ?_) | refine wc_ ?_) | (refine WQ_is ?_; first | refine wq_ ?_ | refine WQ_bodyAC (Or.inl rfl) rfl rfl rfl blk_ lr_ blk_ ?_ | refine WQ_bodyAC (Or.inr rfl) rfl rfl rfl blk_ lr_ blk_ ?_) | (refine Kb.mk ?_; intro b_ w_ hb_ hl_ hx_ hB_) | (refine Ks.mk ?_; intro w_ hz_ hx_ hB_) | (refine Ko.mk ?_; intro A_ c_ w_ hx_ ho_ hr_; have hz_ := hx_.size; have hq_ := own_cap ho_) | (refine Kp.mk ?_; intro A_ c_ w_ hx_ hz_ ho_ hr_ hp_; have hq_ := own_cap ho_) | (refine Kl.mk ?_; intro b_ w_ hb_ hl_ hx_ hB_ ho_) | (refine Km.mk ?_; intro b_ w_ hb_ hl_ hx_ ho_) | (refine Ke.mk ?_; intro r_ hr_) | (refine Kg.mk ?_ ?_ <;> intro hs_ <;> (try simp only [strEq_t, strEq_f, decide_eq_true_eq, decide_eq_false_iff_not, beq_iff_eq, beq_eq_false_iff_ne, bne_iff_ne, bne_eq_false_iff_eq, Bool.not_eq_true', Bool.not_eq_false', Bool.not_true, Bool.not_false, gt_iff_lt, ge_iff_le, Int.not_lt, Int.not_le, ne_eq, Bool.false_eq_true, not_true_eq_false, reduceCtorEq] at hs_) <;> (try (exfalso; first | exact hs_ | (exact hs_ rfl) | omega))) | (refine WX_is ?_; first | refine wx_ ?_ | exact WX_altnil | (refine WX_isRd ?_; first | (refine WX_isT ?_; refine WX_readT rfl rfl rfl rfl rfl (by (first | refine wl_ ?_); refine WL_nil ?_; exact DR_mk rfl) ?_) | (refine WX_isF ?_; refine WX_read rfl rfl rfl rfl rfl (fun w_ hx_ => by (first | refine wl_ ?_); refine WL_nil ?_; exact DR_mk rfl) ?_) | refine WX_nilP rfl rfl rfl rfl rfl rfl ?_ | refine wxg_ ?_) | (refine WX_isAct ?_; first | refine WX_eff1 rfl (fun _ _ => ?_) | refine WX_eff rfl (fun _ _ => ?_) ?_))))
  rename_i b1 w1 hb1 hl1 hx1 hB1 w2 hx2 hB2 _ _ w3 hx3 hz3 _ _
  obtain ⟨M, hMe⟩ : ∃ M, M = w2.heap.size := ⟨_, rfl⟩
  have hBd : Blk w_ b1 (dvC d ⟨⟨A_, n, c_⟩, r0, r1, f0, f1⟩) DeT := hB_
  have hBr : Blk w_ b_ (dvC dv0 ds0) DeT := blk_
  have hro : w_.ownsRow M ZoT 3 (.slice A_ n c_) n (catC zpC zp) := own_
  have hx0 : Ext w0 w_ := ext_
  have hz0 := hx0.size
  have hb1' : w0.heap.size ≤ b1 := by omega
  have hb4 : w0.heap.size ≤ b_ ∧ b_ ≠ b1 := by omega
  have hl1' : b1 < M ∧ b_ < M ∧ M ≤ w_.heap.size := by omega
  have hzq : ZQ w0 M w_ d 0 zp := ⟨hM.zs, fun j p hj => by
    rw [if_neg om_]
    exact hM.zb p (List.mem_of_getElem? hj)⟩
  have hm := hM.zm
  have hR0 := hM.r0
  have hR1 := hM.r1
  have hF0 := hM.f0
  have hF1 := hM.f1
  dsimp only at hm hR0 hR1 hF0 hF1
  (repeat' (first | (refine WL_is ?_; first | refine WL_nil ?_ | refine wl_ ?_ ) | (refine WC_is ?_; first | ((fail_if_success (refine WC_isReg (id := 3) ?_)); refine WC_seq (fun _ _ => ?_)) | refine WC_orderE (.rd false 0 (.rd false 1 (.rd false 2 (.rd true 3 (.rd true 4 (.rd true 5 (.rd true 6 (.rd true 7 (.rd true 8 (.act true 9 (.rd true 10 (.rd true 11 (.act false 12 .nil .nil))) .nil)))))))))) [[], [], [], [], [], [], [], [], [], [3, 4, 5, 6, 7, 8], [], [], [0, 1, 2, 3, 4, 5, 6, 7, 8, 9, 10, 11]] [9, 12] (some 12) 5 (by kernel_rfl) (by kernel_rfl) (fun w_ hx_ hz_ => ?_) | refine WC_orderE (.rd false 0 (.rd false 1 (.rd true 2 (.rd true 3 (.rd true 4 (.rd true 5 (.rd false 7 (.rd false 8 (.rd false 9 (.rd false 10 (.rd false 12 (.rd false 15 (.act true 6 (.act true 11 (.rd true 13 (.act true 14 (.rd true 16 (.act false 17 .nil .nil)) .nil)) .nil) .nil))))))))))))) [[], [], [], [], [], [], [2, 3, 4, 5], [], [], [], [], [2, 3, 4, 5, 6, 7, 8, 9, 10], [], [], [0, 2, 3, 4, 5, 6, 7, 8, 9, 10, 11, 12, 13], [], [], [0, 1, 2, 3, 4, 5, 6, 7, 8, 9, 10, 11, 12, 13, 14, 15, 16]] [6, 11, 14, 17] (some 17) 10 (by kernel_rfl) (by kernel_rfl) (fun w_ hx_ hz_ => ?_) | refine wc_ ?_) | (refine WQ_is ?_; first | refine wq_ ?_ | refine WQ_bodyAC (Or.inl rfl) rfl rfl rfl blk_ lr_ blk_ ?_ | refine WQ_bodyAC (Or.inr rfl) rfl rfl rfl blk_ lr_ blk_ ?_) | (refine Kb.mk ?_; intro b_ w_ hb_ hl_ hx_ hB_) | (refine Ks.mk ?_; intro w_ hz_ hx_ hB_) | (refine Ko.mk ?_; intro A_ c_ w_ hx_ ho_ hr_; have hz_ := hx_.size; have hq_ := own_cap ho_) | (refine Kp.mk ?_; intro A_ c_ w_ hx_ hz_ ho_ hr_ hp_; have hq_ := own_cap ho_) | (refine Kl.mk ?_; intro b_ w_ hb_ hl_ hx_ hB_ ho_) | (refine Km.mk ?_; intro b_ w_ hb_ hl_ hx_ ho_) | (refine Ke.mk ?_; intro r_ hr_) | (refine Kg.mk ?_ ?_ <;> intro hs_ <;> (try simp only [strEq_t, strEq_f, decide_eq_true_eq, decide_eq_false_iff_not, beq_iff_eq, beq_eq_false_iff_ne, bne_iff_ne, bne_eq_false_iff_eq, Bool.not_eq_true', Bool.not_eq_false', Bool.not_true, Bool.not_false, gt_iff_lt, ge_iff_le, Int.not_lt, Int.not_le, ne_eq, Bool.false_eq_true, not_true_eq_false, reduceCtorEq] at hs_) <;> (try (exfalso; first | exact hs_ | (exact hs_ rfl) | omega))) | (refine WX_is ?_; first | refine wx_ ?_ | exact WX_altnil | (refine WX_isRd ?_; first | (refine WX_isT ?_; refine WX_readT rfl rfl rfl rfl rfl (by (first | refine wl_ ?_); refine WL_nil ?_; exact DR_mk rfl) ?_) | (refine WX_isF ?_; refine WX_read rfl rfl rfl rfl rfl (fun w_ hx_ => by (first | refine wl_ ?_); refine WL_nil ?_; exact DR_mk rfl) ?_) | refine WX_nilP rfl rfl rfl rfl rfl rfl ?_ | refine wxg_ ?_) | (refine WX_isAct ?_; first | refine WX_eff1 rfl (fun _ _ => ?_) | refine WX_eff rfl (fun _ _ => ?_) ?_))))
  refine WC_loopL (X := Nat × List (Zo × Sl)) [1, 2, 4, 6, 13, 30, 31, 32, 33, 34, 35, 36, 37, 38, 39, 40, 41, 42, 43, 44, 45, 46, 47, 48, 49, 50, 52] rfl (fun x w' => (x.1 ≤ n ∧ x.2.length = n ∧ ZQ w0 M w' d x.1 x.2) ∧ (Ext w0 w' ∧ w_.heap.size ≤ w'.heap.size) ∧ Blk w' b1 (dvC d ⟨⟨A_, n, c_⟩, r0, r1, f0, f1⟩) DeT ∧ Blk w' b_ (dvC dv0 ds0) DeT ∧ w'.ownsRow M ZoT 3 (slV ⟨A_, n, c_⟩) n (catC zpC x.2)) (fun x => [(14, .int .i64 x.1)]) (fun x => n - x.1) (0, zp) ⟨⟨om_, hm, hzq⟩, ⟨hx0, om_⟩, hBd, hBr, hro⟩ env_ ?_
  intro ⟨i, zq⟩ w4 ⟨⟨hi, hqn, hzq⟩, ⟨hx4, hz4⟩, hBd4, hBr4, hro4⟩ K hK
  dsimp only at hi hqn hzq hBd4 hBr4 hro4 ⊢
  have hz40 := hx4.size
  rcases Nat.lt_or_ge i n with hlt | hge
  · obtain ⟨p, hp⟩ : ∃ p, zq[i]? = some p := ⟨_, List.getElem?_eq_getElem om_⟩
    have hso := hzq.2 i p hp
    rw [if_neg om_] at hso
    obtain ⟨g, rest, hA, hg0, hBg⟩ := row_open hro4 om_
    dsimp only at hA
    subst hA
    have hgb := blk_ne hBg hBr4 (by decide)
    have hgd := blk_ne hBg hBd4 (by decide)
    obtain ⟨v0, v1, v2, vl⟩ := zp_rest (rest := rest) hp
    obtain ⟨⟨zs, zd, zl⟩, pA, pm, pc⟩ := p
    dsimp only at hso v0 v1 v2
    have hpw : Zst ⟨zs, zd, zl⟩ := hW.zw _ (by rw [← hzq.1]; exact List.mem_map_of_mem (List.mem_of_getElem? hp))
    have a2 := fun w hC => bytes_Clone_calls zd pA pm pc w hso.1 (by have := hpw.small; dsimp only at this; have := hso.1; dsimp only at this; omega) hC
    have hCo := hso.2.2
    dsimp only at hCo
    (repeat' (first | (refine WL_is ?_; first | refine WL_nil ?_ | (refine WL_isLoad ?_; refine WL_load rfl rfl rfl blk_ v1 ?_) | (refine WL_isStore ?_; refine WL_store1 rfl rfl rfl blk_ rfl rfl vl ?_; intro w_ hz_ hx_ hB_) | refine wl_ ?_ | (refine WL_isFn ?_; refine WL_call rfl rfl rfl (a2 _ cells_) ?_; rintro _ w_ ⟨A_, c_, rfl, ho_, hx_⟩; have hz_ := hx_.size; have hr_ := own_rd ho_; have hq_ := own_cap ho_; refine ⟨_, rfl, ?_⟩)) | (refine WC_is ?_; first | refine WC_seq (fun _ _ => ?_) | refine WC_orderE (.rd false 0 (.rd false 1 (.rd false 2 (.rd true 3 (.rd true 4 (.rd true 5 (.rd true 6 (.rd true 7 (.rd true 8 (.act true 9 (.rd true 10 (.rd true 11 (.act false 12 .nil .nil))) .nil)))))))))) [[], [], [], [], [], [], [], [], [], [3, 4, 5, 6, 7, 8], [], [], [0, 1, 2, 3, 4, 5, 6, 7, 8, 9, 10, 11]] [9, 12] (some 12) 5 (by kernel_rfl) (by kernel_rfl) (fun w_ hx_ hz_ => ?_) | refine WC_orderE (.rd false 0 (.rd false 1 (.rd true 2 (.rd true 3 (.rd true 4 (.rd true 5 (.rd false 7 (.rd false 8 (.rd false 9 (.rd false 10 (.rd false 12 (.rd false 15 (.act true 6 (.act true 11 (.rd true 13 (.act true 14 (.rd true 16 (.act false 17 .nil .nil)) .nil)) .nil) .nil))))))))))))) [[], [], [], [], [], [], [2, 3, 4, 5], [], [], [], [], [2, 3, 4, 5, 6, 7, 8, 9, 10], [], [], [0, 2, 3, 4, 5, 6, 7, 8, 9, 10, 11, 12, 13], [], [], [0, 1, 2, 3, 4, 5, 6, 7, 8, 9, 10, 11, 12, 13, 14, 15, 16]] [6, 11, 14, 17] (some 17) 10 (by kernel_rfl) (by kernel_rfl) (fun w_ hx_ hz_ => ?_) | refine wc_ ?_) | (refine WQ_is ?_; first | refine wq_ ?_ | refine WQ_bodyAC (Or.inl rfl) rfl rfl rfl blk_ lr_ blk_ ?_ | refine WQ_bodyAC (Or.inr rfl) rfl rfl rfl blk_ lr_ blk_ ?_) | (refine Kb.mk ?_; intro b_ w_ hb_ hl_ hx_ hB_) | (refine Ks.mk ?_; intro w_ hz_ hx_ hB_) | (refine Ko.mk ?_; intro A_ c_ w_ hx_ ho_ hr_; have hz_ := hx_.size; have hq_ := own_cap ho_) | (refine Kp.mk ?_; intro A_ c_ w_ hx_ hz_ ho_ hr_ hp_; have hq_ := own_cap ho_) | (refine Kl.mk ?_; intro b_ w_ hb_ hl_ hx_ hB_ ho_) | (refine Km.mk ?_; intro b_ w_ hb_ hl_ hx_ ho_) | (refine Ke.mk ?_; intro r_ hr_) | (refine Kg.mk ?_ ?_ <;> intro hs_ <;> (try simp only [strEq_t, strEq_f, decide_eq_true_eq, decide_eq_false_iff_not, beq_iff_eq, beq_eq_false_iff_ne, bne_iff_ne, bne_eq_false_iff_eq, Bool.not_eq_true', Bool.not_eq_false', Bool.not_true, Bool.not_false, gt_iff_lt, ge_iff_le, Int.not_lt, Int.not_le, ne_eq, Bool.false_eq_true, not_true_eq_false, reduceCtorEq] at hs_) <;> (try (exfalso; first | exact hs_ | (exact hs_ rfl) | omega))) | (refine WX_is ?_; first | refine wx_ ?_ | exact WX_altnil | (refine WX_isRd ?_; first | (refine WX_isT ?_; refine WX_readT rfl rfl rfl rfl rfl (by (first | (refine WL_isLoad ?_; refine WL_load rfl rfl rfl blk_ v1 ?_) | (refine WL_isStore ?_; refine WL_store1 rfl rfl rfl blk_ rfl rfl vl ?_; intro w_ hz_ hx_ hB_) | refine wl_ ?_); refine WL_nil ?_; exact DR_mk rfl) ?_) | (refine WX_isF ?_; refine WX_read rfl rfl rfl rfl rfl (fun w_ hx_ => by (first | (refine WL_isLoad ?_; refine WL_load rfl rfl rfl blk_ v1 ?_) | (refine WL_isStore ?_; refine WL_store1 rfl rfl rfl blk_ rfl rfl vl ?_; intro w_ hz_ hx_ hB_) | refine wl_ ?_); refine WL_nil ?_; exact DR_mk rfl) ?_) | refine WX_nilP rfl rfl rfl rfl rfl rfl ?_ | refine wxg_ ?_) | (refine WX_isAct ?_; first | refine WX_eff1 rfl (fun _ _ => ?_) | refine WX_eff rfl (fun _ _ => ?_) ?_))))
    all_goals
      obtain ⟨e1, e2⟩ := round1 (S := ⟨some ⟨g, 0, none⟩, n, _⟩) hzq hp hro4 rfl hBg ext_ ho_ hso.1 om_ hx_ hB_
      exact WQ_againL hK (i + 1, zq.set i (⟨zs, zd, zl⟩, ⟨A_, pm, c_⟩)) ⟨⟨om_, by rw [List.length_set]; exact hqn, e1⟩, ⟨ext_, om_⟩, blk_, blk_, e2⟩ env_ om_
  · obtain rfl : i = n := by omega
    have hzo : ∀ p ∈ zq, OwB M w4 p.2 p.1.d := fun p hp => by
      obtain ⟨j, hj, e⟩ := List.getElem_of_mem hp
      have := hzq.2 j p (by rw [List.getElem?_eq_getElem hj, e])
      rwa [if_pos om_] at this
    (repeat' (first | (refine WL_is ?_; first | refine WL_nil ?_ | refine wl_ ?_ ) | (refine WC_is ?_; first | ((fail_if_success (refine WC_isReg (id := 8) ?_)); refine WC_seq (fun _ _ => ?_)) | refine WC_orderE (.rd false 0 (.rd false 1 (.rd false 2 (.rd true 3 (.rd true 4 (.rd true 5 (.rd true 6 (.rd true 7 (.rd true 8 (.act true 9 (.rd true 10 (.rd true 11 (.act false 12 .nil .nil))) .nil)))))))))) [[], [], [], [], [], [], [], [], [], [3, 4, 5, 6, 7, 8], [], [], [0, 1, 2, 3, 4, 5, 6, 7, 8, 9, 10, 11]] [9, 12] (some 12) 5 (by kernel_rfl) (by kernel_rfl) (fun w_ hx_ hz_ => ?_) | refine WC_orderE (.rd false 0 (.rd false 1 (.rd true 2 (.rd true 3 (.rd true 4 (.rd true 5 (.rd false 7 (.rd false 8 (.rd false 9 (.rd false 10 (.rd false 12 (.rd false 15 (.act true 6 (.act true 11 (.rd true 13 (.act true 14 (.rd true 16 (.act false 17 .nil .nil)) .nil)) .nil) .nil))))))))))))) [[], [], [], [], [], [], [2, 3, 4, 5], [], [], [], [], [2, 3, 4, 5, 6, 7, 8, 9, 10], [], [], [0, 2, 3, 4, 5, 6, 7, 8, 9, 10, 11, 12, 13], [], [], [0, 1, 2, 3, 4, 5, 6, 7, 8, 9, 10, 11, 12, 13, 14, 15, 16]] [6, 11, 14, 17] (some 17) 10 (by kernel_rfl) (by kernel_rfl) (fun w_ hx_ hz_ => ?_) | refine wc_ ?_) | (refine WQ_is ?_; first | refine wq_ ?_ | refine WQ_bodyAC (Or.inl rfl) rfl rfl rfl blk_ lr_ blk_ ?_ | refine WQ_bodyAC (Or.inr rfl) rfl rfl rfl blk_ lr_ blk_ ?_) | (refine Kb.mk ?_; intro b_ w_ hb_ hl_ hx_ hB_) | (refine Ks.mk ?_; intro w_ hz_ hx_ hB_) | (refine Ko.mk ?_; intro A_ c_ w_ hx_ ho_ hr_; have hz_ := hx_.size; have hq_ := own_cap ho_) | (refine Kp.mk ?_; intro A_ c_ w_ hx_ hz_ ho_ hr_ hp_; have hq_ := own_cap ho_) | (refine Kl.mk ?_; intro b_ w_ hb_ hl_ hx_ hB_ ho_) | (refine Km.mk ?_; intro b_ w_ hb_ hl_ hx_ ho_) | (refine Ke.mk ?_; intro r_ hr_) | (refine Kg.mk ?_ ?_ <;> intro hs_ <;> (try simp only [strEq_t, strEq_f, decide_eq_true_eq, decide_eq_false_iff_not, beq_iff_eq, beq_eq_false_iff_ne, bne_iff_ne, bne_eq_false_iff_eq, Bool.not_eq_true', Bool.not_eq_false', Bool.not_true, Bool.not_false, gt_iff_lt, ge_iff_le, Int.not_lt, Int.not_le, ne_eq, Bool.false_eq_true, not_true_eq_false, reduceCtorEq] at hs_) <;> (try (exfalso; first | exact hs_ | (exact hs_ rfl) | omega))) | (refine WX_is ?_; first | refine wx_ ?_ | exact WX_altnil | (refine WX_isRd ?_; first | (refine WX_isT ?_; refine WX_readT rfl rfl rfl rfl rfl (by (first | refine wl_ ?_); refine WL_nil ?_; exact DR_mk rfl) ?_) | (refine WX_isF ?_; refine WX_read rfl rfl rfl rfl rfl (fun w_ hx_ => by (first | refine wl_ ?_); refine WL_nil ?_; exact DR_mk rfl) ?_) | refine WX_nilP rfl rfl rfl rfl rfl rfl ?_ | refine wxg_ ?_) | (refine WX_isAct ?_; first | refine WX_eff1 rfl (fun _ _ => ?_) | refine WX_eff rfl (fun _ _ => ?_) ?_))))
    refine WC_loopL (X := Nat × Ds) [1, 2, 4, 50, 52] rfl (fun x w' => (x.1 ≤ 2 ∧ x.2.Z = ⟨A_, i, c_⟩ ∧ (∀ p ∈ zq, OwB M w' p.2 p.1.d)) ∧ (RQ w0 M w' 0 x.1 x.2.r0 d.r0 ∧ RQ w0 M w' 1 x.1 x.2.r1 d.r1 ∧ RQ w0 M w' 0 x.1 x.2.f0 d.f0 ∧ RQ w0 M w' 1 x.1 x.2.f1 d.f1) ∧ (Ext w0 w' ∧ w_.heap.size ≤ w'.heap.size) ∧ Blk w' b1 (dvC d x.2) DeT ∧ Blk w' b_ (dvC dv0 ds0) DeT ∧ w'.ownsRow M ZoT 3 (.slice A_ i c_) i (catC zpC zq)) (fun x => [(30, .int .i64 x.1)]) (fun x => 2 - x.1) (0, ⟨⟨A_, i, c_⟩, r0, r1, f0, f1⟩) ⟨⟨om_, rfl, hzo⟩, ⟨hR0, hR1, hF0, hF1⟩, ⟨hx4, om_⟩, hBd4, hBr4, hro4⟩ env_ ?_
    intro ⟨j, ⟨Z, r0, r1, f0, f1⟩⟩ w5 ⟨⟨hj, hZ, hzo⟩, ⟨q0, q1, g0, g1⟩, ⟨hx5, hz5⟩, hBd5, hBr5, hro5⟩ K hK
    dsimp only at hj hZ hzo q0 q1 g0 g1 hBd5 hBr5 hro5 ⊢
    subst hZ
    have hz50 := hx5.size
    rcases Nat.lt_or_ge j 2 with hlt | hge
    · rcases (show j = 0 ∨ j = 1 by omega) with rfl | rfl
      · have o0 := q0.old om_
        have o1 := g0.old om_
        obtain ⟨RA, Rm, Rc⟩ := r0
        obtain ⟨FA, Fm, Fc⟩ := f0
        have hCa := o0.2.2
        have hCb := o1.2.2
        have n0 := o0.1
        have n1 := o1.1
        have n2 := hW.r0.2
        have n3 := hW.f0.2
        dsimp only at hCa hCb n0 n1
        have a3 := fun w hC => bytes_Clone_calls d.r0 RA Rm Rc w n0 om_ hC
        have a4 := fun w hC => bytes_Clone_calls d.f0 FA Fm Fc w n1 om_ hC
        (repeat' (first | (refine WL_is ?_; first | refine WL_nil ?_ | (refine WL_isLoad ?_; obtain ⟨cs_, hc1_, hc2_⟩ := hr_; refine WL_load rfl rfl rfl hc1_ hc2_ ?_) | refine wl_ ?_ | (refine WL_isFn ?_; refine WL_call rfl rfl rfl (a3 _ cells_) ?_; rintro _ w_ ⟨A1_, c1_, rfl, h1_, hx_⟩; have hz_ := hx_.size; refine ⟨_, rfl, ?_⟩) | (refine WL_isFn ?_; refine WL_call rfl rfl rfl (a4 _ cells_) ?_; rintro _ w_ ⟨A2_, c2_, rfl, h2_, hx_⟩; have hz_ := hx_.size; refine ⟨_, rfl, ?_⟩)) | (refine WC_is ?_; first | refine WC_seq (fun _ _ => ?_) | refine WC_orderE (.rd false 0 (.rd false 1 (.rd false 2 (.rd true 3 (.rd true 4 (.rd true 5 (.rd true 6 (.rd true 7 (.rd true 8 (.act true 9 (.rd true 10 (.rd true 11 (.act false 12 .nil .nil))) .nil)))))))))) [[], [], [], [], [], [], [], [], [], [3, 4, 5, 6, 7, 8], [], [], [0, 1, 2, 3, 4, 5, 6, 7, 8, 9, 10, 11]] [9, 12] (some 12) 5 (by kernel_rfl) (by kernel_rfl) (fun w_ hx_ hz_ => ?_) | (refine WC_order (.rd false 0 (.rd false 1 (.rd true 2 (.rd true 3 (.rd true 4 (.rd true 5 (.rd false 7 (.rd false 8 (.rd false 9 (.rd false 10 (.rd false 12 (.rd false 15 (.act true 6 (.act true 11 (.rd true 13 (.act true 14 (.rd true 16 (.act false 17 .nil .nil)) .nil)) .nil) .nil))))))))))))) [[], [], [], [], [], [], [2, 3, 4, 5], [], [], [], [], [2, 3, 4, 5, 6, 7, 8, 9, 10], [], [], [0, 2, 3, 4, 5, 6, 7, 8, 9, 10, 11, 12, 13], [], [], [0, 1, 2, 3, 4, 5, 6, 7, 8, 9, 10, 11, 12, 13, 14, 15, 16]] [6, 11, 14, 17] (some 17) (fun w' => True ∧ ∃ cs, Blk w' b1 cs DeT ∧ cs[4]? = some (slV ⟨FA, Fm, Fc⟩)) (id := 10) (by kernel_rfl) (by kernel_rfl) (fun w_ hx_ => ⟨trivial, _, blk_, rfl⟩) (fun w_ hx_ => ?_); have hz_ := hx_.size) | refine wc_ ?_) | (refine WQ_is ?_; first | refine WQ_x as_ rfl (by first | (intro _; first | exact ⟨trivial, _, blk_, rfl⟩ | exact ⟨trivial, _, hB_, rfl⟩) | (exact fun h_ => absurd h_ (by decide)) | (exact fun _ => trivial) | (intro _; exact ext_)) ?_ | refine wq_ ?_ | refine WQ_bodyAC (Or.inl rfl) rfl rfl rfl blk_ lr_ blk_ ?_ | refine WQ_bodyAC (Or.inr rfl) rfl rfl rfl blk_ lr_ blk_ ?_) | (refine Kb.mk ?_; intro b_ w_ hb_ hl_ hx_ hB_) | (refine Ks.mk ?_; intro w_ hz_ hx_ hB_) | (refine Ko.mk ?_; intro A_ c_ w_ hx_ ho_ hr_; have hz_ := hx_.size; have hq_ := own_cap ho_) | (refine Kp.mk ?_; intro A_ c_ w_ hx_ hz_ ho_ hr_ hp_; have hq_ := own_cap ho_) | (refine Kl.mk ?_; intro b_ w_ hb_ hl_ hx_ hB_ ho_) | (refine Km.mk ?_; intro b_ w_ hb_ hl_ hx_ ho_) | (refine Ke.mk ?_; intro r_ hr_) | (refine Kg.mk ?_ ?_ <;> intro hs_ <;> (try simp only [strEq_t, strEq_f, decide_eq_true_eq, decide_eq_false_iff_not, beq_iff_eq, beq_eq_false_iff_ne, bne_iff_ne, bne_eq_false_iff_eq, Bool.not_eq_true', Bool.not_eq_false', Bool.not_true, Bool.not_false, gt_iff_lt, ge_iff_le, Int.not_lt, Int.not_le, ne_eq, Bool.false_eq_true, not_true_eq_false, reduceCtorEq] at hs_) <;> (try (exfalso; first | exact hs_ | (exact hs_ rfl) | omega))) | (refine WX_is ?_; first | refine wx_ ?_ | exact WX_altnil | (refine WX_isRd ?_; first | (refine WX_isT ?_; refine WX_readT rfl rfl rfl rfl rfl (by (first | (refine WL_isLoad ?_; obtain ⟨cs_, hc1_, hc2_⟩ := hr_; refine WL_load rfl rfl rfl hc1_ hc2_ ?_) | refine wl_ ?_); refine WL_nil ?_; exact DR_mk rfl) ?_) | (refine WX_isF ?_; refine WX_read rfl rfl rfl rfl rfl (fun w_ hx_ => by obtain ⟨hx_, hr_⟩ := hx_; (first | (refine WL_isLoad ?_; obtain ⟨cs_, hc1_, hc2_⟩ := hr_; refine WL_load rfl rfl rfl hc1_ hc2_ ?_) | refine wl_ ?_); refine WL_nil ?_; exact DR_mk rfl) ?_) | refine WX_nilP rfl rfl rfl rfl rfl rfl ?_ | refine wxg_ ?_) | (refine WX_isAct ?_; first | refine WX_eff1 rfl (fun _ _ => ?_) | refine WX_eff rfl (fun _ _ => ?_) ?_))))
        all_goals
          have k1 : w_.ownsRow M ByT 1 (.slice A1_ Rm c1_) Rm (d.r0.map (.int .u8)) := own_
          have k2 : w_.ownsRow M ByT 1 (.slice A2_ Fm c2_) Fm (d.f0.map (.int .u8)) := own_
          have k3 : KeepO M w5.heap.size 0 0 w5 w_ := keepo_
          have k4 := own_go hro5 (Nat.le_refl _) k3
          exact WQ_againL hK (1, ⟨⟨A_, i, c_⟩, ⟨A1_, Rm, c1_⟩, r1, ⟨A2_, Fm, c2_⟩, f1⟩) ⟨⟨om_, rfl, fun p hp => (hzo p hp).keepo k3⟩, ⟨RQ.mk1 (OwB.of k1 n0 (Nat.le_refl _)), (q1.step om_).keepo k3, RQ.mk1 (OwB.of k2 n1 (Nat.le_refl _)), (g1.step om_).keepo k3⟩, ⟨ext_, om_⟩, hB_, blk_, k4⟩ env_ om_
      · have o0 := q1.old om_
        have o1 := g1.old om_
        obtain ⟨RA, Rm, Rc⟩ := r1
        obtain ⟨FA, Fm, Fc⟩ := f1
        have hCa := o0.2.2
        have hCb := o1.2.2
        have n0 := o0.1
        have n1 := o1.1
        have n2 := hW.r1.2
        have n3 := hW.f1.2
        dsimp only at hCa hCb n0 n1
        have a3 := fun w hC => bytes_Clone_calls d.r1 RA Rm Rc w n0 om_ hC
        have a4 := fun w hC => bytes_Clone_calls d.f1 FA Fm Fc w n1 om_ hC
        (repeat' (first | (refine WL_is ?_; first | refine WL_nil ?_ | (refine WL_isLoad ?_; obtain ⟨cs_, hc1_, hc2_⟩ := hr_; refine WL_load rfl rfl rfl hc1_ hc2_ ?_) | refine wl_ ?_ | (refine WL_isFn ?_; refine WL_call rfl rfl rfl (a3 _ cells_) ?_; rintro _ w_ ⟨A1_, c1_, rfl, h1_, hx_⟩; have hz_ := hx_.size; refine ⟨_, rfl, ?_⟩) | (refine WL_isFn ?_; refine WL_call rfl rfl rfl (a4 _ cells_) ?_; rintro _ w_ ⟨A2_, c2_, rfl, h2_, hx_⟩; have hz_ := hx_.size; refine ⟨_, rfl, ?_⟩)) | (refine WC_is ?_; first | refine WC_seq (fun _ _ => ?_) | refine WC_orderE (.rd false 0 (.rd false 1 (.rd false 2 (.rd true 3 (.rd true 4 (.rd true 5 (.rd true 6 (.rd true 7 (.rd true 8 (.act true 9 (.rd true 10 (.rd true 11 (.act false 12 .nil .nil))) .nil)))))))))) [[], [], [], [], [], [], [], [], [], [3, 4, 5, 6, 7, 8], [], [], [0, 1, 2, 3, 4, 5, 6, 7, 8, 9, 10, 11]] [9, 12] (some 12) 5 (by kernel_rfl) (by kernel_rfl) (fun w_ hx_ hz_ => ?_) | (refine WC_order (.rd false 0 (.rd false 1 (.rd true 2 (.rd true 3 (.rd true 4 (.rd true 5 (.rd false 7 (.rd false 8 (.rd false 9 (.rd false 10 (.rd false 12 (.rd false 15 (.act true 6 (.act true 11 (.rd true 13 (.act true 14 (.rd true 16 (.act false 17 .nil .nil)) .nil)) .nil) .nil))))))))))))) [[], [], [], [], [], [], [2, 3, 4, 5], [], [], [], [], [2, 3, 4, 5, 6, 7, 8, 9, 10], [], [], [0, 2, 3, 4, 5, 6, 7, 8, 9, 10, 11, 12, 13], [], [], [0, 1, 2, 3, 4, 5, 6, 7, 8, 9, 10, 11, 12, 13, 14, 15, 16]] [6, 11, 14, 17] (some 17) (fun w' => True ∧ ∃ cs, Blk w' b1 cs DeT ∧ cs[5]? = some (slV ⟨FA, Fm, Fc⟩)) (id := 10) (by kernel_rfl) (by kernel_rfl) (fun w_ hx_ => ⟨trivial, _, blk_, rfl⟩) (fun w_ hx_ => ?_); have hz_ := hx_.size) | refine wc_ ?_) | (refine WQ_is ?_; first | refine WQ_x as_ rfl (by first | (intro _; first | exact ⟨trivial, _, blk_, rfl⟩ | exact ⟨trivial, _, hB_, rfl⟩) | (exact fun h_ => absurd h_ (by decide)) | (exact fun _ => trivial) | (intro _; exact ext_)) ?_ | refine wq_ ?_ | refine WQ_bodyAC (Or.inl rfl) rfl rfl rfl blk_ lr_ blk_ ?_ | refine WQ_bodyAC (Or.inr rfl) rfl rfl rfl blk_ lr_ blk_ ?_) | (refine Kb.mk ?_; intro b_ w_ hb_ hl_ hx_ hB_) | (refine Ks.mk ?_; intro w_ hz_ hx_ hB_) | (refine Ko.mk ?_; intro A_ c_ w_ hx_ ho_ hr_; have hz_ := hx_.size; have hq_ := own_cap ho_) | (refine Kp.mk ?_; intro A_ c_ w_ hx_ hz_ ho_ hr_ hp_; have hq_ := own_cap ho_) | (refine Kl.mk ?_; intro b_ w_ hb_ hl_ hx_ hB_ ho_) | (refine Km.mk ?_; intro b_ w_ hb_ hl_ hx_ ho_) | (refine Ke.mk ?_; intro r_ hr_) | (refine Kg.mk ?_ ?_ <;> intro hs_ <;> (try simp only [strEq_t, strEq_f, decide_eq_true_eq, decide_eq_false_iff_not, beq_iff_eq, beq_eq_false_iff_ne, bne_iff_ne, bne_eq_false_iff_eq, Bool.not_eq_true', Bool.not_eq_false', Bool.not_true, Bool.not_false, gt_iff_lt, ge_iff_le, Int.not_lt, Int.not_le, ne_eq, Bool.false_eq_true, not_true_eq_false, reduceCtorEq] at hs_) <;> (try (exfalso; first | exact hs_ | (exact hs_ rfl) | omega))) | (refine WX_is ?_; first | refine wx_ ?_ | exact WX_altnil | (refine WX_isRd ?_; first | (refine WX_isT ?_; refine WX_readT rfl rfl rfl rfl rfl (by (first | (refine WL_isLoad ?_; obtain ⟨cs_, hc1_, hc2_⟩ := hr_; refine WL_load rfl rfl rfl hc1_ hc2_ ?_) | refine wl_ ?_); refine WL_nil ?_; exact DR_mk rfl) ?_) | (refine WX_isF ?_; refine WX_read rfl rfl rfl rfl rfl (fun w_ hx_ => by obtain ⟨hx_, hr_⟩ := hx_; (first | (refine WL_isLoad ?_; obtain ⟨cs_, hc1_, hc2_⟩ := hr_; refine WL_load rfl rfl rfl hc1_ hc2_ ?_) | refine wl_ ?_); refine WL_nil ?_; exact DR_mk rfl) ?_) | refine WX_nilP rfl rfl rfl rfl rfl rfl ?_ | refine wxg_ ?_) | (refine WX_isAct ?_; first | refine WX_eff1 rfl (fun _ _ => ?_) | refine WX_eff rfl (fun _ _ => ?_) ?_))))
        all_goals
          have k1 : w_.ownsRow M ByT 1 (.slice A1_ Rm c1_) Rm (d.r1.map (.int .u8)) := own_
          have k2 : w_.ownsRow M ByT 1 (.slice A2_ Fm c2_) Fm (d.f1.map (.int .u8)) := own_
          have k3 : KeepO M w5.heap.size 0 0 w5 w_ := keepo_
          have k4 := own_go hro5 (Nat.le_refl _) k3
          exact WQ_againL hK (2, ⟨⟨A_, i, c_⟩, r0, ⟨A1_, Rm, c1_⟩, f0, ⟨A2_, Fm, c2_⟩⟩) ⟨⟨om_, rfl, fun p hp => (hzo p hp).keepo k3⟩, ⟨(q0.step om_).keepo k3, RQ.mk1 (OwB.of k1 n0 (Nat.le_refl _)), (g0.step om_).keepo k3, RQ.mk1 (OwB.of k2 n1 (Nat.le_refl _))⟩, ⟨ext_, om_⟩, hB_, blk_, k4⟩ env_ om_
    · obtain rfl : j = 2 := by omega
      have hDS : DSt M w5 b1 d ⟨⟨A_, i, c_⟩, r0, r1, f0, f1⟩ zq := ⟨hBd5, hzq.1, hqn.symm ▸ hro5, hzo, q0.new om_, q1.new om_, g0.new om_, g1.new om_⟩
      (repeat' (first | (refine WL_is ?_; first | refine WL_nil ?_ | refine wl_ ?_ | (refine WL_callv rfl rfl rfl rfl (hdo _ b1 _ zq M ext_ om_ om_ om_ (hDS.ext ext_)) rfl ?_; rintro _ w_ ⟨rfl, s2_, zp2_, hD_, hK_, hE_⟩; have hB_ := hD_.bd; have hz_ := hK_.size; have hBr_ := hK_.blk hBr5 om_ (fun h => h.elim (fun h => absurd h om_) (fun h => absurd (hbe _ h) om_)); refine ⟨_, rfl, ?_⟩)) | (refine WC_is ?_; first | refine WC_seq (fun _ _ => ?_) | refine WC_orderE (.rd false 0 (.rd false 1 (.rd false 2 (.rd true 3 (.rd true 4 (.rd true 5 (.rd true 6 (.rd true 7 (.rd true 8 (.act true 9 (.rd true 10 (.rd true 11 (.act false 12 .nil .nil))) .nil)))))))))) [[], [], [], [], [], [], [], [], [], [3, 4, 5, 6, 7, 8], [], [], [0, 1, 2, 3, 4, 5, 6, 7, 8, 9, 10, 11]] [9, 12] (some 12) 5 (by kernel_rfl) (by kernel_rfl) (fun w_ hx_ hz_ => ?_) | refine WC_orderE (.rd false 0 (.rd false 1 (.rd true 2 (.rd true 3 (.rd true 4 (.rd true 5 (.rd false 7 (.rd false 8 (.rd false 9 (.rd false 10 (.rd false 12 (.rd false 15 (.act true 6 (.act true 11 (.rd true 13 (.act true 14 (.rd true 16 (.act false 17 .nil .nil)) .nil)) .nil) .nil))))))))))))) [[], [], [], [], [], [], [2, 3, 4, 5], [], [], [], [], [2, 3, 4, 5, 6, 7, 8, 9, 10], [], [], [0, 2, 3, 4, 5, 6, 7, 8, 9, 10, 11, 12, 13], [], [], [0, 1, 2, 3, 4, 5, 6, 7, 8, 9, 10, 11, 12, 13, 14, 15, 16]] [6, 11, 14, 17] (some 17) 10 (by kernel_rfl) (by kernel_rfl) (fun w_ hx_ hz_ => ?_) | refine wc_ ?_) | (refine WQ_is ?_; first | refine wq_ ?_ | refine WQ_bodyAC (Or.inl rfl) rfl rfl rfl blk_ lr_ blk_ ?_ | refine WQ_bodyAC (Or.inr rfl) rfl rfl rfl blk_ lr_ blk_ ?_) | (refine Kb.mk ?_; intro b_ w_ hb_ hl_ hx_ hB_) | (refine Ks.mk ?_; intro w_ hz_ hx_ hB_) | (refine Ko.mk ?_; intro A_ c_ w_ hx_ ho_ hr_; have hz_ := hx_.size; have hq_ := own_cap ho_) | (refine Kp.mk ?_; intro A_ c_ w_ hx_ hz_ ho_ hr_ hp_; have hq_ := own_cap ho_) | (refine Kl.mk ?_; intro b_ w_ hb_ hl_ hx_ hB_ ho_) | (refine Km.mk ?_; intro b_ w_ hb_ hl_ hx_ ho_) | (refine Ke.mk ?_; intro r_ hr_) | (refine Kg.mk ?_ ?_ <;> intro hs_ <;> (try simp only [strEq_t, strEq_f, decide_eq_true_eq, decide_eq_false_iff_not, beq_iff_eq, beq_eq_false_iff_ne, bne_iff_ne, bne_eq_false_iff_eq, Bool.not_eq_true', Bool.not_eq_false', Bool.not_true, Bool.not_false, gt_iff_lt, ge_iff_le, Int.not_lt, Int.not_le, ne_eq, Bool.false_eq_true, not_true_eq_false, reduceCtorEq] at hs_) <;> (try (exfalso; first | exact hs_ | (exact hs_ rfl) | omega))) | (refine WX_is ?_; first | refine wx_ ?_ | exact WX_altnil | (refine WX_isRd ?_; first | (refine WX_isT ?_; refine WX_readT rfl rfl rfl rfl rfl (by (first | refine wl_ ?_); refine WL_nil ?_; exact DR_mk rfl) ?_) | (refine WX_isF ?_; refine WX_read rfl rfl rfl rfl rfl (fun w_ hx_ => by (first | refine wl_ ?_); refine WL_nil ?_; exact DR_mk rfl) ?_) | refine WX_nilP rfl rfl rfl rfl rfl rfl ?_ | refine wxg_ ?_) | (refine WX_isAct ?_; first | refine WX_eff1 rfl (fun _ _ => ?_) | refine WX_eff rfl (fun _ _ => ?_) ?_))))
      all_goals
        have e1 := (hD_.other hBr_ hx_ om_ (by decide) (by decide)).dr.mono (show w0.heap.size ≤ M by omega)
        have e2 : BelowE w0.heap.size (fun k => be = some k) w0 w_ := ((BelowE.of hx5 (Nat.le_refl _)).then (hK_.mono om_ (fun k hk hp => hp.elim (fun h => absurd h om_) id))).extB hx_ (Nat.le_refl _) (.inl om_)
        exact ⟨_, _, rfl, e1, e2, fun x h => (hE_ x h).extB hx_ (by have := hbe x h; omega)⟩
end Go.Proofs.Ytejdjpjaahfnaaa.K
