/- Chapter 03 (adler): the sums of a text: adler.{halves, sum, More, Sum} and the document's More. Seat-free. -/
import Derived.Test.YtejdjpjaahfnaaaV0
import Derived.Test.YtejdjpjaahfnaaaY
import Derived.Test.YtejdjpjaahfnaaaF4
set_option linter.unusedVariables false
set_option linter.unusedSimpArgs false
set_option maxHeartbeats 4000000
set_option maxRecDepth 20000
namespace Go.Proofs.Ytejdjpjaahfnaaa.K
open Go.RowKit
attribute [local irreducible] strEq strOfNums Calls WL WC WQ WX Code.wp wpList bodyPost
instance : TZc Try.prog 97 [.int .u64 0, .int .u64 0] := ⟨by kernel_rfl⟩
theorem adler_halves1_calls (n : Int) (hn : 0 ≤ n ∧ n ≤ 4294967295) (w : World) : Calls Try.prog 77 #[.int .u32 n] w fun e w' => e = .returned (.int .u64 (n % 65521)) ∧ w' = w := by
  refine calls_W (args := [.int .u32 n]) Try.func77 rfl 6 rfl ?_
  (repeat' (first | (refine WL_is ?_; first | refine WL_nil ?_ | refine wl_ ?_ ) | (refine WC_is ?_; first | refine WC_seq (fun _ _ => ?_) | refine wc_ ?_) | (refine WQ_is ?_; first | refine wq_ ?_) | (refine Kb.mk ?_; intro b_ w_ hb_ hl_ hx_ hB_) | (refine Ks.mk ?_; intro w_ hz_ hx_ hB_) | (refine Ko.mk ?_; intro A_ c_ w_ hx_ ho_ hr_; have hz_ := hx_.size; have hq_ := own_cap ho_) | (refine Kp.mk ?_; intro A_ c_ w_ hx_ hz_ ho_ hr_ hp_; have hq_ := own_cap ho_) | (refine Kl.mk ?_; intro b_ w_ hb_ hl_ hx_ hB_ ho_) | (refine Km.mk ?_; intro b_ w_ hb_ hl_ hx_ ho_) | (refine Ke.mk ?_; intro r_ hr_) | (refine Kg.mk ?_ ?_ <;> intro hs_ <;> (try simp only [strEq_t, strEq_f, decide_eq_true_eq, decide_eq_false_iff_not, beq_iff_eq, beq_eq_false_iff_ne, bne_iff_ne, bne_eq_false_iff_eq, Bool.not_eq_true', Bool.not_eq_false', Bool.not_true, Bool.not_false, gt_iff_lt, ge_iff_le, Int.not_lt, Int.not_le, ne_eq, Bool.false_eq_true, not_true_eq_false, reduceCtorEq] at hs_) <;> (try (exfalso; first | exact hs_ | (exact hs_ rfl) | omega))) ))
  all_goals exact ⟨rfl, rfl⟩
theorem adler_halves_calls (s : Int) (hs : 0 ≤ s ∧ s ≤ 4294967295) (w : World) :
    Calls Try.prog 65 #[.int .u32 s] w fun e w' => e = .returned (.agg #[.int .u64 (s % 65536 % 65521), .int .u64 (s / 65536 % 65521)]) ∧ Ext w w' := by
  have h1 := fun w => adler_halves1_calls (s % 65536) om_ w
  have h2 := fun w => adler_halves1_calls (s / 65536) om_ w
  refine calls_W (args := [.int .u32 s]) Try.func65 rfl 13 rfl ?_
  (repeat' (first | (refine WL_is ?_; first | refine WL_nil ?_ | (refine WL_buildAR rfl rfl rfl rfl ?_) | refine wl_ ?_ | (refine WL_callv rfl rfl rfl rfl (h1 _) rfl ?_; rintro _ _ ⟨rfl, h_⟩; obtain rfl := h_.symm; refine ⟨_, rfl, ?_⟩) | (refine WL_callv rfl rfl rfl rfl (h2 _) rfl ?_; rintro _ _ ⟨rfl, h_⟩; obtain rfl := h_.symm; refine ⟨_, rfl, ?_⟩)) | (refine WC_is ?_; first | refine WC_seq (fun _ _ => ?_) | refine wc_ ?_) | (refine WQ_is ?_; first | refine wq_ ?_) | (refine Kb.mk ?_; intro b_ w_ hb_ hl_ hx_ hB_) | (refine Ks.mk ?_; intro w_ hz_ hx_ hB_) | (refine Ko.mk ?_; intro A_ c_ w_ hx_ ho_ hr_; have hz_ := hx_.size; have hq_ := own_cap ho_) | (refine Kp.mk ?_; intro A_ c_ w_ hx_ hz_ ho_ hr_ hp_; have hq_ := own_cap ho_) | (refine Kl.mk ?_; intro b_ w_ hb_ hl_ hx_ hB_ ho_) | (refine Km.mk ?_; intro b_ w_ hb_ hl_ hx_ ho_) | (refine Ke.mk ?_; intro r_ hr_) | (refine Kg.mk ?_ ?_ <;> intro hs_ <;> (try simp only [strEq_t, strEq_f, decide_eq_true_eq, decide_eq_false_iff_not, beq_iff_eq, beq_eq_false_iff_ne, bne_iff_ne, bne_eq_false_iff_eq, Bool.not_eq_true', Bool.not_eq_false', Bool.not_true, Bool.not_false, gt_iff_lt, ge_iff_le, Int.not_lt, Int.not_le, ne_eq, Bool.false_eq_true, not_true_eq_false, reduceCtorEq] at hs_) <;> (try (exfalso; first | exact hs_ | (exact hs_ rfl) | omega))) ))
  all_goals exact ⟨rfl, ext_⟩
theorem adler_sum_calls (a b : Int) (ha : 0 ≤ a ∧ a ≤ 18446744073709551615) (hb : 0 ≤ b ∧ b ≤ 18446744073709551615) (w : World) :
    Calls Try.prog 66 #[.agg #[.int .u64 a, .int .u64 b]] w fun e w' => e = .returned (.int .u32 (b % 65521 * 65536 + a % 65521)) ∧ Ext w w' := by
  refine calls_W (args := [.agg #[.int .u64 a, .int .u64 b]]) Try.func66 rfl 13 rfl ?_
  (repeat' (first | (refine WL_is ?_; first | refine WL_nil ?_ | refine wl_ ?_ ) | (refine WC_is ?_; first | refine WC_seq (fun _ _ => ?_) | refine wc_ ?_) | (refine WQ_is ?_; first | refine wq_ ?_) | (refine Kb.mk ?_; intro b_ w_ hb_ hl_ hx_ hB_) | (refine Ks.mk ?_; intro w_ hz_ hx_ hB_) | (refine Ko.mk ?_; intro A_ c_ w_ hx_ ho_ hr_; have hz_ := hx_.size; have hq_ := own_cap ho_) | (refine Kp.mk ?_; intro A_ c_ w_ hx_ hz_ ho_ hr_ hp_; have hq_ := own_cap ho_) | (refine Kl.mk ?_; intro b_ w_ hb_ hl_ hx_ hB_ ho_) | (refine Km.mk ?_; intro b_ w_ hb_ hl_ hx_ ho_) | (refine Ke.mk ?_; intro r_ hr_) | (refine Kg.mk ?_ ?_ <;> intro hs_ <;> (try simp only [strEq_t, strEq_f, decide_eq_true_eq, decide_eq_false_iff_not, beq_iff_eq, beq_eq_false_iff_ne, bne_iff_ne, bne_eq_false_iff_eq, Bool.not_eq_true', Bool.not_eq_false', Bool.not_true, Bool.not_false, gt_iff_lt, ge_iff_le, Int.not_lt, Int.not_le, ne_eq, Bool.false_eq_true, not_true_eq_false, reduceCtorEq] at hs_) <;> (try (exfalso; first | exact hs_ | (exact hs_ rfl) | omega))) ))
  all_goals exact ⟨rfl, ext_⟩
theorem adler_More_calls (s : Int) (hs : 0 ≤ s ∧ s ≤ 4294967295) (bs : List Int) (A : Option Addr) (m c : Nat) (w : World) (hl : bs.length = m) (hb : ∀ x ∈ bs, 0 ≤ x ∧ x < 256) (hm : m ≤ 1000000) (hC : Cells w A (bs.map (.int .u8))) :
    Calls Try.prog 50 #[.int .u32 s, .slice A m c] w fun e w' => e = .returned (.int .u32 (adS s bs)) ∧ Ext w w' := by
  have h1 := fun w => adler_halves_calls s hs w
  refine calls_W (args := [.int .u32 s, .slice A m c]) Try.func50 rfl 32 rfl ?_
  (repeat' (first | (refine WL_is ?_; first | refine WL_nil ?_ | refine wl_ ?_ | (refine WL_isFn ?_; refine WL_call rfl rfl rfl (h1 _) ?_; rintro _ w_ ⟨rfl, hx_⟩; have hz_ := hx_.size; refine ⟨_, rfl, ?_⟩)) | (refine WC_is ?_; first | refine WC_seq (fun _ _ => ?_) | refine wc_ ?_) | (refine WQ_is ?_; first | refine wq_ ?_) | (refine Kb.mk ?_; intro b_ w_ hb_ hl_ hx_ hB_) | (refine Ks.mk ?_; intro w_ hz_ hx_ hB_) | (refine Ko.mk ?_; intro A_ c_ w_ hx_ ho_ hr_; have hz_ := hx_.size; have hq_ := own_cap ho_) | (refine Kp.mk ?_; intro A_ c_ w_ hx_ hz_ ho_ hr_ hp_; have hq_ := own_cap ho_) | (refine Kl.mk ?_; intro b_ w_ hb_ hl_ hx_ hB_ ho_) | (refine Km.mk ?_; intro b_ w_ hb_ hl_ hx_ ho_) | (refine Ke.mk ?_; intro r_ hr_) | (refine Kg.mk ?_ ?_ <;> intro hs_ <;> (try simp only [strEq_t, strEq_f, decide_eq_true_eq, decide_eq_false_iff_not, beq_iff_eq, beq_eq_false_iff_ne, bne_iff_ne, bne_eq_false_iff_eq, Bool.not_eq_true', Bool.not_eq_false', Bool.not_true, Bool.not_false, gt_iff_lt, ge_iff_le, Int.not_lt, Int.not_le, ne_eq, Bool.false_eq_true, not_true_eq_false, reduceCtorEq] at hs_) <;> (try (exfalso; first | exact hs_ | (exact hs_ rfl) | omega))) ))
  refine WC_loopL (X := Nat) [4, 5, 10, 11, 30, 31] rfl (fun i w' => (i ≤ m ∧ Ext w w') ∧ Blk w' b_ [.int .u64 (adLo (s % 65536 % 65521) bs i), .int .u64 (adHi (s / 65536 % 65521) (s % 65536 % 65521) bs i)] 97) (fun i => [(12, .int .i64 i)]) (fun i => m - i) 0 ⟨⟨om_, ext_⟩, blk_⟩ env_ ?_
  intro i w2 ⟨⟨hi, hx2⟩, hB2⟩ K hK
  have hz2 := hx2.size
  have q1 := getD_byte hb (i : Int).toNat
  have q2 := adLo_in bs (l := s % 65536 % 65521) om_ i
  have q3 := adHi_in bs (h := s / 65536 % 65521) (l := s % 65536 % 65521) om_ om_ i
  rcases Nat.lt_or_ge i m with hlt | hge
  · (repeat' (first | (refine WL_is ?_; first | refine WL_nil ?_ | refine wl_ ?_ ) | (refine WC_is ?_; first | refine WC_seq (fun _ _ => ?_) | refine wc_ ?_) | (refine WQ_is ?_; first | refine wq_ ?_) | (refine Kb.mk ?_; intro b_ w_ hb_ hl_ hx_ hB_) | (refine Ks.mk ?_; intro w_ hz_ hx_ hB_) | (refine Ko.mk ?_; intro A_ c_ w_ hx_ ho_ hr_; have hz_ := hx_.size; have hq_ := own_cap ho_) | (refine Kp.mk ?_; intro A_ c_ w_ hx_ hz_ ho_ hr_ hp_; have hq_ := own_cap ho_) | (refine Kl.mk ?_; intro b_ w_ hb_ hl_ hx_ hB_ ho_) | (refine Km.mk ?_; intro b_ w_ hb_ hl_ hx_ ho_) | (refine Ke.mk ?_; intro r_ hr_) | (refine Kg.mk ?_ ?_ <;> intro hs_ <;> (try simp only [strEq_t, strEq_f, decide_eq_true_eq, decide_eq_false_iff_not, beq_iff_eq, beq_eq_false_iff_ne, bne_iff_ne, bne_eq_false_iff_eq, Bool.not_eq_true', Bool.not_eq_false', Bool.not_true, Bool.not_false, gt_iff_lt, ge_iff_le, Int.not_lt, Int.not_le, ne_eq, Bool.false_eq_true, not_true_eq_false, reduceCtorEq] at hs_) <;> (try (exfalso; first | exact hs_ | (exact hs_ rfl) | omega))) ))
    all_goals exact WQ_againL hK (i + 1) ⟨⟨om_, ext_⟩, blk_⟩ env_ om_
  · obtain rfl : i = m := by omega
    have h2 := fun w => adler_sum_calls _ _ (show 0 ≤ adLo (s % 65536 % 65521) bs i ∧ adLo (s % 65536 % 65521) bs i ≤ 18446744073709551615 by omega) (show 0 ≤ adHi (s / 65536 % 65521) (s % 65536 % 65521) bs i ∧ adHi (s / 65536 % 65521) (s % 65536 % 65521) bs i ≤ 18446744073709551615 by omega) w
    (repeat' (first | (refine WL_is ?_; first | refine WL_nil ?_ | refine wl_ ?_ | (refine WL_isFn ?_; refine WL_call rfl rfl rfl (h2 _) ?_; rintro _ w_ ⟨rfl, hx_⟩; have hz_ := hx_.size; refine ⟨_, rfl, ?_⟩)) | (refine WC_is ?_; first | refine WC_seq (fun _ _ => ?_) | refine wc_ ?_) | (refine WQ_is ?_; first | refine wq_ ?_) | (refine Kb.mk ?_; intro b_ w_ hb_ hl_ hx_ hB_) | (refine Ks.mk ?_; intro w_ hz_ hx_ hB_) | (refine Ko.mk ?_; intro A_ c_ w_ hx_ ho_ hr_; have hz_ := hx_.size; have hq_ := own_cap ho_) | (refine Kp.mk ?_; intro A_ c_ w_ hx_ hz_ ho_ hr_ hp_; have hq_ := own_cap ho_) | (refine Kl.mk ?_; intro b_ w_ hb_ hl_ hx_ hB_ ho_) | (refine Km.mk ?_; intro b_ w_ hb_ hl_ hx_ ho_) | (refine Ke.mk ?_; intro r_ hr_) | (refine Kg.mk ?_ ?_ <;> intro hs_ <;> (try simp only [strEq_t, strEq_f, decide_eq_true_eq, decide_eq_false_iff_not, beq_iff_eq, beq_eq_false_iff_ne, bne_iff_ne, bne_eq_false_iff_eq, Bool.not_eq_true', Bool.not_eq_false', Bool.not_true, Bool.not_false, gt_iff_lt, ge_iff_le, Int.not_lt, Int.not_le, ne_eq, Bool.false_eq_true, not_true_eq_false, reduceCtorEq] at hs_) <;> (try (exfalso; first | exact hs_ | (exact hs_ rfl) | omega))) ))
    all_goals exact ⟨by unfold adS; rw [hl], ext_⟩
theorem adler_Sum_calls (bs : List Int) (A : Option Addr) (m c : Nat) (w : World) (hl : bs.length = m) (hb : ∀ x ∈ bs, 0 ≤ x ∧ x < 256) (hm : m ≤ 1000000) (hC : Cells w A (bs.map (.int .u8))) :
    Calls Try.prog 22 #[.slice A m c] w fun e w' => e = .returned (.int .u32 (adS 1 bs)) ∧ Ext w w' := by
  refine calls_W (args := [.slice A m c]) Try.func22 rfl 5 rfl ?_
  (repeat' (first | (refine WL_is ?_; first | refine WL_nil ?_ | refine wl_ ?_ | (refine WL_isFn ?_; refine WL_call rfl rfl rfl (adler_More_calls 1 om_ bs A m c _ hl hb hm cells_) ?_; rintro _ w_ ⟨rfl, hx_⟩; have hz_ := hx_.size; refine ⟨_, rfl, ?_⟩)) | (refine WC_is ?_; first | refine WC_seq (fun _ _ => ?_) | refine wc_ ?_) | (refine WQ_is ?_; first | refine wq_ ?_) | (refine Kb.mk ?_; intro b_ w_ hb_ hl_ hx_ hB_) | (refine Ks.mk ?_; intro w_ hz_ hx_ hB_) | (refine Ko.mk ?_; intro A_ c_ w_ hx_ ho_ hr_; have hz_ := hx_.size; have hq_ := own_cap ho_) | (refine Kp.mk ?_; intro A_ c_ w_ hx_ hz_ ho_ hr_ hp_; have hq_ := own_cap ho_) | (refine Kl.mk ?_; intro b_ w_ hb_ hl_ hx_ hB_ ho_) | (refine Km.mk ?_; intro b_ w_ hb_ hl_ hx_ ho_) | (refine Ke.mk ?_; intro r_ hr_) | (refine Kg.mk ?_ ?_ <;> intro hs_ <;> (try simp only [strEq_t, strEq_f, decide_eq_true_eq, decide_eq_false_iff_not, beq_iff_eq, beq_eq_false_iff_ne, bne_iff_ne, bne_eq_false_iff_eq, Bool.not_eq_true', Bool.not_eq_false', Bool.not_true, Bool.not_false, gt_iff_lt, ge_iff_le, Int.not_lt, Int.not_le, ne_eq, Bool.false_eq_true, not_true_eq_false, reduceCtorEq] at hs_) <;> (try (exfalso; first | exact hs_ | (exact hs_ rfl) | omega))) ))
  all_goals exact ⟨rfl, ext_⟩
/-- As the document counts the high half. -/
def hiR (h l : Int) (bs : List Int) : Nat → Int
  | 0 => h
  | i + 1 => (hiR h l bs i + adLo l bs (i + 1)) % 65521
theorem hiR_in {h l : Int} (bs : List Int) (hh : 0 ≤ h ∧ h < 65521) : ∀ i, 0 ≤ hiR h l bs i ∧ hiR h l bs i < 65521
  | 0 => hh
  | i + 1 => by unfold hiR; omega
theorem hiR_eq {h l : Int} (bs : List Int) (hh : 0 ≤ h ∧ h < 65521) : ∀ i, hiR h l bs i = adHi h l bs i % 65521
  | 0 => by unfold hiR adHi; omega
  | i + 1 => by
    have := hiR_eq (l := l) bs hh i
    unfold hiR adHi
    rw [this]; omega
theorem ref03_More_calls (s : Int) (hs : 0 ≤ s ∧ s ≤ 4294967295) (bs : List Int) (A : Option Addr) (m c : Nat) (w : World) (hl : bs.length = m) (hb : ∀ x ∈ bs, 0 ≤ x ∧ x < 256) (hm : m ≤ 1000000) (hC : Cells w A (bs.map (.int .u8))) :
    Calls Try.prog 43 #[.int .u32 s, .slice A m c] w fun e w' => e = .returned (.int .u32 (adS s bs)) ∧ Ext w w' := by
  refine calls_W (args := [.int .u32 s, .slice A m c]) Try.func43 rfl 36 rfl ?_
  (repeat' (first | (refine WL_is ?_; first | refine WL_nil ?_ | refine wl_ ?_ ) | (refine WC_is ?_; first | refine WC_seq (fun _ _ => ?_) | refine wc_ ?_) | (refine WQ_is ?_; first | refine wq_ ?_) | (refine Kb.mk ?_; intro b_ w_ hb_ hl_ hx_ hB_) | (refine Ks.mk ?_; intro w_ hz_ hx_ hB_) | (refine Ko.mk ?_; intro A_ c_ w_ hx_ ho_ hr_; have hz_ := hx_.size; have hq_ := own_cap ho_) | (refine Kp.mk ?_; intro A_ c_ w_ hx_ hz_ ho_ hr_ hp_; have hq_ := own_cap ho_) | (refine Kl.mk ?_; intro b_ w_ hb_ hl_ hx_ hB_ ho_) | (refine Km.mk ?_; intro b_ w_ hb_ hl_ hx_ ho_) | (refine Ke.mk ?_; intro r_ hr_) | (refine Kg.mk ?_ ?_ <;> intro hs_ <;> (try simp only [strEq_t, strEq_f, decide_eq_true_eq, decide_eq_false_iff_not, beq_iff_eq, beq_eq_false_iff_ne, bne_iff_ne, bne_eq_false_iff_eq, Bool.not_eq_true', Bool.not_eq_false', Bool.not_true, Bool.not_false, gt_iff_lt, ge_iff_le, Int.not_lt, Int.not_le, ne_eq, Bool.false_eq_true, not_true_eq_false, reduceCtorEq] at hs_) <;> (try (exfalso; first | exact hs_ | (exact hs_ rfl) | omega))) ))
  refine WC_loopL (X := Nat) [1, 4, 32, 33, 34, 35] rfl (fun i w' => i ≤ m ∧ Ext w w') (fun i => [(5, .int .u32 (adLo (s % 65536 % 65521) bs i)), (6, .int .u32 (hiR (s / 65536 % 65521) (s % 65536 % 65521) bs i)), (7, .int .i64 i)]) (fun i => m - i) 0 ⟨om_, ext_⟩ env_ ?_
  intro i w2 ⟨hi, hx2⟩ K hK
  have hz2 := hx2.size
  have q1 := getD_byte hb (i : Int).toNat
  have q2 := adLo_in bs (l := s % 65536 % 65521) om_ i
  have q3 := hiR_in bs (h := s / 65536 % 65521) (l := s % 65536 % 65521) om_ i
  rcases Nat.lt_or_ge i m with hlt | hge
  · (repeat' (first | (refine WL_is ?_; first | refine WL_nil ?_ | refine wl_ ?_ ) | (refine WC_is ?_; first | refine WC_seq (fun _ _ => ?_) | refine wc_ ?_) | (refine WQ_is ?_; first | refine wq_ ?_) | (refine Kb.mk ?_; intro b_ w_ hb_ hl_ hx_ hB_) | (refine Ks.mk ?_; intro w_ hz_ hx_ hB_) | (refine Ko.mk ?_; intro A_ c_ w_ hx_ ho_ hr_; have hz_ := hx_.size; have hq_ := own_cap ho_) | (refine Kp.mk ?_; intro A_ c_ w_ hx_ hz_ ho_ hr_ hp_; have hq_ := own_cap ho_) | (refine Kl.mk ?_; intro b_ w_ hb_ hl_ hx_ hB_ ho_) | (refine Km.mk ?_; intro b_ w_ hb_ hl_ hx_ ho_) | (refine Ke.mk ?_; intro r_ hr_) | (refine Kg.mk ?_ ?_ <;> intro hs_ <;> (try simp only [strEq_t, strEq_f, decide_eq_true_eq, decide_eq_false_iff_not, beq_iff_eq, beq_eq_false_iff_ne, bne_iff_ne, bne_eq_false_iff_eq, Bool.not_eq_true', Bool.not_eq_false', Bool.not_true, Bool.not_false, gt_iff_lt, ge_iff_le, Int.not_lt, Int.not_le, ne_eq, Bool.false_eq_true, not_true_eq_false, reduceCtorEq] at hs_) <;> (try (exfalso; first | exact hs_ | (exact hs_ rfl) | omega))) ))
    all_goals exact WQ_againL hK (i + 1) ⟨om_, ext_⟩ env_ om_
  · obtain rfl : i = m := by omega
    have e1 := hiR_eq (h := s / 65536 % 65521) (l := s % 65536 % 65521) bs om_ i
    have e2 : adLo (s % 65536 % 65521) bs i % 65521 = adLo (s % 65536 % 65521) bs i := by omega
    (repeat' (first | (refine WL_is ?_; first | refine WL_nil ?_ | refine wl_ ?_ ) | (refine WC_is ?_; first | refine WC_seq (fun _ _ => ?_) | refine wc_ ?_) | (refine WQ_is ?_; first | refine wq_ ?_) | (refine Kb.mk ?_; intro b_ w_ hb_ hl_ hx_ hB_) | (refine Ks.mk ?_; intro w_ hz_ hx_ hB_) | (refine Ko.mk ?_; intro A_ c_ w_ hx_ ho_ hr_; have hz_ := hx_.size; have hq_ := own_cap ho_) | (refine Kp.mk ?_; intro A_ c_ w_ hx_ hz_ ho_ hr_ hp_; have hq_ := own_cap ho_) | (refine Kl.mk ?_; intro b_ w_ hb_ hl_ hx_ hB_ ho_) | (refine Km.mk ?_; intro b_ w_ hb_ hl_ hx_ ho_) | (refine Ke.mk ?_; intro r_ hr_) | (refine Kg.mk ?_ ?_ <;> intro hs_ <;> (try simp only [strEq_t, strEq_f, decide_eq_true_eq, decide_eq_false_iff_not, beq_iff_eq, beq_eq_false_iff_ne, bne_iff_ne, bne_eq_false_iff_eq, Bool.not_eq_true', Bool.not_eq_false', Bool.not_true, Bool.not_false, gt_iff_lt, ge_iff_le, Int.not_lt, Int.not_le, ne_eq, Bool.false_eq_true, not_true_eq_false, reduceCtorEq] at hs_) <;> (try (exfalso; first | exact hs_ | (exact hs_ rfl) | omega))) ))
    all_goals exact ⟨by unfold adS; rw [hl, ← e1, e2], ext_⟩
end Go.Proofs.Ytejdjpjaahfnaaa.K
