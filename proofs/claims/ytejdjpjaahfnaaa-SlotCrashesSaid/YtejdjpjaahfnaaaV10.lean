/- Chapter 13 (root): erased sectors; records are read as they were written, in plain words. Seat-free. -/
import Derived.Test.YtejdjpjaahfnaaaV9
set_option linter.unusedVariables false
set_option linter.unusedSimpArgs false
set_option maxHeartbeats 4000000
set_option maxRecDepth 20000
namespace Go.Proofs.Ytejdjpjaahfnaaa.K
open Go.RowKit
attribute [local irreducible] strEq strOfNums Calls WL WC WQ WX Code.wp wpList bodyPost
def erased (bs : List Int) : Bool := decide (bs = List.replicate 128 0)
abbrev z128 : List Int := List.replicate 128 0
instance : TZc Try.prog 83 (z128.map (.int .u8)) := ⟨by kernel_rfl⟩
abbrev S128 : List Value → Prop := SArr 128 1 (SInt .u8)
instance : TEq Try.prog 83 true 128 2 S128 := teq_arr (e := 5) (by kernel_rfl) (by kernel_rfl) (by kernel_rfl) rfl
instance : TEqG Try.prog 83 := ⟨by kernel_rfl⟩
theorem s128 {ks : List Int} (h : ks.length = 128) : S128 (ks.map (.int .u8)) := by
  refine ⟨by simpa using h, fun i hi => ?_⟩
  rw [Nat.mul_one, List.drop_eq_getElem_cons (by simp; omega)]
  exact ⟨ks[i]'om_, by simp⟩
theorem root_Erased_calls (bs : List Int) (A : Option Addr) (m c : Nat) (w : World) (hl : bs.length = m) (hC : Cells w A (bs.map (.int .u8))) (b : Bool) (hb : erased bs = b) :
    Calls Try.prog 20 #[.slice A m c] w fun e w' => e = .returned (.bool b) ∧ Ext w w' := by
  subst hb
  unfold erased
  refine calls_W (args := [.slice A m c]) Try.func20 rfl 13 rfl ?_
  by_cases h128 : m = 128
  · subst h128
    have hkm : (bs.map (Value.int .u8)).length = 128 := by simpa using hl
    have hnz : 0 < (bs.map (Value.int .u8)).length := by omega
    have hid : ∀ j v, (bs.map (Value.int .u8))[j]? = some v → (bs.map (Value.int .u8))[0 + j]? = some v := fun j v h => by rw [Nat.zero_add]; exact h
    have s1 := s128 hl
    have s2 : S128 (z128.map (.int .u8)) := s128 rfl
    by_cases hz : bs = z128
    · have hze : bs.map (Value.int .u8) = z128.map (.int .u8) := by rw [hz]
      (repeat' (first | (refine WL_is ?_; first | refine WL_nil ?_ | (refine WL_isLoad ?_; refine WL_loadPA rfl rfl rfl cells_ hkm hnz hid ?_) | (refine WL_isBin ?_; refine WL_eqT rfl rfl rfl rfl rfl as_ as_ ?_) | refine wl_ ?_ ) | (refine WC_is ?_; first | refine WC_seq (fun _ _ => ?_) | refine wc_ ?_) | (refine WQ_is ?_; first | refine wq_ ?_) | (refine Kb.mk ?_; intro b_ w_ hb_ hl_ hx_ hB_) | (refine Ks.mk ?_; intro w_ hz_ hx_ hB_) | (refine Ko.mk ?_; intro A_ c_ w_ hx_ ho_ hr_; have hz_ := hx_.size; have hq_ := own_cap ho_) | (refine Kp.mk ?_; intro A_ c_ w_ hx_ hz_ ho_ hr_ hp_; have hq_ := own_cap ho_) | (refine Kl.mk ?_; intro b_ w_ hb_ hl_ hx_ hB_ ho_) | (refine Km.mk ?_; intro b_ w_ hb_ hl_ hx_ ho_) | (refine Ke.mk ?_; intro r_ hr_) | (refine Kg.mk ?_ ?_ <;> intro hs_ <;> (try simp only [strEq_t, strEq_f, decide_eq_true_eq, decide_eq_false_iff_not, beq_iff_eq, beq_eq_false_iff_ne, bne_iff_ne, bne_eq_false_iff_eq, Bool.not_eq_true', Bool.not_eq_false', Bool.not_true, Bool.not_false, gt_iff_lt, ge_iff_le, Int.not_lt, Int.not_le, ne_eq, Bool.false_eq_true, not_true_eq_false, reduceCtorEq] at hs_) <;> (try (exfalso; first | exact hs_ | (exact hs_ rfl) | omega))) ))
      all_goals exact ⟨by rw [decide_eq_true hz], ext_⟩
    · have hze : ¬ bs.map (Value.int .u8) = z128.map (.int .u8) := fun h => hz (key_inj h)
      (repeat' (first | (refine WL_is ?_; first | refine WL_nil ?_ | (refine WL_isLoad ?_; refine WL_loadPA rfl rfl rfl cells_ hkm hnz hid ?_) | (refine WL_isBin ?_; refine WL_eqF rfl rfl rfl rfl rfl as_ as_ as_ ?_) | refine wl_ ?_ ) | (refine WC_is ?_; first | refine WC_seq (fun _ _ => ?_) | refine wc_ ?_) | (refine WQ_is ?_; first | refine wq_ ?_) | (refine Kb.mk ?_; intro b_ w_ hb_ hl_ hx_ hB_) | (refine Ks.mk ?_; intro w_ hz_ hx_ hB_) | (refine Ko.mk ?_; intro A_ c_ w_ hx_ ho_ hr_; have hz_ := hx_.size; have hq_ := own_cap ho_) | (refine Kp.mk ?_; intro A_ c_ w_ hx_ hz_ ho_ hr_ hp_; have hq_ := own_cap ho_) | (refine Kl.mk ?_; intro b_ w_ hb_ hl_ hx_ hB_ ho_) | (refine Km.mk ?_; intro b_ w_ hb_ hl_ hx_ ho_) | (refine Ke.mk ?_; intro r_ hr_) | (refine Kg.mk ?_ ?_ <;> intro hs_ <;> (try simp only [strEq_t, strEq_f, decide_eq_true_eq, decide_eq_false_iff_not, beq_iff_eq, beq_eq_false_iff_ne, bne_iff_ne, bne_eq_false_iff_eq, Bool.not_eq_true', Bool.not_eq_false', Bool.not_true, Bool.not_false, gt_iff_lt, ge_iff_le, Int.not_lt, Int.not_le, ne_eq, Bool.false_eq_true, not_true_eq_false, reduceCtorEq] at hs_) <;> (try (exfalso; first | exact hs_ | (exact hs_ rfl) | omega))) ))
      all_goals exact ⟨by rw [decide_eq_false hz], ext_⟩
  · have hz : ¬ bs = List.replicate 128 0 := fun h => h128 (by rw [← hl, h]; rfl)
    (repeat' (first | (refine WL_is ?_; first | refine WL_nil ?_ | refine wl_ ?_ ) | (refine WC_is ?_; first | refine WC_seq (fun _ _ => ?_) | refine wc_ ?_) | (refine WQ_is ?_; first | refine wq_ ?_) | (refine Kb.mk ?_; intro b_ w_ hb_ hl_ hx_ hB_) | (refine Ks.mk ?_; intro w_ hz_ hx_ hB_) | (refine Ko.mk ?_; intro A_ c_ w_ hx_ ho_ hr_; have hz_ := hx_.size; have hq_ := own_cap ho_) | (refine Kp.mk ?_; intro A_ c_ w_ hx_ hz_ ho_ hr_ hp_; have hq_ := own_cap ho_) | (refine Kl.mk ?_; intro b_ w_ hb_ hl_ hx_ hB_ ho_) | (refine Km.mk ?_; intro b_ w_ hb_ hl_ hx_ ho_) | (refine Ke.mk ?_; intro r_ hr_) | (refine Kg.mk ?_ ?_ <;> intro hs_ <;> (try simp only [strEq_t, strEq_f, decide_eq_true_eq, decide_eq_false_iff_not, beq_iff_eq, beq_eq_false_iff_ne, bne_iff_ne, bne_eq_false_iff_eq, Bool.not_eq_true', Bool.not_eq_false', Bool.not_true, Bool.not_false, gt_iff_lt, ge_iff_le, Int.not_lt, Int.not_le, ne_eq, Bool.false_eq_true, not_true_eq_false, reduceCtorEq] at hs_) <;> (try (exfalso; first | exact hs_ | (exact hs_ rfl) | omega))) ))
    all_goals exact ⟨by rw [decide_eq_false hz], ext_⟩
theorem ref13_Erased_calls (bs : List Int) (A : Option Addr) (m c : Nat) (w : World) (hl : bs.length = m) (hb : ∀ x ∈ bs, 0 ≤ x ∧ x < 256) (hC : Cells w A (bs.map (.int .u8))) (b : Bool) (hb : erased bs = b) :
    Calls Try.prog 21 #[.slice A m c] w fun e w' => e = .returned (.bool b) ∧ Ext w w' := by
  have hR : z128 = z128 := rfl
  have hRl : z128.length = 128 := rfl
  have hRb : ∀ x ∈ z128, 0 ≤ x ∧ x < 256 := fun x hx => by have := List.eq_of_mem_replicate hx; omega
  have e : strEq (strOfNums bs) (strOfNums z128) = b := by
    rw [← hb, Bool.eq_iff_iff, strEq_t]
    unfold erased
    rw [decide_eq_true_eq]
    exact strOfNums_inj ‹_› hRb
  refine calls_W (args := [.slice A m c]) Try.func21 rfl 8 rfl ?_
  (repeat' (first | (refine WL_is ?_; first | refine WL_nil ?_ | (refine WL_makeI 128 hR rfl rfl rfl rfl rfl rfl (by decide) (by decide) (fun b_ w_ hb_ hl_ hx_ ho_ hr_ => ?_)) | (refine WL_isConv ?_; refine WL_str2 rfl rfl rfl (Cells.ext hC ext_) hl ?_) | refine wl_ ?_ ) | (refine WC_is ?_; first | refine WC_seq (fun _ _ => ?_) | refine WC_orderE (.rd false 0 (.rd false 1 (.act true 2 (.rd true 3 (.rd true 4 (.rd true 5 .nil))) .nil))) [] [2] none 1 (by kernel_rfl) (by kernel_rfl) (fun w_ hx_ hz_ => ?_) | refine wc_ ?_) | (refine WQ_is ?_; first | refine wq_ ?_) | (refine Kb.mk ?_; intro b_ w_ hb_ hl_ hx_ hB_) | (refine Ks.mk ?_; intro w_ hz_ hx_ hB_) | (refine Ko.mk ?_; intro A_ c_ w_ hx_ ho_ hr_; have hz_ := hx_.size; have hq_ := own_cap ho_) | (refine Kp.mk ?_; intro A_ c_ w_ hx_ hz_ ho_ hr_ hp_; have hq_ := own_cap ho_) | (refine Kl.mk ?_; intro b_ w_ hb_ hl_ hx_ hB_ ho_) | (refine Km.mk ?_; intro b_ w_ hb_ hl_ hx_ ho_) | (refine Ke.mk ?_; intro r_ hr_) | (refine Kg.mk ?_ ?_ <;> intro hs_ <;> (try simp only [strEq_t, strEq_f, decide_eq_true_eq, decide_eq_false_iff_not, beq_iff_eq, beq_eq_false_iff_ne, bne_iff_ne, bne_eq_false_iff_eq, Bool.not_eq_true', Bool.not_eq_false', Bool.not_true, Bool.not_false, gt_iff_lt, ge_iff_le, Int.not_lt, Int.not_le, ne_eq, Bool.false_eq_true, not_true_eq_false, reduceCtorEq] at hs_) <;> (try (exfalso; first | exact hs_ | (exact hs_ rfl) | omega))) | (refine WX_is ?_; first | refine wx_ ?_ | exact WX_altnil | (refine WX_isRd ?_; first | (refine WX_isT ?_; refine WX_readT rfl rfl rfl rfl rfl (by (first | (refine WL_makeI 128 hR rfl rfl rfl rfl rfl rfl (by decide) (by decide) (fun b_ w_ hb_ hl_ hx_ ho_ hr_ => ?_)) | (refine WL_isConv ?_; refine WL_str2 rfl rfl rfl (Cells.ext hC ext_) hl ?_) | refine wl_ ?_); refine WL_nil ?_; exact DR_mk rfl) ?_) | (refine WX_isF ?_; refine WX_read rfl rfl rfl rfl rfl (fun w_ hx_ => by (first | (refine WL_makeI 128 hR rfl rfl rfl rfl rfl rfl (by decide) (by decide) (fun b_ w_ hb_ hl_ hx_ ho_ hr_ => ?_)) | (refine WL_isConv ?_; refine WL_str2 rfl rfl rfl (Cells.ext hC ext_) hl ?_) | refine wl_ ?_); refine WL_nil ?_; exact DR_mk rfl) ?_) | refine wxg_ ?_) | (refine WX_isAct ?_; first | refine WX_eff1 rfl (fun _ _ => ?_) | refine WX_eff rfl (fun _ _ => ?_) ?_))))
  all_goals exact ⟨by rw [e], ext_⟩
/-- The law's record of an epoch. -/
def jN : List Int := 7 :: List.replicate 31 0
def kN : List Int := 3 :: List.replicate 31 0
def tN : En := ⟨true, 1, 2, kN⟩
def rcN (n : Int) : Rc := ⟨n, tN, jN, 4, 9⟩
theorem tN_W : EnW tN := ⟨rfl, by decide, by decide, by decide⟩
theorem jN_b : ∀ x ∈ jN, 0 ≤ x ∧ x < 256 := by decide
theorem rcN_W {n : Int} (h : 0 ≤ n ∧ n ≤ 1000) : RcW (rcN n) := RcW.fields tN_W rfl jN_b om_ (by decide) (by decide)
theorem fill_rcN {ep sq bl : Int} {t : En} {j : List Int} (ht : EnW t) (hJl : j.length = 32) (hJb : ∀ x ∈ j, 0 ≤ x ∧ x < 256) (h1 : 0 ≤ ep ∧ ep ≤ 9223372036854775807) (h2 : 0 ≤ sq ∧ sq ≤ 9223372036854775807) (h3 : 0 ≤ bl ∧ bl ≤ 9223372036854775807) :
    fillS [(0, 1), (1, 35), (36, 32), (68, 1), (69, 1)] (rcC rc0) [(0, .int .i64 ep), (2, .agg (j.map (.int .u8)).toArray), (4, .int .i64 bl), (3, .int .i64 sq), (1, .agg (enC t).toArray)] = some (rcC ⟨ep, t, j, sq, bl⟩) := by
  have w1 : RcW ⟨ep, en0, zk, 0, 0⟩ := RcW.fields EnW.zero rfl EnW.zero.bytes h1 (by decide) (by decide)
  have w2 : RcW ⟨ep, en0, j, 0, 0⟩ := RcW.fields EnW.zero hJl hJb h1 (by decide) (by decide)
  have w3 : RcW ⟨ep, en0, j, 0, bl⟩ := RcW.fields EnW.zero hJl hJb h1 (by decide) h3
  have w4 : RcW ⟨ep, en0, j, sq, bl⟩ := RcW.fields EnW.zero hJl hJb h1 h2 h3
  refine fillS_step (cs' := rcC ⟨ep, en0, zk, 0, 0⟩) rfl rfl (by decide) rfl ?_
  refine fillS_step (cs' := rcC ⟨ep, en0, j, 0, 0⟩) rfl (by rw [agg_cells]; simpa using hJl) (by rw [rcC_length w1]; decide) (by rw [agg_cells]; exact rc_setJ w1 hJl) ?_
  refine fillS_step (cs' := rcC ⟨ep, en0, j, 0, bl⟩) rfl rfl (by rw [rcC_length w2]; decide) (rc_setB w2 bl) ?_
  refine fillS_step (cs' := rcC ⟨ep, en0, j, sq, bl⟩) rfl rfl (by rw [rcC_length w3]; decide) (rc_setS w3 sq) ?_
  exact fillS_step (cs' := rcC ⟨ep, t, j, sq, bl⟩) rfl (by rw [agg_cells]; exact enC_length ht.len) (by rw [rcC_length w4]; decide) (by rw [agg_cells]; exact rc_setE w4 ht.len) rfl
theorem law13_Record_calls (n : Int) (hn : 0 ≤ n ∧ n ≤ 1000) (w : World) : Calls Try.prog 34 #[.int .i64 n] w fun e w' => e = .returned (.agg (rcC (rcN n)).toArray) ∧ Ext w w' := by
  have h0 := rcC_length RcW.zero
  have hl := rcC_length (rcN_W hn)
  have ho := rcC_one (rcN n)
  have f1 : fillL 1 (zk.map (.int .u8)) [(0, Value.int .u8 7)] = some (jN.map (.int .u8)) := rfl
  have f2 : fillL 1 (zk.map (.int .u8)) [(0, Value.int .u8 3)] = some (kN.map (.int .u8)) := rfl
  have f3 : fillS [(0, 1), (1, 1), (2, 1), (3, 32)] (enC en0) [(0, .bool true), (1, .int .i64 1), (2, .int .i64 2), (3, .agg (kN.map (.int .u8)).toArray)] = some (enC tN) := fill_en rfl
  have f4 := fill_rcN (ep := n) (sq := 4) (bl := 9) (t := tN) (j := jN) tN_W rfl jN_b om_ (by decide) (by decide)
  rw [show (⟨n, tN, jN, 4, 9⟩ : Rc) = rcN n from rfl] at f4
  generalize jN = j at *
  generalize tN = t at *
  generalize kN = k at *
  generalize rcN n = r at *
  refine calls_W (args := [.int .i64 n]) Try.func34 rfl 8 rfl ?_
  (repeat' (first | (refine WL_is ?_; first | refine WL_nil ?_ | (refine WL_buildA rfl rfl as_ rfl ?_) | refine wl_ ?_ ) | (refine WC_is ?_; first | refine WC_seq (fun _ _ => ?_) | refine wc_ ?_) | (refine WQ_is ?_; first | refine wq_ ?_) | (refine Kb.mk ?_; intro b_ w_ hb_ hl_ hx_ hB_) | (refine Ks.mk ?_; intro w_ hz_ hx_ hB_) | (refine Ko.mk ?_; intro A_ c_ w_ hx_ ho_ hr_; have hz_ := hx_.size; have hq_ := own_cap ho_) | (refine Kp.mk ?_; intro A_ c_ w_ hx_ hz_ ho_ hr_ hp_; have hq_ := own_cap ho_) | (refine Kl.mk ?_; intro b_ w_ hb_ hl_ hx_ hB_ ho_) | (refine Km.mk ?_; intro b_ w_ hb_ hl_ hx_ ho_) | (refine Ke.mk ?_; intro r_ hr_) | (refine Kg.mk ?_ ?_ <;> intro hs_ <;> (try simp only [strEq_t, strEq_f, decide_eq_true_eq, decide_eq_false_iff_not, beq_iff_eq, beq_eq_false_iff_ne, bne_iff_ne, bne_eq_false_iff_eq, Bool.not_eq_true', Bool.not_eq_false', Bool.not_true, Bool.not_false, gt_iff_lt, ge_iff_le, Int.not_lt, Int.not_le, ne_eq, Bool.false_eq_true, not_true_eq_false, reduceCtorEq] at hs_) <;> (try (exfalso; first | exact hs_ | (exact hs_ rfl) | omega))) ))
  all_goals exact ⟨rfl, ext_⟩
end Go.Proofs.Ytejdjpjaahfnaaa.K
