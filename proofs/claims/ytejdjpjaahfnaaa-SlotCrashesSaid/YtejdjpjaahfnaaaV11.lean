/- Chapter 13 (root): records are read as they were written, in plain words. Seat-free. -/
import Derived.Test.YtejdjpjaahfnaaaV10
set_option linter.unusedVariables false
set_option linter.unusedSimpArgs false
set_option maxHeartbeats 4000000
set_option maxRecDepth 20000
namespace Go.Proofs.Ytejdjpjaahfnaaa.K
open Go.RowKit
attribute [local irreducible] strEq strOfNums Calls WL WC WQ WX Code.wp wpList bodyPost
theorem mod_step1 (n p : Int) (h0 : 0 < p) : n % (p * 256) = n % p + p * (n / p % 256) := by
  have e1 := Int.emod_add_mul_ediv n p
  have e2 := Int.emod_add_mul_ediv (n / p) 256
  have b1 := Int.emod_nonneg n (Int.ne_of_gt h0)
  have b2 := Int.emod_lt_of_pos n h0
  have b3 := Int.emod_nonneg (n / p) (show (256 : Int) ≠ 0 by decide)
  have b4 := Int.emod_lt_of_pos (n / p) (show (0 : Int) < 256 by decide)
  generalize hq : n / p = q at *
  generalize hr : n % p = r at *
  generalize hs : q % 256 = s at *
  generalize ht : q / 256 = t at *
  have e3 : n = (r + p * s) + (p * 256) * t := by
    rw [← e1, ← e2, Int.mul_add, Int.mul_assoc]; omega
  rw [e3, Int.add_mul_emod_self_left]
  refine Int.emod_eq_of_lt ?_ ?_
  · have := Int.mul_nonneg (Int.le_of_lt h0) b3; omega
  · have : p * s ≤ p * 255 := Int.mul_le_mul_of_nonneg_left om_ (Int.le_of_lt h0)
    omega
theorem valL_leB0 (n : Int) (hn : 0 ≤ n) (k : Nat) : valL (leB n k) = n % 2 ^ (8 * k) := by
  induction k with
  | zero => simp [leB, valL, Int.emod_one]
  | succ k ih =>
    simp only [leB]
    rw [valL_append, ih, leB_length]
    simp only [valL, Int.mul_zero, Int.add_zero]
    have e : (2 : Int) ^ (8 * (k + 1)) = 2 ^ (8 * k) * 256 := by rw [show 8 * (k + 1) = 8 * k + 8 by omega, Int.pow_add]; rfl
    rw [e, mod_step1 n _ (Int.pow_pos (by decide))]
theorem valL_leB1 (n : Int) (k : Nat) (hn : 0 ≤ n ∧ n < 2 ^ (8 * k)) : valL (leB n k) = n := by
  rw [valL_leB0 n hn.1, Int.emod_eq_of_lt hn.1 hn.2]
theorem seg_mid {a b c : List Int} {i k : Nat} (ha : a.length = i) (hb : b.length = k) : ((a ++ (b ++ c)).drop i).take k = b := by
  subst ha; subst hb
  rw [List.drop_left, List.take_left]
theorem toE_enL1 {e : En} (h : OkE e) (hw : EnW e) : toE (enL e) = e := by
  have hr := h.range
  cases e with
  | mk u z a k =>
    have h0 : b0 (enL ⟨u, z, a, k⟩) 0 = uN u := rfl
    have h1 : b0 (enL ⟨u, z, a, k⟩) 1 = z := rfl
    have h2 : b0 (enL ⟨u, z, a, k⟩) 2 = a % 256 := rfl
    have h3 : b0 (enL ⟨u, z, a, k⟩) 3 = a / 256 := rfl
    unfold toE
    rw [h0, h1, h2, h3, show a % 256 + 256 * (a / 256) = a by omega]
    have hu : decide (uN u = 1) = u := by cases u <;> rfl
    rw [hu]
    rfl
theorem okB_enL1 {e : En} (h : OkE e) (hw : EnW e) : OkB (enL e) := by
  refine ⟨enL_length hw.len, ?_, ?_⟩
  · show uN e.u ≤ 1; exact (uN_range _).2
  · rw [toE_enL1 h hw]; exact h
/-- A record's bytes, part by part. -/
theorem wrA_eq (r : Rc) : wrA r = [82] ++ ([r.bl] ++ ([0, 0] ++ (leB r.ep 4 ++ (leB r.sq 8 ++ (enL r.t ++ (r.j ++ (List.replicate 40 0 ++ leB (adS 1 (wrL r)) 4))))))) := by
  unfold wrA
  conv => lhs; lhs; unfold wrL hdL
  simp only [List.append_assoc, List.cons_append, List.nil_append]
theorem wrL_eq (r : Rc) : wrL r = [82] ++ ([r.bl] ++ ([0, 0] ++ (leB r.ep 4 ++ (leB r.sq 8 ++ (enL r.t ++ (r.j ++ List.replicate 40 0)))))) := by
  unfold wrL hdL
  simp only [List.append_assoc, List.cons_append, List.nil_append]
theorem chE_wrA {r : Rc} (h : RcW r) : chE (wrA r) = enL r.t := by
  unfold chE
  rw [wrA_eq, ← List.append_assoc [82], ← List.append_assoc ([82] ++ [r.bl]), ← List.append_assoc ([82] ++ [r.bl] ++ [0, 0]), ← List.append_assoc ([82] ++ [r.bl] ++ [0, 0] ++ leB r.ep 4)]
  exact seg_mid (by simp [leB_length]) (enL_length h.ew.len)
theorem chJ_wrA {r : Rc} (h : RcW r) : chJ (wrA r) = r.j := by
  unfold chJ
  rw [wrA_eq, ← List.append_assoc [82], ← List.append_assoc ([82] ++ [r.bl]), ← List.append_assoc ([82] ++ [r.bl] ++ [0, 0]), ← List.append_assoc ([82] ++ [r.bl] ++ [0, 0] ++ leB r.ep 4), ← List.append_assoc ([82] ++ [r.bl] ++ [0, 0] ++ leB r.ep 4 ++ leB r.sq 8)]
  exact seg_mid (by simp [leB_length, enL_length h.ew.len]) h.len
theorem nS_wrA {r : Rc} (h : OkR r) : nA (wrA r) 8 8 = r.sq := by
  unfold nA
  have g := rcE_facts h
  rw [wrA_eq, ← List.append_assoc [82], ← List.append_assoc ([82] ++ [r.bl]), ← List.append_assoc ([82] ++ [r.bl] ++ [0, 0])]
  rw [seg_mid (by simp [leB_length]) (leB_length _ _)]
  exact valL_leB1 _ _ ⟨g.2.2.2.2.1, by show r.sq < 18446744073709551616; omega⟩
theorem nE_wrA {r : Rc} (h : OkR r) : nA (wrA r) 4 4 = r.ep := by
  unfold nA
  have g := rcE_facts h
  rw [wrA_eq, ← List.append_assoc [82], ← List.append_assoc ([82] ++ [r.bl])]
  rw [seg_mid (by simp) (leB_length _ _)]
  exact valL_leB1 _ _ ⟨g.2.2.1, by show r.ep < 4294967296; omega⟩
theorem nB_wrA (r : Rc) : nA (wrA r) 1 1 = r.bl := by
  unfold nA
  rw [wrA_eq, seg_mid (a := [82]) (b := [r.bl]) (i := 1) (k := 1) rfl rfl]
  simp [valL]
theorem toR_wrA {r : Rc} (h : OkR r) (hw : RcW r) : toR (wrA r) = r := by
  rw [toR_eq, nE_wrA h, nS_wrA h, nB_wrA, chE_wrA hw, chJ_wrA hw, toE_enL1 h.1 hw.ew]
theorem okRd_wrA {r : Rc} (h : OkR r) (hw : RcW r) : OkRd (wrA r) := by
  refine ⟨wrA_length hw, ?_, ?_, ?_, ?_⟩
  · rw [chE_wrA hw]; exact okB_enL1 h.1 hw.ew
  · rw [nS_wrA h]; exact (rcE_facts h).2.2.2.2.2
  · rw [toR_wrA h hw]; exact h
  · rw [toR_wrA h hw]
theorem rd_wrA {r : Rc} (h : OkR r) (hw : RcW r) : rdR (wrA r) = r ∧ rdRE (wrA r) = 0 := by
  have := rdR_t (okRd_wrA h hw)
  rw [toR_wrA h hw] at this
  exact this
theorem wrA_inj {a b : Rc} (ha : OkR a) (hb : OkR b) (hwa : RcW a) (hwb : RcW b) (h : wrA a = wrA b) : a = b := by
  rw [← toR_wrA ha hwa, h, toR_wrA hb hwb]
theorem rd_short {bs : List Int} (h : bs.length ≠ 128) : rdR bs = rc0 ∧ rdRE bs = 130 := rdR_f fun h' => h h'.1
theorem rd_z128 : rdR z128 = rc0 ∧ rdRE z128 = 130 := by
  refine rdR_f fun h => ?_
  have h1 := h.2.2.2.1.2.1.1
  rw [toR_eq] at h1
  have : nA z128 4 4 = 0 := by decide
  dsimp only at h1
  omega
theorem okR_rc0 : ¬ OkR rc0 := fun h => by have := h.2.1.1; revert this; decide
theorem wrA_first (r : Rc) : (wrA r)[0]? = some 82 := by rw [wrA_eq]; rfl
theorem erased_wrA (r : Rc) : erased (wrA r) = false := by
  unfold erased
  refine decide_eq_false fun h => ?_
  have := wrA_first r
  rw [h] at this
  revert this; decide
theorem erased_nil : erased [] = false := by decide
end Go.Proofs.Ytejdjpjaahfnaaa.K
