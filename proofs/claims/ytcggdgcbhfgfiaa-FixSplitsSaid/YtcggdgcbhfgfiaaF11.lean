/- Chapter 01: plain facts on numbers and their bytes. Seat-free. -/
import Derived.Test.YtcggdgcbhfgfiaaF10
set_option linter.unusedVariables false
set_option linter.unusedSimpArgs false
set_option maxHeartbeats 4000000
set_option maxRecDepth 20000
namespace Go.Proofs.Ytcggdgcbhfgfiaa.K
open Go.RowKit
attribute [local irreducible] strEq strOfNums Calls WL WC WQ WX Code.wp wpList bodyPost
theorem pow8 (k : Nat) : (2 : Int) ^ (8 * (k + 1)) = 256 * 2 ^ (8 * k) := by rw [show 8 * (k + 1) = 8 + 8 * k by omega, Int.pow_add]; rfl
theorem pow8_pos (k : Nat) : (0 : Int) < 2 ^ (8 * k) := Int.pow_pos (by decide)
theorem mod_step (n p : Int) (h0 : 0 < p) : n % (p * 256) = n % p + p * (n / p % 256) := by
  have e1 := Int.emod_add_mul_ediv n p
  have e2 := Int.emod_add_mul_ediv (n / p) 256
  have b1 := Int.emod_nonneg n (Int.ne_of_gt h0)
  have b2 := Int.emod_lt_of_pos n h0
  have b3 := Int.emod_nonneg (n / p) (show (256 : Int) ≠ 0 by decide)
  have b4 := Int.emod_lt_of_pos (n / p) (show (0 : Int) < 256 by decide)
  generalize hq : n / p = q at *
  generalize hr : n % p = r at *
  generalize hs : q % 256 = s at *
  generalize ht : q / 256 = t at *
  have e3 : n = (r + p * s) + (p * 256) * t := by
    rw [← e1, ← e2, Int.mul_add, Int.mul_assoc]; omega
  rw [e3, Int.add_mul_emod_self_left]
  refine Int.emod_eq_of_lt ?_ ?_
  · have := Int.mul_nonneg (Int.le_of_lt h0) b3; omega
  · have : p * s ≤ p * 255 := Int.mul_le_mul_of_nonneg_left (by omega) (Int.le_of_lt h0)
    omega
/-- The number that its own bytes are. -/
theorem valL_leB (n : Int) (hn : 0 ≤ n) (k : Nat) : valL (leB n k) = n % 2 ^ (8 * k) := by
  induction k with
  | zero => simp [leB, valL, Int.emod_one]
  | succ k ih =>
    simp only [leB]
    rw [valL_append, ih, leB_length]
    simp only [valL, Int.mul_zero, Int.add_zero]
    rw [pow8, Int.mul_comm 256, mod_step n _ (pow8_pos k)]
theorem valL_leB' (n : Int) (k : Nat) (hn : 0 ≤ n ∧ n < 2 ^ (8 * k)) : valL (leB n k) = n := by
  rw [valL_leB n hn.1, Int.emod_eq_of_lt hn.1 hn.2]
theorem leB_cons (n : Int) (k : Nat) : leB n (k + 1) = n % 256 :: leB (n / 256) k := by
  induction k with
  | zero => simp [leB]
  | succ k ih =>
    rw [leB, ih]
    simp only [leB, List.cons_append]
    congr 2
    rw [pow8, Int.ediv_ediv_of_nonneg (by decide)]
theorem leB_valL : ∀ (xs : List Int), (∀ x ∈ xs, 0 ≤ x ∧ x < 256) → leB (valL xs) xs.length = xs := by
  intro xs
  induction xs with
  | nil => intro _; rfl
  | cons x r ih =>
    intro h
    have h1 := h x (by simp)
    rw [List.length_cons, leB_cons]
    simp only [valL]
    rw [show (x + 256 * valL r) % 256 = x by omega, show (x + 256 * valL r) / 256 = valL r by omega, ih (fun y hy => h y (by simp [hy]))]
theorem leB_inj {a b : Int} {k : Nat} (ha : 0 ≤ a ∧ a < 2 ^ (8 * k)) (hb : 0 ≤ b ∧ b < 2 ^ (8 * k)) (h : leB a k = leB b k) : a = b := by
  rw [← valL_leB' a k ha, ← valL_leB' b k hb, h]
theorem leB_noughts (n : Int) (k j : Nat) (hn : 0 ≤ n ∧ n < 2 ^ (8 * k)) : leB n (k + j) = leB n k ++ List.replicate j 0 := by
  induction j with
  | zero => simp
  | succ j ih =>
    rw [← Nat.add_assoc, leB, ih, List.replicate_succ', List.append_assoc]
    congr 2
    have : n / 2 ^ (8 * (k + j)) = 0 := Int.ediv_eq_zero_of_lt hn.1 (by
      have : (2 : Int) ^ (8 * k) ≤ 2 ^ (8 * (k + j)) := by
        have := Nat.pow_le_pow_right (n := 2) (by decide) (show 8 * k ≤ 8 * (k + j) by omega)
        exact_mod_cast this
      omega)
    rw [this]; rfl
theorem lim8 {n : Int} (h : n ≤ 18446744073709551615) : n < 2 ^ (8 * 8) := by
  have : (2 : Int) ^ (8 * 8) = 18446744073709551616 := by decide
  omega
theorem putOk8 {n : Int} (h : n ≤ 18446744073709551615) : putOk n 8 = true := by
  have := lim8 h
  simp [putOk, mayS]; exact this
theorem putB8 {n : Int} (h : n ≤ 18446744073709551615) : putB n 8 = leB n 8 := by unfold putB; rw [putOk8 h]; rfl
theorem putE8 {n : Int} (h : n ≤ 18446744073709551615) : putE n 8 = 0 := by unfold putE; rw [putOk8 h]; rfl
/-- What is written is read. -/
theorem splitL_fld : ∀ (ss ns : List Int), (∀ x ∈ ns, 0 ≤ x) → ss.length = ns.length → okN ss ns ns.length = true → splitL ss (catB ss ns ns.length) = some ns := by
  have catB_cons : ∀ (s n : Int) (ss ns : List Int) (k : Nat), catB (s :: ss) (n :: ns) (k + 1) = putB n s ++ catB ss ns k := by
    intro s n ss ns k
    induction k with
    | zero => simp [catB]
    | succ k ih => rw [catB, ih, catB]; simp
  have okN_cons : ∀ (s n : Int) (ss ns : List Int) (k : Nat), okN (s :: ss) (n :: ns) (k + 1) = (putOk n s && okN ss ns k) := by
    intro s n ss ns k
    induction k with
    | zero => simp [okN]
    | succ k ih => rw [okN, ih, okN]; simp [Bool.and_assoc]
  intro ss
  induction ss with
  | nil => intro ns _ hl _; cases ns with
    | nil => rfl
    | cons n r => simp at hl
  | cons s ss ih =>
    intro ns hn hl hk
    cases ns with
    | nil => simp at hl
    | cons n ns =>
      rw [List.length_cons, okN_cons, Bool.and_eq_true] at hk
      rw [List.length_cons, catB_cons]
      have hp := hk.1
      unfold putOk at hp
      rw [Bool.and_eq_true] at hp
      have h4 := mayS_iff.1 hp.1
      have hlt := of_decide_eq_true hp.2
      have hB : putB n s = leB n s.toNat := by unfold putB; rw [hk.1]; rfl
      have hlen : (putB n s).length = s.toNat := by rw [hB, leB_length]
      unfold splitL
      rw [if_pos ⟨hp.1, by rw [List.length_append, hlen]; omega⟩, List.drop_left' hlen, List.take_left' hlen, ih ns (fun x hx => hn x (by simp [hx])) (by simpa using hl) hk.2, hB, valL_leB' n s.toNat ⟨hn n (by simp), hlt⟩]
      rfl
theorem fld_split {ss ns : List Int} (hn : ∀ x ∈ ns, 0 ≤ x) (h : fldOk ss ns = true) : splV ss (fldB ss ns) = ns ∧ splE ss (fldB ss ns) = 0 := by
  have h' := h
  unfold fldOk at h'
  rw [Bool.and_eq_true] at h'
  have hs := splitL_fld ss ns hn (of_decide_eq_true h'.1) h'.2
  have hB : fldB ss ns = catB ss ns ns.length := by unfold fldB; rw [h]; rfl
  unfold splV splE
  rw [hB, hs]
  exact ⟨rfl, rfl⟩
end Go.Proofs.Ytcggdgcbhfgfiaa.K
