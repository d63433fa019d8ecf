import Derived.Test.YtemfngomfiimfaaG3
set_option linter.unusedVariables false
set_option linter.unusedSimpArgs false
set_option maxHeartbeats 4000000
set_option maxRecDepth 20000
namespace Go.Proofs.Ytemfngomfiimfaa.K
open Go.RowKit
attribute [local irreducible] strEq strOfNums Calls WL WC WQ WX Code.wp wpList bodyPost
theorem takes_mono (m m' d : Int) (h : m ≤ m') (hd : 0 < d) : m / d ≤ m' / d := Int.ediv_le_ediv hd h
theorem takes_anti (m d d' : Int) (h0 : 0 ≤ m) (hd : 0 < d) (h : d ≤ d') : m / d' ≤ m / d := by
  have hq := Int.ediv_nonneg h0 (show (0 : Int) ≤ d' by omega)
  have h1 := Int.ediv_mul_le m (show d' ≠ 0 by omega)
  have h2 := Int.mul_le_mul_of_nonneg_left h hq
  exact Int.le_ediv_of_mul_le hd (by omega)
theorem takes_sum (a b d : Int) (hd : 0 < d) : (a + b) / d ≤ a / d + b / d + 1 := by
  have h1 := Int.lt_ediv_add_one_mul_self a hd
  have h2 := Int.lt_ediv_add_one_mul_self b hd
  have h3 : (a + b) / d < a / d + b / d + 2 := by
    refine Int.ediv_lt_of_lt_mul hd ?_
    rw [show a / d + b / d + 2 = (a / d + 1) + (b / d + 1) by omega, Int.add_mul]
    omega
  omega
theorem takesS_pos (m s : Int) (h : 4096 ≤ s ∧ s ≤ 65536) : takesS m s = max m 0 / (s - 2409) + 1 := by unfold takesS; rw [if_pos h]
theorem takesS_mono (m m' s : Int) (h : m ≤ m') (hs : 4096 ≤ s ∧ s ≤ 65536) : takesS m s ≤ takesS m' s := by
  rw [takesS_pos _ _ hs, takesS_pos _ _ hs]
  have := takes_mono (max m 0) (max m' 0) (s - 2409) (by omega) (by omega)
  omega
theorem takesS_anti (m s t : Int) (h : s ≤ t) (hs : 4096 ≤ s ∧ t ≤ 65536) : takesS m t ≤ takesS m s := by
  rw [takesS_pos _ _ (by omega), takesS_pos _ _ (by omega)]
  have := takes_anti (max m 0) (s - 2409) (t - 2409) (by omega) (by omega) (by omega)
  omega
theorem takesS_one (m s : Int) (hs : 4096 ≤ s ∧ s ≤ 65536) : 1 ≤ takesS m s := by
  rw [takesS_pos _ _ hs]
  have := Int.ediv_nonneg (show (0 : Int) ≤ max m 0 by omega) (show (0 : Int) ≤ s - 2409 by omega)
  omega
theorem takesS_sum (a b s : Int) (ha : 0 ≤ a) (hb : 0 ≤ b) (hs : 4096 ≤ s ∧ s ≤ 65536) : takesS (a + b) s ≤ takesS a s + takesS b s := by
  rw [takesS_pos _ _ hs, takesS_pos _ _ hs, takesS_pos _ _ hs, Int.max_eq_left (by omega), Int.max_eq_left ha, Int.max_eq_left hb]
  have := takes_sum a b (s - 2409) (by omega)
  omega
theorem zonesS_pos (b s : Int) (hb : 1 ≤ b ∧ b ≤ 64) (hs : 4096 ≤ s ∧ s ≤ 65536) : zonesS b s = 4 + 2 * takesS (104 * b + 328 * (leavesS b + 1)) s + takesS (104 * b + 2409) s + 1 := by unfold zonesS; rw [if_pos ⟨hb, hs⟩]
theorem zonesS_least (b s : Int) (hb : 1 ≤ b ∧ b ≤ 64) (hs : 4096 ≤ s ∧ s ≤ 65536) : 8 ≤ zonesS b s := by
  rw [zonesS_pos b s hb hs]
  have h1 := takesS_one (104 * b + 328 * (leavesS b + 1)) s hs
  have h2 := takesS_one (104 * b + 2409) s hs
  omega
theorem zonesS_mono (b c s : Int) (hbc : b ≤ c) (hb : 1 ≤ b ∧ c ≤ 64) (hs : 4096 ≤ s ∧ s ≤ 65536) : zonesS b s ≤ zonesS c s := by
  rw [zonesS_pos b s (by omega) hs, zonesS_pos c s (by omega) hs]
  have h1 := takesS_mono (104 * b + 328 * (leavesS b + 1)) (104 * c + 328 * (leavesS c + 1)) s (by unfold leavesS; omega) hs
  have h2 := takesS_mono (104 * b + 2409) (104 * c + 2409) s (by omega) hs
  omega
theorem zonesS_anti (b s t : Int) (hst : s ≤ t) (hb : 1 ≤ b ∧ b ≤ 64) (hs : 4096 ≤ s ∧ t ≤ 65536) : zonesS b t ≤ zonesS b s := by
  rw [zonesS_pos b s hb (by omega), zonesS_pos b t hb (by omega)]
  have h1 := takesS_anti (104 * b + 328 * (leavesS b + 1)) s t hst hs
  have h2 := takesS_anti (104 * b + 2409) s t hst hs
  omega
theorem zonesS_bd (b s : Int) : 0 ≤ zonesS b s ∧ zonesS b s ≤ 10000000 := by
  unfold zonesS
  split
  · rename_i h
    have h1 := takesS_bd (104 * b + 328 * (leavesS b + 1)) s (by unfold leavesS; omega)
    have h2 := takesS_bd (104 * b + 2409) s (by omega)
    omega
  · omega
theorem checkS_ok (z s b : Int) : (checkS z s b = 0 ↔ zonesS b s ≠ 0 ∧ zonesS b s ≤ z ∧ z ≤ 64) ∧ (checkS z s b = 0 ∨ checkS z s b = 180) := by
  unfold checkS
  split <;> omega

end Go.Proofs.Ytemfngomfiimfaa.K
