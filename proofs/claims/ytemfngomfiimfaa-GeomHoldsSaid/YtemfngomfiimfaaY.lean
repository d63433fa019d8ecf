/- What arguments that came in are, in plain words: bounds, integers, zones. Seat-free. -/
import Derived.Test.YtemfngomfiimfaaTB
import Derived.Test.YtemfngomfiimfaaQ
set_option linter.unusedVariables false
set_option linter.unusedSimpArgs false
namespace Go.Proofs.Ytemfngomfiimfaa.K
open Go.RowKit Go.ChangeShapes Go.WideShapes Go.ChangeAt Go.ChangeMaps Go.Deep
theorem wf_u8 {x : Int} (h : (Lit.int .u8 x).wf = true) : 0 ≤ x ∧ x < 256 := u8_lt h
theorem wf_i64 {x : Int} (h : (Lit.int .i64 x).wf = true) : -9223372036854775808 ≤ x ∧ x ≤ 9223372036854775807 := by
  simp [Lit.wf, IntKind.min, IntKind.max, IntKind.signed, IntKind.bits] at h
  omega
theorem wf_u64 {x : Int} (h : (Lit.int .u64 x).wf = true) : 0 ≤ x ∧ x ≤ 18446744073709551615 := by
  simp [Lit.wf, IntKind.min, IntKind.max, IntKind.signed, IntKind.bits] at h
  omega
theorem Ints.u8 {w : World} {A : Option Addr} {n c : Nat} {xs : List Int} (h : Ints .u8 w A n c xs) : ∀ x ∈ xs, 0 ≤ x ∧ x < 256 := fun x hx => wf_u8 (h.wf x hx)
theorem Ints.i64 {w : World} {A : Option Addr} {n c : Nat} {xs : List Int} (h : Ints .i64 w A n c xs) : ∀ x ∈ xs, -9223372036854775808 ≤ x ∧ x ≤ 9223372036854775807 := fun x hx => wf_i64 (h.wf x hx)
theorem Ints.u64 {w : World} {A : Option Addr} {n c : Nat} {xs : List Int} (h : Ints .u64 w A n c xs) : ∀ x ∈ xs, 0 ≤ x ∧ x ≤ 18446744073709551615 := fun x hx => wf_u64 (h.wf x hx)
theorem ints_of {k : IntKind} {w : World} : ∀ {n : Nat} {zs : List Value}, zs.length = n * 1 → (∀ i, i < n → RInt k w ((zs.drop (i * 1)).take 1)) → ∃ xs : List Int, zs = xs.map (.int k) ∧ xs.length = n ∧ ∀ x ∈ xs, (Lit.int k x).wf = true := by
  intro n zs hl h
  exact rarr_ints ⟨hl, h⟩
theorem RSl.ints {k : IntKind} {w : World} {cs : List Value} (h : RSl 1 (RInt k) w cs) : ∃ A m c xs, cs = [.slice A m c] ∧ Ints k w A m c xs := by
  obtain ⟨A, m, c, zs, rfl, h1, h2, h3, h4, h5⟩ := h
  obtain ⟨xs, rfl, h6, h7⟩ := ints_of h3 h5
  exact ⟨A, m, c, xs, rfl, h6, h1, h2, h4, h7⟩
/-- A zone (or another struct of a number, bytes, a number) that came in. -/
structure Zin (w : World) (s : Int) (A : Option Addr) (m c : Nat) (l : Int) (xs : List Int) : Prop where
  ints : Ints .u8 w A m c xs
  sb : -9223372036854775808 ≤ s ∧ s ≤ 9223372036854775807
  lb : -9223372036854775808 ≤ l ∧ l ≤ 9223372036854775807
theorem open_zo {w : World} {cs : List Value} (h : RStr 3 [(0, 1, RInt .i64), (1, 1, RSl 1 (RInt .u8)), (2, 1, RInt .i64)] w cs) : ∃ s A m c l xs, cs = [.int .i64 s, .slice A m c, .int .i64 l] ∧ Zin w s A m c l xs := by
  obtain ⟨hl, h1, h2, h3, _⟩ := h
  match cs, hl with
  | [a, b, d], _ =>
    obtain ⟨s, hs, ws⟩ := h1
    obtain ⟨A, m, c, xs, hx, hI⟩ := RSl.ints h2
    obtain ⟨l, hl, wl⟩ := h3
    simp at hs hx hl
    subst hs; subst hx; subst hl
    exact ⟨s, A, m, c, l, xs, rfl, hI, wf_i64 ws, wf_i64 wl⟩
end Go.Proofs.Ytemfngomfiimfaa.K
