/- Chapter 03 (adler): check sums in plain words. Seat-free. -/
import Derived.Test.YtejdjpjaahfnaaaW
set_option linter.unusedVariables false
set_option linter.unusedSimpArgs false
namespace Go.Proofs.Ytejdjpjaahfnaaa.K
open Go.RowKit
/-- A sum's halves behind so many bytes. -/
def adLo (l : Int) (bs : List Int) : Nat → Int
  | 0 => l
  | i + 1 => (adLo l bs i + bs.getD i 0) % 65521
def adHi (h l : Int) (bs : List Int) : Nat → Int
  | 0 => h
  | i + 1 => adHi h l bs i + adLo l bs (i + 1)
def adS (s : Int) (bs : List Int) : Int :=
  (adHi (s / 65536 % 65521) (s % 65536 % 65521) bs bs.length % 65521) * 65536 + adLo (s % 65536 % 65521) bs bs.length % 65521
theorem adLo_in {l : Int} (bs : List Int) (hl : 0 ≤ l ∧ l < 65521) : ∀ i, 0 ≤ adLo l bs i ∧ adLo l bs i < 65521
  | 0 => hl
  | i + 1 => by unfold adLo; omega
theorem adHi_in {h l : Int} (bs : List Int) (hh : 0 ≤ h ∧ h < 65521) (hl : 0 ≤ l ∧ l < 65521) : ∀ i, 0 ≤ adHi h l bs i ∧ adHi h l bs i ≤ 65521 * (i + 1)
  | 0 => by unfold adHi; omega
  | i + 1 => by
    have h1 := adHi_in bs hh hl i
    have h2 := adLo_in bs hl (i + 1)
    unfold adHi
    have : ((i + 1 : Nat) : Int) = (i : Int) + 1 := by omega
    omega
end Go.Proofs.Ytejdjpjaahfnaaa.K
