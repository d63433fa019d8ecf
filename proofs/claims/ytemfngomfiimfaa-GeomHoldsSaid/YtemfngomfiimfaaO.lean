/- Opening arguments. Seat-free. -/
import Derived.Test.YtemfngomfiimfaaR
import Derived.ProofKit
import Derived.OpenShut
set_option linter.unusedVariables false
set_option linter.unusedSimpArgs false
namespace Go.Proofs.Ytemfngomfiimfaa.K
open Go.RowKit Go.ChangeShapes Go.WideShapes Go.ChangeAt Go.ChangeMaps
/-- A slice of integers that came in: it reads as xs. -/
structure Ints (k : IntKind) (w : World) (A : Option Addr) (n c : Nat) (xs : List Int) : Prop where
  len : xs.length = n
  cap : n ≤ c
  most : c ≤ 9223372036854775807
  cells : Cells w A (xs.map (.int k))
  wf : ∀ x ∈ xs, (Lit.int k x).wf = true
theorem open_Ints {H : Type} {enc : TypeId × Value → H} {P : Program} {w : World} {base : Nat} {held : Bool} {t e : TypeId} {k : IntKind} {a : Option Addr} {len cap : Nat} {d : DataW H} {p : List MemPlace}
    (ht : P.underlying t = some (.slice e)) (he : P.underlying e = some (.int k)) (hc : P.cellsOf e = 1) (h : DataW.Trod enc P w base (fun _ => true) held t (.slice a len cap) d p) : ∃ xs, Ints k w a len cap xs := by
  obtain ⟨fuel, hf⟩ := h
  rcases open_ints ht he hc hf with ⟨hcs, _⟩ | ⟨x, l, c, zs, hcs, _, hl, hm, hz, _, hcell, hwz⟩
  · simp [Value.cells] at hcs
    obtain ⟨rfl, rfl, rfl⟩ := hcs
    exact ⟨[], rfl, Nat.le_refl _, by omega, .inl rfl, fun x hx => by cases hx⟩
  · simp [Value.cells] at hcs
    obtain ⟨rfl, rfl, rfl⟩ := hcs
    have hz' : zs.length = cap := by simpa using hz
    refine ⟨zs.take len, ?_, hl, by unfold maxLen at hm; omega, .inr ⟨_, rfl, fun j v hv => ?_⟩, fun x hx => hwz x (List.mem_of_mem_take hx)⟩
    · rw [List.length_take]; omega
    · rw [List.getElem?_map, List.getElem?_take] at hv
      split at hv
      · cases hq : zs[j]? with
        | none => rw [hq] at hv; cases hv
        | some z =>
          rw [hq] at hv
          simp only [Option.map_some, Option.some.injEq] at hv
          have hlt : j < zs.length := by
            rcases Nat.lt_or_ge j zs.length with h | h
            · exact h
            · rw [List.getElem?_eq_none h] at hq; cases hq
          rw [hcell j hlt, ← hv, List.getD_eq_getElem?_getD, hq]; rfl
      · cases hv
end Go.Proofs.Ytemfngomfiimfaa.K
