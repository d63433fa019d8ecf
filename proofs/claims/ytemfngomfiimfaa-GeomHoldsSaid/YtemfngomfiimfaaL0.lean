/- Rules: four results, and one out of memory ahead of four; a scope with a label that nothing jumps to. Seat-free. -/
import Derived.Test.YtemfngomfiimfaaU1
import Derived.Scope
set_option linter.unusedVariables false
set_option linter.unusedSimpArgs false
namespace Go.Proofs.Ytemfngomfiimfaa.K
open Go.RowKit
section
variable {P : Program} {Q : Exit → Act → World → Prop} {n : Nat} {E : Env} {w : World}
/-- Four results, and one out of memory ahead of four. -/
theorem WQ_bodyT4 {fn : Func} {R : Ending → World → Prop} {t1 t2 t3 t4 : Tmp} {v1 v2 v3 v4 : Value} {e : Exit} (he : e = .ret ∨ e = .normal) (hr : fn.results = #[.tmp t1, .tmp t2, .tmp t3, .tmp t4]) (h1 : lk E t1 = some v1) (h2 : lk E t2 = some v2) (h3 : lk E t3 = some v3) (h4 : lk E t4 = some v4)
    (h : R (.returned (.tuple #[v1, v2, v3, v4])) w) : WQ (bodyPost P fn R) e n E w := by
  intro a ha
  have h' : a.defers = [] ∧ ∃ v, (results fn a.tmps).run P w = .ok v w ∧ R (.returned v) w := by
    refine ⟨ha.2.1, _, ?_, h⟩
    have k1 := ha.2.2 t1 _ h1
    have k2 := ha.2.2 t2 _ h2
    have k3 := ha.2.2 t3 _ h3
    have k4 := ha.2.2 t4 _ h4
    rw [Array.getD_eq_getD_getElem?] at k1 k2 k3 k4
    simp only [results, hr]
    simp [Sem.run_bind, Result.andThen, k1, k2, k3, k4]
  rcases he with rfl | rfl <;> exact h'
theorem WQ_bodyC4 {fn : Func} {R : Ending → World → Prop} {t u1 u2 u3 u4 : Tmp} {T : TypeId} {s : Nat} [TAgg P T] [TSize P T s] {b : Nat} {cs : List Value} {T' : TypeId} {v1 v2 v3 v4 : Value} {e : Exit} (he : e = .ret ∨ e = .normal) (hr : fn.results = #[.cell t T, .tmp u1, .tmp u2, .tmp u3, .tmp u4]) (hv : lk E t = some (.pointer (some ⟨b, 0, none⟩))) (h1 : lk E u1 = some v1) (h2 : lk E u2 = some v2) (h3 : lk E u3 = some v3) (h4 : lk E u4 = some v4)
    (hb : Blk w b cs T') (hl : cs.length = s) (h : R (.returned (.tuple #[.agg cs.toArray, v1, v2, v3, v4])) w) : WQ (bodyPost P fn R) e n E w := by
  intro a ha
  have h' : a.defers = [] ∧ ∃ v, (results fn a.tmps).run P w = .ok v w ∧ R (.returned v) w := by
    refine ⟨ha.2.1, _, ?_, h⟩
    have k0 := ha.2.2 t _ hv
    have k1 := ha.2.2 u1 _ h1
    have k2 := ha.2.2 u2 _ h2
    have k3 := ha.2.2 u3 _ h3
    have k4 := ha.2.2 u4 _ h4
    rw [Array.getD_eq_getD_getElem?] at k0 k1 k2 k3 k4
    simp only [results, hr]
    simp [Sem.run_bind, Result.andThen, k0, k1, k2, k3, k4, asAddr, run_loadVar_agg (P := P) (T := T) hl hb]
  rcases he with rfl | rfl <;> exact h'
theorem WC_scope {c : Code} (h : WC P (Exit.noGoto Q) c n E w) : WC P Q (.scope c) n E w := fun a ha => wp_scope_straight (h a ha)
theorem WC_label {l : Nat} (h : WQ Q .normal n E w) : WC P Q (.label l) n E w := fun a ha => wp_label (h a ha)
theorem WQ_noGotoN (h : WQ Q .normal n E w) : WQ (Exit.noGoto Q) .normal n E w := fun a ha => h a ha
theorem WQ_noGotoR (h : WQ Q .ret n E w) : WQ (Exit.noGoto Q) .ret n E w := fun a ha => h a ha
theorem WQ_noGotoE {id : Nat} (h : WQ Q (.exit id) n E w) : WQ (Exit.noGoto Q) (.exit id) n E w := fun a ha => h a ha
end
end Go.Proofs.Ytemfngomfiimfaa.K
