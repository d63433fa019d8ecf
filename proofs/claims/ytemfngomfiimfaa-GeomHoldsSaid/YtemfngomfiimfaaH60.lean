/- Rules: nil checks, interfaces, type assertions, results out of an aggregate's cell and another one. Seat-free. -/
import Derived.Test.YtemfngomfiimfaaU1
set_option linter.unusedVariables false
set_option linter.unusedSimpArgs false
namespace Go.Proofs.Ytemfngomfiimfaa.K
open Go.RowKit
section
variable {P : Program} {ops : Array Oper} {Q : Exit → Act → World → Prop} {n : Nat} {E : Env} {w : World} {l : List Oper}
variable {dd : Option Tmp} {d : Nat} {ty : TypeId} {pos : String} {aft : Array Edge} {g : Option (Nat × Bool)}
theorem WL_nilP {x : Operand} {ad : Addr} (hdn : Nat.ble (d + 1) n = true) (hw : wants ops E g = some true) (hx : evE E x = some (.pointer (some ad)))
    (h : WL P ops Q l n ((d, .pointer (some ad)) :: E) w) : WL P ops Q (⟨some d, .nilCheck x, ty, pos, aft, g⟩ :: l) n E w := by
  refine WL_val rfl hdn hw _ w (fun a ha => ?_) h
  unfold execOp
  simp only [evE_eval ha hx]
  rfl
theorem WL_iface {T : TypeId} {x : Operand} {v : Value} (hdn : Nat.ble (d + 1) n = true) (hw : wants ops E g = some true) (hx : evE E x = some v) (hr : ∀ w, (Instr.makeInterface T v).run P w = .ok (.iface T v) w)
    (h : WL P ops Q l n ((d, .iface T v) :: E) w) : WL P ops Q (⟨some d, .makeInterface T x, ty, pos, aft, g⟩ :: l) n E w := by
  refine WL_val rfl hdn hw _ w (fun a ha => ?_) h
  unfold execOp
  simp only [evE_eval ha hx, Sem.run_bind, hr w, Result.andThen_ok]
  rfl
theorem WL_assert {T U : TypeId} {x : Operand} {v r : Value} {ok : Bool} (hdn : Nat.ble (d + 1) n = true) (hw : wants ops E g = some true) (hx : evE E x = some v) (hr : ∀ w, (Instr.typeAssert v T U ok).run P w = .ok r w)
    (h : WL P ops Q l n ((d, r) :: E) w) : WL P ops Q (⟨some d, .typeAssert x T U ok, ty, pos, aft, g⟩ :: l) n E w := by
  refine WL_val rfl hdn hw _ w (fun a ha => ?_) h
  unfold execOp
  simp only [evE_eval ha hx, Sem.run_bind, hr w, Result.andThen_ok]
  rfl
end
section
variable {P : Program} {ops : Array Oper} {C : World → Prop} {QX : Act → World → Prop} {n : Nat} {E : Env} {w : World} {bb xx : Bool} {i : Nat} {l : Plan}
theorem WX_nilP {o : Oper} {d : Nat} {x : Operand} {ad : Addr} (ho : nthO ops.toList i = some o) (hop : o.op = .nilCheck x) (hd : o.dst = some d) (hdn : Nat.ble (d + 1) n = true) (hw : wants ops E o.guard = some true) (hx : evE E x = some (.pointer (some ad)))
    (h : WX P ops C QX false l n ((d, .pointer (some ad)) :: E) w) : WX P ops C QX bb (.rd xx i l) n E w := by
  intro a ha
  refine XW_rd ?_
  refine ⟨o, nthO_get ho, .pointer (some ad), .inl ⟨wants_spec ha hw, fun w' _ => ?_⟩, ?_⟩
  · unfold execOp
    rw [hop]
    simp only [evE_eval ha hx]
    rfl
  · rw [hd]; exact h _ (ha.put (Nat.le_of_ble_eq_true hdn) _)
theorem WQ_bodyAC {fn : Func} {R : Ending → World → Prop} {t u : Tmp} {T U : TypeId} {s : Nat} [TAgg P T] [TSize P T s] [TScalar P U] {b c : Nat} {cs : List Value} {v' : Value} {T' U' : TypeId} {e : Exit} (he : e = .ret ∨ e = .normal) (hr : fn.results = #[.cell t T, .cell u U])
    (hv : lk E t = some (.pointer (some ⟨b, 0, none⟩))) (hv' : lk E u = some (.pointer (some ⟨c, 0, none⟩))) (hb : Blk w b cs T') (hl : cs.length = s) (hc : Blk w c [v'] U') (h : R (.returned (.tuple #[.agg cs.toArray, v'])) w) : WQ (bodyPost P fn R) e n E w := by
  intro a ha
  have h' : a.defers = [] ∧ ∃ v, (results fn a.tmps).run P w = .ok v w ∧ R (.returned v) w := by
    refine ⟨ha.2.1, _, ?_, h⟩
    have k1 := ha.2.2 t _ hv
    have k2 := ha.2.2 u _ hv'
    rw [Array.getD_eq_getD_getElem?] at k1 k2
    simp only [results, hr]
    simp [Sem.run_bind, Result.andThen, k1, k2, asAddr, run_loadVar_agg (P := P) (T := T) hl hb, run_loadVar_cell (P := P) (T := U) hc]
  rcases he with rfl | rfl <;> exact h'
end
end Go.Proofs.Ytemfngomfiimfaa.K
