/- Rules: make of structs. Seat-free. -/
import Derived.Test.YtemfngomfiimfaaU1
set_option linter.unusedVariables false
set_option linter.unusedSimpArgs false
namespace Go.Proofs.Ytemfngomfiimfaa.K
open Go.RowKit
section
variable {P : Program} {ops : Array Oper} {Q : Exit → Act → World → Prop} {n : Nat} {E : Env} {w : World} {l : List Oper}
variable {dd : Option Tmp} {d : Nat} {ty : TypeId} {pos : String} {aft : Array Edge} {g : Option (Nat × Bool)}
theorem WL_makeS {t e s b : Nat} [hT : TSlice P t e s b] {zs : List Value} [hz : TZero P e (.agg zs.toArray)] {x y : Operand} {m : Nat} {i i' : Int} {k k' : IntKind} {cs : List Value} (hdn : Nat.ble (d + 1) n = true) (hw : wants ops E g = some true) (hx : evE E x = some (.int k i)) (hy : evE E y = some (.int k' i')) (hi : i = (m : Int)) (hi' : i' = (m : Int))
    (hcs : (madeCells zs.toArray (m * s)).toList = cs) (hbytes : b * m ≤ 281474976710656) (h63 : m * s ≤ 4611686018427387904) (hm : m ≤ 4611686018427387904)
    (h : ∀ b' w', w.heap.size ≤ b' → b' < w'.heap.size → Ext w w' → Blk w' b' cs e → w'.ownsRow w.heap.size e s (.slice (some ⟨b', 0, none⟩) m m) m cs → WL P ops Q l n ((d, .slice (some ⟨b', 0, none⟩) m m) :: E) w') :
    WL P ops Q (⟨some d, .makeSlice t x y, ty, pos, aft, g⟩ :: l) n E w := by
  subst hi; subst hi'
  obtain ⟨inf, hinf, hs, hby⟩ := slice_info (P := P) t
  have hz0 : inf.zero = some (.agg zs.toArray) := by have := hz.out; rw [hinf] at this; exact this
  have hr := run_make (P := P) w t e inf (.agg zs.toArray) hT.out hinf hz0 k k' (m : Int) (m : Int) om_ om_ (by rw [hby]; have : ((b * m : Nat) : Int) ≤ ((281474976710656 : Nat) : Int) := Int.ofNat_le.2 hbytes; rw [Int.natCast_mul] at this; exact this) om_
  rw [Int.toNat_natCast, hs] at hr
  have hblk : Blk (w.alloc (.cells (madeCells zs.toArray (m * s)) e)) w.heap.size cs e := by
    unfold Blk
    rw [heap_alloc_new w _, ← hcs, Array.toArray_toList]
  have hown := World.ownsRow_lit (base := w.heap.size) (e := e) (size := s) w (madeCells zs.toArray (m * s)) m (Nat.le_refl _) (by unfold maxLen; omega) (by rw [size_madeCells])
  rw [hcs] at hown
  refine WL_val rfl hdn hw _ _ (fun a ha => ?_) (h w.heap.size _ (Nat.le_refl _) (by simp) (Ext.alloc w _) hblk hown)
  unfold execOp
  simp only [evE_eval ha hx, evE_eval ha hy, Sem.run_bind, hr, Result.andThen_ok]
  rfl
end
end Go.Proofs.Ytemfngomfiimfaa.K
