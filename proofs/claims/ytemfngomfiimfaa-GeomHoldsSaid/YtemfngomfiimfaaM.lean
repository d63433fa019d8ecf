/- The rules of our own walk for operations that touch memory, calls, conversions. Seat-free. -/
import Derived.Test.YtemfngomfiimfaaK
import Derived.Laws.CopyRow
import Derived.Laws.CopyOwn
set_option linter.unusedVariables false
set_option linter.unusedSimpArgs false
namespace Go.Proofs.Ytemfngomfiimfaa.K
open Go.RowKit

/-! ### closed facts on types, found by instance -/
class TScalar (P : Program) (T : TypeId) : Prop where out : (match P.underlying T with | some (.struct _) | some (.array _ _) | none => false | _ => true) = true
class TAgg (P : Program) (T : TypeId) : Prop where out : (match P.underlying T with | some (.struct _) | some (.array _ _) => true | _ => false) = true
class TSize (P : Program) (T : TypeId) (s : outParam Nat) : Prop where out : (P.info? T).map (·.size) = some s
class TSlice (P : Program) (T : TypeId) (e s b : outParam Nat) : Prop where
  out : P.underlying T = some (.slice e)
  size : (P.info? e).map (fun i => (i.size, i.bytes)) = some (s, b)
class TField (P : Program) (S : TypeId) (i : Nat) (fo ft sz : outParam Nat) : Prop where
  out : (match P.underlying S with | some (.struct fs) => (fs[i]?).map (fun f => (f.offset, f.type)) | _ => none) = some (fo, ft)
  size : (P.info? ft).map (·.size) = some sz
  pos : 0 < sz
class TArr (P : Program) (T : TypeId) (len e s : outParam Nat) : Prop where
  out : P.underlying T = some (.array len e)
  size : (P.info? e).map (·.size) = some s
class TInt (P : Program) (T : TypeId) (k : outParam IntKind) : Prop where out : P.underlying T = some (.int k)
class TStr (P : Program) (T : TypeId) : Prop where out : P.underlying T = some .string
class TBool (P : Program) (T : TypeId) : Prop where out : P.underlying T = some .bool
class TZero (P : Program) (T : TypeId) (z : outParam Value) : Prop where out : (P.info? T).bind (·.zero) = some z
class TFn (P : Program) (f : FuncId) (fn : outParam Func) : Prop where
  out : P.funcs[f]? = some fn
  name : (fn.name == "runtime.NumGoroutine") = false
  body : fn.body.isSome = true

section types
variable {P : Program} {w : World}
theorem run_isAgg_scalar (T : TypeId) [h : TScalar P T] (w : World) : (isAgg T).run P w = .ok false w := by
  have h := h.out
  unfold isAgg
  cases hu : P.underlying T with
  | none => rw [hu] at h; cases h
  | some d => rw [Sem.run_bind, run_underlying hu w]; rw [hu] at h; cases d <;> simp_all
theorem run_isAgg_agg (T : TypeId) [h : TAgg P T] (w : World) : (isAgg T).run P w = .ok true w := by
  have h := h.out
  unfold isAgg
  cases hu : P.underlying T with
  | none => rw [hu] at h; cases h
  | some d => rw [Sem.run_bind, run_underlying hu w]; rw [hu] at h; cases d <;> simp_all
theorem run_sizeOf' (T : TypeId) {s : Nat} [h : TSize P T s] (w : World) : (sizeOf T).run P w = .ok s w := by
  have h := h.out
  cases hi : P.info? T with
  | none => rw [hi] at h; cases h
  | some i => rw [hi] at h; simp at h; simp [sizeOf, typeInfo, hi, h]
theorem run_zero (T : TypeId) {z : Value} [h : TZero P T z] (w : World) : (zeroValue T).run P w = .ok z w := by
  have h := h.out
  cases hi : P.info? T with
  | none => rw [hi] at h; cases h
  | some i => rw [hi] at h; simp at h; simp [zeroValue, typeInfo, hi, h]
theorem slice_size (T : TypeId) {e s b : Nat} [h : TSlice P T e s b] (w : World) : (sizeOf e).run P w = .ok s w := by
  have h := h.size
  cases hi : P.info? e with
  | none => rw [hi] at h; cases h
  | some i => rw [hi] at h; simp at h; simp [sizeOf, typeInfo, hi, h.1]
theorem slice_info (T : TypeId) {e s b : Nat} [h : TSlice P T e s b] : ∃ i, P.info? e = some i ∧ i.size = s ∧ i.bytes = b := by
  have h := h.size
  cases hi : P.info? e with
  | none => rw [hi] at h; cases h
  | some i => rw [hi] at h; simp at h; exact ⟨i, rfl, h.1, h.2⟩
theorem arr_size (T : TypeId) {n e s : Nat} [h : TArr P T n e s] (w : World) : (sizeOf e).run P w = .ok s w := by
  have h := h.size
  cases hi : P.info? e with
  | none => rw [hi] at h; cases h
  | some i => rw [hi] at h; simp at h; simp [sizeOf, typeInfo, hi, h]
end types

/-! ### memory: what is told of it -/
/-- From w to w' nothing that was there has turned. -/
abbrev Ext (w w' : World) : Prop := Below w.heap.size w w'
theorem Ext.refl' (w : World) : Ext w w := Below.refl _ _
theorem Ext.then {a b c : World} (h : Ext a b) (k : Ext b c) : Ext a c := h.trans (k.mono h.size)
/-- From w to w' nothing that was there has turned, but for block g. -/
abbrev ExtB (g : Nat) (w w' : World) : Prop := w.grownBy w' (some g)
theorem ExtB.ext {w0 w w' : World} {g : Nat} (h : Ext w0 w) (k : ExtB g w w') (hg : w0.heap.size ≤ g) : Ext w0 w' :=
  h.grown k h.size (fun k' e => by cases e; exact hg)
theorem Ext.alloc (w : World) (o : Obj) : Ext w (w.alloc o) := (Below.refl _ _).alloc (Nat.le_refl _) o
theorem Ext.drew (w : World) : Ext w w.drew := (Below.refl _ _).drew

/-- Block g holds these cells, of elements of type T; none is frozen. -/
def Blk (w : World) (g : Nat) (cs : List Value) (T : TypeId) : Prop := w.heap[g]? = some (.cells cs.toArray T (0, 0))
theorem Blk.lt {w : World} {g : Nat} {cs : List Value} {T : TypeId} (h : Blk w g cs T) : g < w.heap.size := (Array.getElem?_eq_some_iff.1 h).1
theorem Blk.ext {w w' : World} {g : Nat} {cs : List Value} {T : TypeId} (h : Blk w g cs T) (k : Ext w w') : Blk w' g cs T := (k.block g h.lt).trans h
theorem Blk.extB {w w' : World} {g g' : Nat} {cs : List Value} {T : TypeId} (h : Blk w g cs T) (k : ExtB g' w w') (hne : g ≠ g') : Blk w' g cs T :=
  (k.block g h.lt (by simpa using hne)).trans h
theorem Blk.cell {w : World} {g : Nat} {cs : List Value} {T : TypeId} (h : Blk w g cs T) (j : Nat) : w.cell? ⟨g, j, none⟩ = cs[j]? := by
  rw [cell_of_row w g j cs.toArray T (0, 0) h]; simp

/-- At address A these cells are read. -/
def Cells (w : World) (A : Option Addr) (cs : List Value) : Prop := cs = [] ∨ ∃ ad, A = some ad ∧ ∀ j v, cs[j]? = some v → w.cell? (ad.add j) = some v
theorem Cells.nil (w : World) (A : Option Addr) : Cells w A [] := .inl rfl
theorem Cells.ext {w w' : World} {A : Option Addr} {cs : List Value} (h : Cells w A cs) (k : Ext w w') : Cells w' A cs := by
  rcases h with h | ⟨ad, ha, hc⟩
  · exact .inl h
  · exact .inr ⟨ad, ha, fun j v hv => (k.cell (World.block_lt_of_cell? w _ (hc j v hv))).trans (hc j v hv)⟩
theorem add_block (a : Addr) (j : Nat) : (a.add j).block = a.block := by unfold Addr.add; split <;> rfl
theorem add_add (a : Addr) (i j : Nat) : (a.add i).add j = a.add (i + j) := by
  unfold Addr.add
  by_cases hi : i = 0 <;> by_cases hj : j = 0 <;> simp_all <;> omega
theorem add_plain' (g o j : Nat) : (⟨g, o, none⟩ : Addr).add j = ⟨g, o + j, none⟩ := by unfold Addr.add; split <;> simp_all
theorem Cells.extB {w w' : World} {A : Option Addr} {cs : List Value} {g : Nat} (h : Cells w A cs) (k : ExtB g w w') (hne : ∀ ad, A = some ad → ad.block ≠ g) : Cells w' A cs := by
  rcases h with h | ⟨ad, ha, hc⟩
  · exact .inl h
  · refine .inr ⟨ad, ha, fun j v hv => k.cell (hc j v hv) ?_⟩
    rw [add_block]; simpa using hne ad ha
theorem Cells.drop {w : World} {A : Option Addr} {cs : List Value} (h : Cells w A cs) (k : Nat) : Cells w (A.map (·.add k)) (cs.drop k) := by
  rcases h with h | ⟨ad, ha, hc⟩
  · left; simp [h]
  · right
    refine ⟨ad.add k, by simp [ha], fun j v hv => ?_⟩
    rw [add_add]
    exact hc _ _ (by simpa using hv)
theorem Cells.take {w : World} {A : Option Addr} {cs : List Value} (h : Cells w A cs) (k : Nat) : Cells w A (cs.take k) := by
  rcases h with h | ⟨ad, ha, hc⟩
  · left; simp [h]
  · right
    refine ⟨ad, ha, fun j v hv => hc _ _ ?_⟩
    rw [List.getElem?_take] at hv
    split at hv
    · exact hv
    · cases hv
theorem Blk.cells {w : World} {g : Nat} {cs : List Value} {T : TypeId} (h : Blk w g cs T) (off : Nat) : Cells w (some ⟨g, off, none⟩) (cs.drop off) :=
  .inr ⟨_, rfl, fun j v hv => by rw [add_plain', h.cell]; simpa using hv⟩
theorem own_cells {w : World} {base n : Nat} {e : TypeId} {size : Nat} {v : Value} {xs : List Value} (h : w.ownsRow base e size v n xs) : ∃ A c, v = .slice A n c ∧ n ≤ c ∧ Cells w A xs := by
  have h' := h
  obtain ⟨hl, h2⟩ := h
  rcases h2 with ⟨rfl, rfl⟩ | ⟨g, cap, cur, rfl, hb, hg, hnc, hcm, hcs, htake⟩
  · exact ⟨none, 0, rfl, Nat.le_refl _, .inl (List.eq_nil_of_length_eq_zero (by simpa using hl))⟩
  · exact ⟨_, cap, rfl, hnc, .inr ⟨_, rfl, h'.cells (g := g) rfl⟩⟩
/-- A slice's value that reads as these cells (s cells an element). -/
def Rd (w : World) (s : Nat) (v : Value) (cs : List Value) : Prop := ∃ A n c, v = .slice A n c ∧ n ≤ c ∧ cs.length = n * s ∧ Cells w A cs
theorem Rd.ext {w w' : World} {s : Nat} {v : Value} {cs : List Value} (h : Rd w s v cs) (k : Ext w w') : Rd w' s v cs := by
  obtain ⟨A, n, c, h1, h2, h3, h4⟩ := h
  exact ⟨A, n, c, h1, h2, h3, h4.ext k⟩
theorem Rd.of_own {w : World} {base n : Nat} {e : TypeId} {size : Nat} {v : Value} {xs : List Value} (h : w.ownsRow base e size v n xs) : Rd w size v xs := by
  obtain ⟨A, c, rfl, hc, hC⟩ := own_cells h
  exact ⟨A, n, c, rfl, hc, h.1, hC⟩

section ops
variable {P : Program} {ops : Array Oper} {Q : Exit → Act → World → Prop} {n : Nat} {E : Env} {w : World} {l : List Oper}
variable {dd : Option Tmp} {d : Nat} {ty : TypeId} {pos : String} {aft : Array Edge} {g : Option (Nat × Bool)}

/-! ### variables in memory -/
theorem WL_box {T : TypeId} {x : Operand} {v : Value} (hdn : Nat.ble (d + 1) n = true) (hw : wants ops E g = some true) (hx : evE E x = some v)
    (h : ∀ b w', w.heap.size ≤ b → b < w'.heap.size → Ext w w' → Blk w' b v.cells.toList T → WL P ops Q l n ((d, .pointer (some ⟨b, 0, none⟩)) :: E) w') :
    WL P ops Q (⟨some d, .box T x, ty, pos, aft, g⟩ :: l) n E w := by
  refine WL_val rfl hdn hw _ (w.alloc (.cells v.cells T)) (fun a ha => ?_) (h w.heap.size _ (Nat.le_refl _) (by simp) (Ext.alloc w _) (by unfold Blk; rw [Array.toArray_toList]; exact heap_alloc_new w _))
  unfold execOp
  simp only [evE_eval ha hx]
  rfl
theorem WL_alloc {T : TypeId} {z : Value} [TZero P T z] (hdn : Nat.ble (d + 1) n = true) (hw : wants ops E g = some true)
    (h : ∀ b w', w.heap.size ≤ b → b < w'.heap.size → Ext w w' → Blk w' b z.cells.toList T → WL P ops Q l n ((d, .pointer (some ⟨b, 0, none⟩)) :: E) w') :
    WL P ops Q (⟨some d, .alloc T, ty, pos, aft, g⟩ :: l) n E w := by
  refine WL_val rfl hdn hw _ (w.alloc (.cells z.cells T)) (fun a ha => ?_) (h w.heap.size _ (Nat.le_refl _) (by simp) (Ext.alloc w _) (by unfold Blk; rw [Array.toArray_toList]; exact heap_alloc_new w _))
  unfold execOp
  simp only [Instr.alloc, Sem.run_bind, run_zero (P := P) T w, Result.andThen_ok]
  rfl

theorem run_loadAt_scalar {T : TypeId} [TScalar P T] {a : Addr} {v : Value} (hc : w.cell? a = some v) : (Instr.loadAt T (.pointer (some a))).run P w = .ok v w := by
  simp only [Instr.loadAt, Instr.sureAddr, loadVar, Sem.run_bind, Sem.run_pure, Result.andThen_ok, run_isAgg_scalar (P := P) T w]
  simp [load, Sem.run, hc]
theorem run_loadAt_agg {T : TypeId} {s : Nat} [TAgg P T] [TSize P T s] {a : Addr} {vs : List Value} (hl : vs.length = s) (hc : ∀ j v, vs[j]? = some v → w.cell? (a.add j) = some v) : (Instr.loadAt T (.pointer (some a))).run P w = .ok (.agg vs.toArray) w := by
  have := run_loadCells_list (P := P) w a vs hc
  simp only [Instr.loadAt, Instr.sureAddr, loadVar, Sem.run_bind, Sem.run_pure, Result.andThen_ok, run_isAgg_agg (P := P) T w, run_sizeOf' (P := P) T w, if_true]
  rw [← hl, this]; rfl
/-- A scalar out of a variable in memory. -/
theorem WL_load {T : TypeId} [TScalar P T] {x : Operand} {b off : Nat} {cs : List Value} {T' : TypeId} {v : Value} (hdn : Nat.ble (d + 1) n = true) (hw : wants ops E g = some true) (hx : evE E x = some (.pointer (some ⟨b, off, none⟩)))
    (hb : Blk w b cs T') (hv : cs[off]? = some v) (h : WL P ops Q l n ((d, v) :: E) w) : WL P ops Q (⟨some d, .load T x, ty, pos, aft, g⟩ :: l) n E w := by
  refine WL_val rfl hdn hw v w (fun a ha => ?_) h
  unfold execOp
  simp only [evE_eval ha hx, Sem.run_bind, run_loadAt_scalar (P := P) (T := T) ((hb.cell off).trans hv), Result.andThen_ok]
  rfl
/-- A whole, or a part of several cells. -/
theorem WL_loadA {T : TypeId} {s : Nat} [TAgg P T] [TSize P T s] {x : Operand} {b off : Nat} {cs : List Value} {T' : TypeId} {vs : List Value} (hdn : Nat.ble (d + 1) n = true) (hw : wants ops E g = some true) (hx : evE E x = some (.pointer (some ⟨b, off, none⟩)))
    (hb : Blk w b cs T') (hv : (cs.drop off).take s = vs) (hl : vs.length = s) (h : WL P ops Q l n ((d, .agg vs.toArray) :: E) w) : WL P ops Q (⟨some d, .load T x, ty, pos, aft, g⟩ :: l) n E w := by
  refine WL_val rfl hdn hw _ w (fun a ha => ?_) h
  have hc : ∀ j v, vs[j]? = some v → w.cell? ((⟨b, off, none⟩ : Addr).add j) = some v := by
    intro j v hj
    rw [add_plain', hb.cell]
    rw [← hv, List.getElem?_take] at hj
    split at hj
    · simpa using hj
    · cases hj
  unfold execOp
  simp only [evE_eval ha hx, Sem.run_bind, run_loadAt_agg (P := P) (T := T) hl hc, Result.andThen_ok]
  rfl
/-- An element of a slice: of one cell. -/
theorem WL_loadE {T : TypeId} [TScalar P T] {x : Operand} {ad : Addr} {v : Value} (hdn : Nat.ble (d + 1) n = true) (hw : wants ops E g = some true) (hx : evE E x = some (.pointer (some ad)))
    (hv : w.cell? ad = some v) (h : WL P ops Q l n ((d, v) :: E) w) : WL P ops Q (⟨some d, .load T x, ty, pos, aft, g⟩ :: l) n E w := by
  refine WL_val rfl hdn hw v w (fun a ha => ?_) h
  unfold execOp
  simp only [evE_eval ha hx, Sem.run_bind, run_loadAt_scalar (P := P) (T := T) hv, Result.andThen_ok]
  rfl
/-- An element of several cells. -/
theorem WL_loadEA {T : TypeId} {s : Nat} [TAgg P T] [TSize P T s] {x : Operand} {ad : Addr} {vs : List Value} (hdn : Nat.ble (d + 1) n = true) (hw : wants ops E g = some true) (hx : evE E x = some (.pointer (some ad)))
    (hl : vs.length = s) (hc : ∀ j v, vs[j]? = some v → w.cell? (ad.add j) = some v) (h : WL P ops Q l n ((d, .agg vs.toArray) :: E) w) : WL P ops Q (⟨some d, .load T x, ty, pos, aft, g⟩ :: l) n E w := by
  refine WL_val rfl hdn hw _ w (fun a ha => ?_) h
  unfold execOp
  simp only [evE_eval ha hx, Sem.run_bind, run_loadAt_agg (P := P) (T := T) hl hc, Result.andThen_ok]
  rfl
theorem WL_fieldAddr {S i fo ft sz : Nat} [hF : TField P S i fo ft sz] {x : Operand} {b off : Nat} (hdn : Nat.ble (d + 1) n = true) (hw : wants ops E g = some true) (hx : evE E x = some (.pointer (some ⟨b, off, none⟩)))
    (h : WL P ops Q l n ((d, .pointer (some ⟨b, off + fo, none⟩)) :: E) w) : WL P ops Q (⟨some d, .fieldAddr S x i, ty, pos, aft, g⟩ :: l) n E w := by
  refine WL_val rfl hdn hw _ w (fun a ha => ?_) h
  have h1 := hF.out
  have h2 := hF.size
  have h3 := hF.pos
  unfold execOp
  simp only [evE_eval ha hx]
  cases hu : P.underlying S with
  | none => rw [hu] at h1; cases h1
  | some dsc =>
    rw [hu] at h1
    cases dsc with
    | struct fs =>
      simp only at h1
      cases hf : fs[i]? with
      | none => rw [hf] at h1; cases h1
      | some f =>
        rw [hf] at h1
        simp only [Option.map_some, Option.some.injEq, Prod.mk.injEq] at h1
        obtain ⟨e1, e2⟩ := h1
        cases hi : P.info? ft with
        | none => rw [hi] at h2; cases h2
        | some fi =>
          rw [hi] at h2
          simp only [Option.map_some, Option.some.injEq] at h2
          have hne : fi.size ≠ 0 := by omega
          simp only [Instr.fieldAt, Sem.run_bind, run_underlying hu, Result.andThen_ok, hf, Instr.sureAddr, Sem.run_pure, fieldPlace, sizeOf, typeInfo, e2, run_program, hi, hne, if_false, e1, add_plain']
    | _ => cases h1
theorem WL_fieldAddrE {S i fo ft sz : Nat} [hF : TField P S i fo ft sz] {x : Operand} {ad : Addr} (hdn : Nat.ble (d + 1) n = true) (hw : wants ops E g = some true) (hx : evE E x = some (.pointer (some ad)))
    (h : WL P ops Q l n ((d, .pointer (some (ad.add fo))) :: E) w) : WL P ops Q (⟨some d, .fieldAddr S x i, ty, pos, aft, g⟩ :: l) n E w := by
  refine WL_val rfl hdn hw _ w (fun a ha => ?_) h
  have h1 := hF.out
  have h2 := hF.size
  have h3 := hF.pos
  unfold execOp
  simp only [evE_eval ha hx]
  cases hu : P.underlying S with
  | none => rw [hu] at h1; cases h1
  | some dsc =>
    rw [hu] at h1
    cases dsc with
    | struct fs =>
      simp only at h1
      cases hf : fs[i]? with
      | none => rw [hf] at h1; cases h1
      | some f =>
        rw [hf] at h1
        simp only [Option.map_some, Option.some.injEq, Prod.mk.injEq] at h1
        obtain ⟨e1, e2⟩ := h1
        cases hi : P.info? ft with
        | none => rw [hi] at h2; cases h2
        | some fi =>
          rw [hi] at h2
          simp only [Option.map_some, Option.some.injEq] at h2
          have hne : fi.size ≠ 0 := by omega
          simp only [Instr.fieldAt, Sem.run_bind, run_underlying hu, Result.andThen_ok, hf, Instr.sureAddr, Sem.run_pure, fieldPlace, sizeOf, typeInfo, e2, run_program, hi, hne, if_false, e1]
    | _ => cases h1

theorem run_storeAt {T : TypeId} {s : Nat} [TSize P T s] {b off : Nat} {cs : List Value} {T' : TypeId} {v : Value} {vs : List Value} (hb : Blk w b cs T') (hv : v.cells.toList = vs) (hl : vs.length = s) (hfit : off + vs.length ≤ cs.length) (h1 : ∀ u ∈ vs, u.oneCell' = true) :
    (Instr.storeAt T (.pointer (some ⟨b, off, none⟩)) v).run P w = .ok () (w.setRow b (cs.take off ++ vs ++ cs.drop (off + vs.length)).toArray) := by
  have hsz : v.cells.size = s := by rw [← hl, ← hv]; simp
  have hst := run_storeCells_at (P := P) b off T' vs 0 cs.toArray w hb (by simpa using hfit) h1
  simp only [Instr.storeAt, Instr.sureAddr, storeVar, Sem.run_bind, Sem.run_pure, Result.andThen_ok, run_sizeOf' (P := P) T w, hsz, ne_eq, not_true_eq_false, if_false, hv]
  simpa using hst
theorem WL_store {T : TypeId} {s : Nat} [TSize P T s] {x y : Operand} {b off : Nat} {cs : List Value} {T' : TypeId} {v : Value} {vs : List Value} (hw : wants ops E g = some true) (hx : evE E x = some (.pointer (some ⟨b, off, none⟩))) (hy : evE E y = some v)
    (hb : Blk w b cs T') (hv : v.cells.toList = vs) (hl : vs.length = s) (hfit : off + vs.length ≤ cs.length) (h1 : ∀ u ∈ vs, u.oneCell' = true)
    (h : ∀ w', w.heap.size ≤ w'.heap.size → ExtB b w w' → Blk w' b (cs.take off ++ vs ++ cs.drop (off + vs.length)) T' → WL P ops Q l n E w') : WL P ops Q (⟨none, .store T x y, ty, pos, aft, g⟩ :: l) n E w := by
  refine WL_unit rfl hw (w.setRow b (cs.take off ++ vs ++ cs.drop (off + vs.length)).toArray) (fun a ha => ?_) (h _ (by simp) ?_ ?_)
  · unfold execOp
    simp only [evE_eval ha hx, evE_eval ha hy, Sem.run_bind, run_storeAt (P := P) (T := T) hb hv hl hfit h1, Result.andThen_ok]
    rfl
  · exact ⟨rfl, rfl, rfl, by simp, fun k _ hk => setRow_other w b k _ (fun e => hk (by simp [e]))⟩
  · exact setRow_heap w b _ _ T' _ hb

theorem one_int (k : IntKind) (m : Int) : ∀ u ∈ (Value.int k m).cells.toList, u.oneCell' = true := fun u hu => by simp [Value.cells] at hu; subst hu; rfl
theorem one_bool (b : Bool) : ∀ u ∈ (Value.bool b).cells.toList, u.oneCell' = true := fun u hu => by simp [Value.cells] at hu; subst hu; rfl
theorem one_slice (A : Option Addr) (m c : Nat) : ∀ u ∈ (Value.slice A m c).cells.toList, u.oneCell' = true := fun u hu => by simp [Value.cells] at hu; subst hu; rfl
theorem one_pointer (A : Option Addr) : ∀ u ∈ (Value.pointer A).cells.toList, u.oneCell' = true := fun u hu => by simp [Value.cells] at hu; subst hu; rfl

/-! ### calls -/
theorem run_callFunc {f : FuncId} {fn : Func} [h : TFn P f fn] (args : Array Value) (w : World) : (callFunc f args).run P w = .ok (.enter f args) w := by
  have h1 : fn.name ≠ "runtime.NumGoroutine" := by simpa using h.name
  obtain ⟨c, hc⟩ := Option.isSome_iff_exists.1 h.body
  simp [callFunc, h.out, h1, hc]
theorem WL_enter {o : Oper} (hd : o.dst = some d) (hdn : Nat.ble (d + 1) n = true) (hw : wants ops E o.guard = some true) {f : FuncId} {args : Array Value}
    (hx : ∀ a, Agr n E a → (execOp a.eval o).run P w = .ok (.enter f args) w) {R : Ending → World → Prop} (hC : Calls P f args w R)
    (h : ∀ e w', R e w' → ∃ v, e = .returned v ∧ WL P ops Q l n ((d, v) :: E) w') : WL P ops Q (o :: l) n E w := by
  intro a ha
  refine wpList_step fun K hK => ?_
  rw [if_pos (wants_spec ha hw)]
  unfold Oper.wp
  rw [hx a ha, Oper.upon_enter]
  refine hC.mono fun e w' hR => ?_
  obtain ⟨v, rfl, hl⟩ := h e w' hR
  show K (a.put o.dst v) w'
  rw [hd]
  exact hK _ _ (hl _ (ha.put (Nat.le_of_ble_eq_true hdn) _))
theorem WL_enterD {o : Oper} (hd : o.dst = none) (hw : wants ops E o.guard = some true) {f : FuncId} {args : Array Value}
    (hx : ∀ a, Agr n E a → (execOp a.eval o).run P w = .ok (.enter f args) w) {R : Ending → World → Prop} (hC : Calls P f args w R)
    (h : ∀ e w', R e w' → ∃ v, e = .returned v ∧ WL P ops Q l n E w') : WL P ops Q (o :: l) n E w := by
  intro a ha
  refine wpList_step fun K hK => ?_
  rw [if_pos (wants_spec ha hw)]
  unfold Oper.wp
  rw [hx a ha, Oper.upon_enter]
  refine hC.mono fun e w' hR => ?_
  obtain ⟨v, rfl, hl⟩ := h e w' hR
  show K (a.put o.dst v) w'
  rw [hd]
  exact hK _ _ (hl _ ha)
theorem call_run {f : FuncId} {fn : Func} [TFn P f fn] {as : Array Operand} {ts : Array TypeId} {args : List Value} (hargs : evL E as.toList = some args) {o : Oper} (ho : o.op = .call { callee := .value (.func f), args := as, argTypes := ts }) (a : Act) (ha : Agr n E a) :
    (execOp a.eval o).run P w = .ok (.enter f args.toArray) w := by
  obtain ⟨dst, op, type, pos, after, guard⟩ := o
  simp only at ho
  subst ho
  have e1 : as.map a.eval = args.toArray := by
    apply Array.toList_inj.1
    rw [Array.toList_map, evL_eval ha hargs]
  rw [execOp_call_go, e1]
  simpa using run_callFunc (P := P) (f := f) args.toArray w
theorem callv_run {t : Operand} {f : FuncId} {fn : Func} [TFn P f fn] {as : Array Operand} {ts : Array TypeId} {args : List Value} {cap : Array Value} (ht : evE E t = some (.func (.func f) #[] cap)) (hargs : evL E as.toList = some args) {o : Oper} (ho : o.op = .call { callee := .value t, args := as, argTypes := ts }) (a : Act) (ha : Agr n E a) :
    (execOp a.eval o).run P w = .ok (.enter f (args ++ cap.toList).toArray) w := by
  obtain ⟨dst, op, type, pos, after, guard⟩ := o
  simp only at ho
  subst ho
  have e1 : as.map a.eval = args.toArray := by
    apply Array.toList_inj.1
    rw [Array.toList_map, evL_eval ha hargs]
  have hr := run_callFunc (P := P) (f := f) (args ++ cap.toList).toArray w
  have e2 : (args ++ cap.toList).toArray = args.toArray ++ cap := by simp
  rw [e2] at hr ⊢
  unfold execOp
  simp only [resolve, e1, evE_eval ha ht, Deferred.ofValue, invoke, Sem.run_bind, Sem.run_pure, Result.andThen_ok]
  simpa using hr
theorem WL_call {f : FuncId} {fn : Func} [TFn P f fn] {as : Array Operand} {ts : Array TypeId} {args : List Value} (hdn : Nat.ble (d + 1) n = true) (hw : wants ops E g = some true) (hargs : evL E as.toList = some args)
    {R : Ending → World → Prop} (hC : Calls P f args.toArray w R) (h : ∀ e w', R e w' → ∃ v, e = .returned v ∧ WL P ops Q l n ((d, v) :: E) w') :
    WL P ops Q (⟨some d, .call { callee := .value (.func f), args := as, argTypes := ts }, ty, pos, aft, g⟩ :: l) n E w :=
  WL_enter rfl hdn hw (fun a ha => call_run hargs rfl a ha) hC h
theorem WL_callD {f : FuncId} {fn : Func} [TFn P f fn] {as : Array Operand} {ts : Array TypeId} {args : List Value} (hw : wants ops E g = some true) (hargs : evL E as.toList = some args)
    {R : Ending → World → Prop} (hC : Calls P f args.toArray w R) (h : ∀ e w', R e w' → ∃ v, e = .returned v ∧ WL P ops Q l n E w') :
    WL P ops Q (⟨none, .call { callee := .value (.func f), args := as, argTypes := ts }, ty, pos, aft, g⟩ :: l) n E w :=
  WL_enterD rfl hw (fun a ha => call_run hargs rfl a ha) hC h
theorem WL_callv {t : Operand} {f : FuncId} {fn : Func} [TFn P f fn] {as : Array Operand} {ts : Array TypeId} {args : List Value} {cap : Array Value} (hdn : Nat.ble (d + 1) n = true) (hw : wants ops E g = some true) (ht : evE E t = some (.func (.func f) #[] cap)) (hargs : evL E as.toList = some args)
    {R : Ending → World → Prop} {all : List Value} (hC : Calls P f all.toArray w R) (hall : args ++ cap.toList = all) (h : ∀ e w', R e w' → ∃ v, e = .returned v ∧ WL P ops Q l n ((d, v) :: E) w') :
    WL P ops Q (⟨some d, .call { callee := .value t, args := as, argTypes := ts }, ty, pos, aft, g⟩ :: l) n E w :=
  WL_enter rfl hdn hw (fun a ha => callv_run ht hargs rfl a ha) (hall ▸ hC) h
theorem WL_callvD {t : Operand} {f : FuncId} {fn : Func} [TFn P f fn] {as : Array Operand} {ts : Array TypeId} {args : List Value} {cap : Array Value} (hw : wants ops E g = some true) (ht : evE E t = some (.func (.func f) #[] cap)) (hargs : evL E as.toList = some args)
    {R : Ending → World → Prop} {all : List Value} (hC : Calls P f all.toArray w R) (hall : args ++ cap.toList = all) (h : ∀ e w', R e w' → ∃ v, e = .returned v ∧ WL P ops Q l n E w') :
    WL P ops Q (⟨none, .call { callee := .value t, args := as, argTypes := ts }, ty, pos, aft, g⟩ :: l) n E w :=
  WL_enterD rfl hw (fun a ha => callv_run ht hargs rfl a ha) (hall ▸ hC) h

/-! ### numbers -/
theorem WL_conv {s t : TypeId} {k k' k0 : IntKind} [TInt P t k] [TInt P s k0] {x : Operand} {m : Int} (hdn : Nat.ble (d + 1) n = true) (hw : wants ops E g = some true) (hx : evE E x = some (.int k' m)) 
    (h : WL P ops Q l n ((d, .int k (k.wrap m)) :: E) w) : WL P ops Q (⟨some d, .convert s t x, ty, pos, aft, g⟩ :: l) n E w := by
  refine WL_val rfl hdn hw _ w (fun a ha => ?_) h
  unfold execOp
  simp only [evE_eval ha hx, convert, Sem.run_bind, run_underlying (TInt.out (P := P) (T := s)), run_underlying (TInt.out (P := P) (T := t)), Result.andThen_ok, Conv.intToInt]
  rfl
theorem WL_div {op : BinOp} {t t' : TypeId} {x y : Operand} {k : IntKind} {a b : Int} (hdn : Nat.ble (d + 1) n = true) (hw : wants ops E g = some true) (hx : evE E x = some (.int k a)) (hy : evE E y = some (.int k b)) (hb : b ≠ 0) (hop : op = .quo)
    (h : WL P ops Q l n ((d, .int k (k.wrap (a.tdiv b))) :: E) w) : WL P ops Q (⟨some d, .binOp op t x y t', ty, pos, aft, g⟩ :: l) n E w := by
  subst hop
  refine WL_val rfl hdn hw _ w (fun a ha => ?_) h
  unfold execOp
  simp only [evE_eval ha hx, evE_eval ha hy]
  simp [eqGuard, binOp, Op.intDiv, hb]
theorem WL_rem {op : BinOp} {t t' : TypeId} {x y : Operand} {k : IntKind} {a b : Int} (hdn : Nat.ble (d + 1) n = true) (hw : wants ops E g = some true) (hx : evE E x = some (.int k a)) (hy : evE E y = some (.int k b)) (hb : b ≠ 0) (hop : op = .rem)
    (h : WL P ops Q l n ((d, .int k (a.tmod b)) :: E) w) : WL P ops Q (⟨some d, .binOp op t x y t', ty, pos, aft, g⟩ :: l) n E w := by
  subst hop
  refine WL_val rfl hdn hw _ w (fun a ha => ?_) h
  unfold execOp
  simp only [evE_eval ha hx, evE_eval ha hy]
  simp [eqGuard, binOp, Op.intDiv, hb]
theorem WL_shl {op : BinOp} {t t' : TypeId} {x y : Operand} {k k' : IntKind} {a b : Int} (hdn : Nat.ble (d + 1) n = true) (hw : wants ops E g = some true) (hx : evE E x = some (.int k a)) (hy : evE E y = some (.int k' b)) (hb : 0 ≤ b) (hop : op = .shl)
    (h : WL P ops Q l n ((d, .int k (k.wrap (a * 2 ^ min b.toNat k.bits))) :: E) w) : WL P ops Q (⟨some d, .binOp op t x y t', ty, pos, aft, g⟩ :: l) n E w := by
  subst hop
  refine WL_val rfl hdn hw _ w (fun a ha => ?_) h
  unfold execOp
  have : ¬ b < 0 := by omega
  simp only [evE_eval ha hx, evE_eval ha hy]
  simp [eqGuard, binOp, Op.shift, this]
theorem WL_shr {op : BinOp} {t t' : TypeId} {x y : Operand} {k k' : IntKind} {a b : Int} (hdn : Nat.ble (d + 1) n = true) (hw : wants ops E g = some true) (hx : evE E x = some (.int k a)) (hy : evE E y = some (.int k' b)) (hb : 0 ≤ b) (hop : op = .shr)
    (h : WL P ops Q l n ((d, .int k (a / 2 ^ min b.toNat k.bits)) :: E) w) : WL P ops Q (⟨some d, .binOp op t x y t', ty, pos, aft, g⟩ :: l) n E w := by
  subst hop
  refine WL_val rfl hdn hw _ w (fun a' ha => ?_) h
  unfold execOp
  have : ¬ b < 0 := by omega
  have e : a.fdiv (2 ^ min b.toNat k.bits) = a / 2 ^ min b.toNat k.bits := Int.fdiv_eq_ediv_of_nonneg _ (Int.le_of_lt (Int.pow_pos (by decide)))
  simp only [evE_eval ha hx, evE_eval ha hy]
  simp [eqGuard, binOp, Op.shift, this, e]
theorem WL_bits {op : BinOp} {t t' : TypeId} {x y : Operand} {k : IntKind} {a b : Int} (hdn : Nat.ble (d + 1) n = true) (hw : wants ops E g = some true) (hx : evE E x = some (.int k a)) (hy : evE E y = some (.int k b)) (hop : op = .and ∨ op = .or ∨ op = .xor ∨ op = .andNot)
    {v : Value} (hv : (Op.intBits op k a b) = pure v) (h : WL P ops Q l n ((d, v) :: E) w) : WL P ops Q (⟨some d, .binOp op t x y t', ty, pos, aft, g⟩ :: l) n E w := by
  refine WL_val rfl hdn hw v w (fun a' ha => ?_) h
  unfold execOp
  simp only [evE_eval ha hx, evE_eval ha hy]
  rcases hop with rfl | rfl | rfl | rfl <;> simp [eqGuard, binOp, hv]
theorem WL_beq {op : BinOp} {t t' : TypeId} [ht : TBool P t] {x y : Operand} {a b : Bool} (hdn : Nat.ble (d + 1) n = true) (hw : wants ops E g = some true) (hx : evE E x = some (.bool a)) (hy : evE E y = some (.bool b)) (hop : op = .eql)
    (h : WL P ops Q l n ((d, .bool (a == b)) :: E) w) : WL P ops Q (⟨some d, .binOp op t x y t', ty, pos, aft, g⟩ :: l) n E w := by
  subst hop
  refine WL_val rfl hdn hw _ w (fun a' ha => ?_) h
  unfold execOp
  have he := run_equalIn_bool' (P := P) w 9999 t a b ht.out
  have hb : (binOp .eql t (.bool a) (.bool b)).run P w = .ok (.bool (a == b)) w := by
    simp only [binOp]
    simp [Op.equal, Op.maxDepth, he]
  simp only [evE_eval ha hx, evE_eval ha hy]
  simp [eqGuard, hb]
theorem WL_bne {op : BinOp} {t t' : TypeId} [ht : TBool P t] {x y : Operand} {a b : Bool} (hdn : Nat.ble (d + 1) n = true) (hw : wants ops E g = some true) (hx : evE E x = some (.bool a)) (hy : evE E y = some (.bool b)) (hop : op = .neq)
    (h : WL P ops Q l n ((d, .bool (!(a == b))) :: E) w) : WL P ops Q (⟨some d, .binOp op t x y t', ty, pos, aft, g⟩ :: l) n E w := by
  subst hop
  refine WL_val rfl hdn hw _ w (fun a' ha => ?_) h
  unfold execOp
  have he := run_equalIn_bool' (P := P) w 9999 t a b ht.out
  have hb : (binOp .neq t (.bool a) (.bool b)).run P w = .ok (.bool (!(a == b))) w := by
    simp only [binOp]
    simp [Op.equal, Op.maxDepth, he]
  simp only [evE_eval ha hx, evE_eval ha hy]
  simp [eqGuard, hb]

/-! ### slices -/
theorem WL_len {t : TypeId} {e s b : Nat} [hT : TSlice P t e s b] {x : Operand} {A : Option Addr} {m c : Nat} (hdn : Nat.ble (d + 1) n = true) (hw : wants ops E g = some true) (hx : evE E x = some (.slice A m c))
    (h : WL P ops Q l n ((d, .int .i64 (m : Int)) :: E) w) : WL P ops Q (⟨some d, .call { callee := .builtin .len, args := #[x], argTypes := #[t] }, ty, pos, aft, g⟩ :: l) n E w := by
  refine WL_val rfl hdn hw _ w (fun a ha => ?_) h
  have hl : (Builtin.len_ #[t] ty #[.slice A m c]).run P w = .ok (goInt m) w := by simp [Builtin.len_, run_underlying hT.out]
  unfold execOp
  simp [resolve, invoke, builtin, evE_eval ha hx, hl, goInt]
theorem WL_indexAddr {t : TypeId} {e s b : Nat} [hT : TSlice P t e s b] {x y : Operand} {ad : Addr} {m c : Nat} {k : IntKind} {i : Int} (hdn : Nat.ble (d + 1) n = true) (hw : wants ops E g = some true) (hx : evE E x = some (.slice (some ad) m c)) (hy : evE E y = some (.int k i)) (h0 : 0 ≤ i) (h1 : i < (m : Int))
    (h : WL P ops Q l n ((d, .pointer (some (ad.add (i.toNat * s)))) :: E) w) : WL P ops Q (⟨some d, .indexAddr t x y, ty, pos, aft, g⟩ :: l) n E w := by
  refine WL_val rfl hdn hw _ w (fun a ha => ?_) h
  have hs := slice_size (P := P) t w
  have hi : (Instr.indexAt t (.slice (some ad) m c) (.int k i)).run P w = .ok (.pointer (some (ad.add (i.toNat * s)))) w := by
    simp only [Instr.indexAt, asIntOf, Sem.run_bind, Sem.run_pure, Result.andThen_ok, run_underlying hT.out]
    simp [h0, h1, hs]
  unfold execOp
  simp only [evE_eval ha hx, evE_eval ha hy, Sem.run_bind, hi, Result.andThen_ok]
  rfl
theorem WL_indexArr {t : TypeId} {len e s : Nat} [hT : TArr P t len e s] {x y : Operand} {b off : Nat} {k : IntKind} {i : Int} (hdn : Nat.ble (d + 1) n = true) (hw : wants ops E g = some true) (hx : evE E x = some (.pointer (some ⟨b, off, none⟩))) (hy : evE E y = some (.int k i)) (h0 : 0 ≤ i) (h1 : i < (len : Int))
    (h : WL P ops Q l n ((d, .pointer (some ⟨b, off + i.toNat * s, none⟩)) :: E) w) : WL P ops Q (⟨some d, .indexAddr t x y, ty, pos, aft, g⟩ :: l) n E w := by
  refine WL_val rfl hdn hw _ w (fun a ha => ?_) h
  have hs := arr_size (P := P) t w
  have hi : (Instr.indexAt t (.pointer (some ⟨b, off, none⟩)) (.int k i)).run P w = .ok (.pointer (some ⟨b, off + i.toNat * s, none⟩)) w := by
    simp only [Instr.indexAt, asIntOf, Sem.run_bind, Sem.run_pure, Result.andThen_ok, run_underlying hT.out, Instr.sureAddr]
    simp [h0, h1, hs, add_plain']
  unfold execOp
  simp only [evE_eval ha hx, evE_eval ha hy, Sem.run_bind, hi, Result.andThen_ok]
  rfl
end ops

/-! ### what kind of goal it is -/
section
variable {P : Program} {ops : Array Oper} {Q : Exit → Act → World → Prop} {n : Nat} {E : Env} {w : World} {l : List Oper}
variable {dd : Option Tmp} {d : Nat} {ty : TypeId} {pos : String} {aft : Array Edge} {g : Option (Nat × Bool)}
theorem WL_is (h : WL P ops Q l n E w) : WL P ops Q l n E w := h
theorem WC_is {c : Code} (h : WC P Q c n E w) : WC P Q c n E w := h
theorem WQ_is {e : Exit} (h : WQ Q e n E w) : WQ Q e n E w := h
theorem WL_isBin {op : BinOp} {t t' : TypeId} {x y : Operand} (h : WL P ops Q (⟨dd, .binOp op t x y t', ty, pos, aft, g⟩ :: l) n E w) : WL P ops Q (⟨dd, .binOp op t x y t', ty, pos, aft, g⟩ :: l) n E w := h
theorem WL_isCall {c : Call} (h : WL P ops Q (⟨dd, .call c, ty, pos, aft, g⟩ :: l) n E w) : WL P ops Q (⟨dd, .call c, ty, pos, aft, g⟩ :: l) n E w := h
theorem WL_decided {o : Oper} (hw : wants ops E o.guard = some true) (h : WL P ops Q (o :: l) n E w) : WL P ops Q (o :: l) n E w := h
theorem WL_isLoad {T : TypeId} {x : Operand} (h : WL P ops Q (⟨some d, .load T x, ty, pos, aft, g⟩ :: l) n E w) : WL P ops Q (⟨some d, .load T x, ty, pos, aft, g⟩ :: l) n E w := h
theorem WL_isStore {T : TypeId} {x y : Operand} (h : WL P ops Q (⟨none, .store T x y, ty, pos, aft, g⟩ :: l) n E w) : WL P ops Q (⟨none, .store T x y, ty, pos, aft, g⟩ :: l) n E w := h
theorem WL_isIndexAddr {T : TypeId} {x y : Operand} (h : WL P ops Q (⟨some d, .indexAddr T x y, ty, pos, aft, g⟩ :: l) n E w) : WL P ops Q (⟨some d, .indexAddr T x y, ty, pos, aft, g⟩ :: l) n E w := h
theorem WL_isFieldAddr {T : TypeId} {x : Operand} {i : Nat} (h : WL P ops Q (⟨some d, .fieldAddr T x i, ty, pos, aft, g⟩ :: l) n E w) : WL P ops Q (⟨some d, .fieldAddr T x i, ty, pos, aft, g⟩ :: l) n E w := h
theorem WL_isField {T : TypeId} {x : Operand} {i : Nat} (h : WL P ops Q (⟨some d, .field T x i, ty, pos, aft, g⟩ :: l) n E w) : WL P ops Q (⟨some d, .field T x i, ty, pos, aft, g⟩ :: l) n E w := h
theorem WL_isIndex {T : TypeId} {x y : Operand} (h : WL P ops Q (⟨some d, .index T x y, ty, pos, aft, g⟩ :: l) n E w) : WL P ops Q (⟨some d, .index T x y, ty, pos, aft, g⟩ :: l) n E w := h
theorem WL_isApp {as : Array Operand} {ts : Array TypeId} (h : WL P ops Q (⟨dd, .call { callee := .builtin .append, args := as, argTypes := ts }, ty, pos, aft, g⟩ :: l) n E w) : WL P ops Q (⟨dd, .call { callee := .builtin .append, args := as, argTypes := ts }, ty, pos, aft, g⟩ :: l) n E w := h
theorem WL_isFn {v : Operand} {as : Array Operand} {ts : Array TypeId} (h : WL P ops Q (⟨dd, .call { callee := .value v, args := as, argTypes := ts }, ty, pos, aft, g⟩ :: l) n E w) : WL P ops Q (⟨dd, .call { callee := .value v, args := as, argTypes := ts }, ty, pos, aft, g⟩ :: l) n E w := h
theorem WL_isB {op : BinOp} {t t' : TypeId} {x y : Operand} (o : BinOp) (ho : op = o) (h : WL P ops Q (⟨dd, .binOp op t x y t', ty, pos, aft, g⟩ :: l) n E w) : WL P ops Q (⟨dd, .binOp op t x y t', ty, pos, aft, g⟩ :: l) n E w := h
theorem WL_isSlice {t : TypeId} {x : Operand} {lo hi mx : Option Operand} (h : WL P ops Q (⟨dd, .slice t x lo hi mx, ty, pos, aft, g⟩ :: l) n E w) : WL P ops Q (⟨dd, .slice t x lo hi mx, ty, pos, aft, g⟩ :: l) n E w := h
theorem WL_isConv {s t : TypeId} {x : Operand} (h : WL P ops Q (⟨dd, .convert s t x, ty, pos, aft, g⟩ :: l) n E w) : WL P ops Q (⟨dd, .convert s t x, ty, pos, aft, g⟩ :: l) n E w := h
end
end Go.Proofs.Ytemfngomfiimfaa.K
