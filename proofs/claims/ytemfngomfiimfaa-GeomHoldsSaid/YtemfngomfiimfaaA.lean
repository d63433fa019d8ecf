/- Aggregates by value: segments of cells, parts, building, equality. Seat-free. -/
import Derived.Test.YtemfngomfiimfaaS
import Derived.Laws.StructEq
set_option linter.unusedVariables false
set_option linter.unusedSimpArgs false
namespace Go.Proofs.Ytemfngomfiimfaa.K
open Go.RowKit

/-! ### segments of cells -/
/-- At off, s cells of cs are vs. -/
def Seg (cs : List Value) (off s : Nat) (vs : List Value) : Prop := vs.length = s ∧ off + s ≤ cs.length ∧ (cs.drop off).take s = vs
theorem Seg.all (vs : List Value) : Seg vs 0 vs.length vs := ⟨rfl, by simp, by simp⟩
theorem Seg.all' {vs : List Value} {s : Nat} (h : vs.length = s) : Seg vs 0 s vs := by subst h; exact Seg.all vs
theorem Seg.head {vs r : List Value} {s : Nat} (h : vs.length = s) : Seg (vs ++ r) 0 s vs := by
  subst h; exact ⟨rfl, by simp, by simp⟩
theorem Seg.cons {x : Value} {r vs : List Value} {off s : Nat} (h : Seg r off s vs) : Seg (x :: r) (off + 1) s vs :=
  ⟨h.1, by have := h.2.1; simp; omega, h.2.2⟩
theorem Seg.one {x : Value} {r : List Value} : Seg (x :: r) 0 1 [x] := ⟨rfl, by simp, by simp⟩
theorem Seg.app {xs r vs : List Value} {off off' s : Nat} (hoff : off = xs.length + off') (h : Seg r off' s vs) : Seg (xs ++ r) off s vs := by
  subst hoff
  refine ⟨h.1, by have := h.2.1; simp; omega, ?_⟩
  rw [List.drop_append, List.drop_of_length_le (by omega), List.nil_append, show xs.length + off' - xs.length = off' by omega]
  exact h.2.2
theorem Seg.get {cs : List Value} {off : Nat} {v : Value} (h : Seg cs off 1 [v]) : cs[off]? = some v := by
  have := congrArg (·[0]?) h.2.2
  simpa using this
theorem Seg.of_get {cs : List Value} {off : Nat} {v : Value} (h : cs[off]? = some v) : Seg cs off 1 [v] := by
  have hlt : off < cs.length := by
    rcases Nat.lt_or_ge off cs.length with h1 | h1
    · exact h1
    · rw [List.getElem?_eq_none h1] at h; cases h
  refine ⟨rfl, by omega, ?_⟩
  rw [List.drop_eq_getElem_cons hlt]
  rw [List.getElem?_eq_getElem hlt] at h
  simp at h
  simp [h]
/-- A part of a part. -/
theorem Seg.sub {cs vs us : List Value} {off s o t : Nat} (h : Seg cs off s vs) (k : Seg vs o t us) : Seg cs (off + o) t us := by
  obtain ⟨h1, h2, h3⟩ := h
  obtain ⟨k1, k2, k3⟩ := k
  refine ⟨k1, by omega, ?_⟩
  rw [← k3, ← h3, List.drop_take, List.take_take, List.drop_drop]
  congr 1; omega
/-- vs laid over cs at off gives cs'. -/
def Put (cs : List Value) (off : Nat) (vs cs' : List Value) : Prop := off + vs.length ≤ cs.length ∧ cs.take off ++ vs ++ cs.drop (off + vs.length) = cs'
theorem Put.len {cs : List Value} {off : Nat} {vs cs' : List Value} (h : Put cs off vs cs') : cs'.length = cs.length := by
  rw [← h.2]; have := h.1; simp; omega
theorem Put.all {cs vs : List Value} (h : cs.length = vs.length) : Put cs 0 vs vs := ⟨by omega, by simp [h]⟩
theorem Put.head {old vs r : List Value} (h : old.length = vs.length) : Put (old ++ r) 0 vs (vs ++ r) := ⟨by simp; omega, by simp [List.drop_append, ← h]⟩
theorem Put.one {x v : Value} {r : List Value} : Put (x :: r) 0 [v] (v :: r) := ⟨by simp, by simp⟩
theorem Put.cons {x : Value} {r vs r' : List Value} {off : Nat} (h : Put r off vs r') : Put (x :: r) (off + 1) vs (x :: r') :=
  ⟨by have := h.1; simp; omega, by
    rw [List.take_succ_cons, show off + 1 + vs.length = (off + vs.length) + 1 by omega, List.drop_succ_cons, List.cons_append, List.cons_append, h.2]⟩
theorem Put.app {xs r vs r' : List Value} {off off' : Nat} (hoff : off = xs.length + off') (h : Put r off' vs r') : Put (xs ++ r) off vs (xs ++ r') := by
  subst hoff
  refine ⟨by have := h.1; simp; omega, ?_⟩
  rw [List.take_append, List.drop_append, List.take_of_length_le (by omega), List.drop_of_length_le (by omega), List.nil_append, ← h.2]
  simp [List.append_assoc, show xs.length + off' + vs.length - xs.length = off' + vs.length by omega]
theorem Put.set {cs : List Value} {i : Nat} {v : Value} (h : i < cs.length) : Put cs i [v] (cs.set i v) := by
  refine ⟨by simp; omega, ?_⟩
  rw [List.set_eq_take_append_cons_drop, if_pos h]; simp
/-- A part of a part is laid over. -/
theorem Put.sub {cs vs vs' us : List Value} {off s o : Nat} (h : Seg cs off s vs) (k : Put vs o us vs') : Put cs (off + o) us (cs.take off ++ vs' ++ cs.drop (off + s)) := by
  obtain ⟨h1, h2, h3⟩ := h
  obtain ⟨k1, k2⟩ := k
  refine ⟨by omega, ?_⟩
  have e1 : cs.take (off + o) = cs.take off ++ vs.take o := by
    rw [← h3, List.take_take, Nat.min_eq_left (by omega), List.take_add]
  have e2 : cs.drop (off + o + us.length) = vs.drop (o + us.length) ++ cs.drop (off + s) := by
    rw [← h3, List.drop_take, List.drop_drop]
    have : cs.drop (off + s) = (cs.drop (off + (o + us.length))).drop (s - (o + us.length)) := by rw [List.drop_drop]; congr 1; omega
    rw [this, List.take_append_drop]
    congr 1; omega
  rw [e1, e2, ← k2]
  simp [List.append_assoc]

/-! ### rows of parts of one size -/
def catC {α : Type} (f : α → List Value) (xs : List α) : List Value := xs.flatMap f
theorem catC_nil {α : Type} (f : α → List Value) : catC f [] = [] := rfl
theorem catC_cons {α : Type} (f : α → List Value) (x : α) (xs : List α) : catC f (x :: xs) = f x ++ catC f xs := by simp [catC]
theorem catC_append {α : Type} (f : α → List Value) (xs ys : List α) : catC f (xs ++ ys) = catC f xs ++ catC f ys := by simp [catC]
theorem catC_length {α : Type} {f : α → List Value} {s : Nat} (hs : ∀ x, (f x).length = s) (xs : List α) : (catC f xs).length = xs.length * s := by
  induction xs with
  | nil => simp [catC]
  | cons x r ih => rw [catC_cons, List.length_append, hs, ih, List.length_cons, Nat.add_mul]; omega
theorem catC_take {α : Type} {f : α → List Value} {s : Nat} (hs : ∀ x, (f x).length = s) (xs : List α) (i : Nat) : (catC f xs).take (i * s) = catC f (xs.take i) := by
  induction xs generalizing i with
  | nil => simp [catC]
  | cons x r ih =>
    cases i with
    | zero => simp [catC]
    | succ i =>
      rw [catC_cons, List.take_succ_cons, catC_cons, List.take_append, hs, show (i + 1) * s - s = i * s by rw [Nat.add_mul]; omega, ih, List.take_of_length_le (by rw [hs, Nat.add_mul]; omega)]
theorem catC_drop {α : Type} {f : α → List Value} {s : Nat} (hs : ∀ x, (f x).length = s) (xs : List α) (i : Nat) : (catC f xs).drop (i * s) = catC f (xs.drop i) := by
  induction xs generalizing i with
  | nil => simp [catC]
  | cons x r ih =>
    cases i with
    | zero => simp [catC]
    | succ i =>
      rw [catC_cons, List.drop_succ_cons, List.drop_append, hs, show (i + 1) * s - s = i * s by rw [Nat.add_mul]; omega, ih, List.drop_of_length_le (by rw [hs, Nat.add_mul]; omega), List.nil_append]
theorem Seg.cat {α : Type} {f : α → List Value} {s : Nat} (hs : ∀ x, (f x).length = s) {xs : List α} {i : Nat} {x : α} (hx : xs[i]? = some x) : Seg (catC f xs) (i * s) s (f x) := by
  have hlt : i < xs.length := by
    rcases Nat.lt_or_ge i xs.length with h | h
    · exact h
    · rw [List.getElem?_eq_none h] at hx; cases hx
  refine ⟨hs x, ?_, ?_⟩
  · rw [catC_length hs, ← Nat.succ_mul]; exact Nat.mul_le_mul_right _ hlt
  · rw [catC_drop hs, List.drop_eq_getElem_cons hlt, catC_cons]
    rw [List.getElem?_eq_getElem hlt] at hx
    simp at hx
    rw [hx]
    simp [hs]
theorem Put.cat {α : Type} {f : α → List Value} {s : Nat} (hs : ∀ x, (f x).length = s) {xs : List α} {i : Nat} (x : α) (hx : i < xs.length) : Put (catC f xs) (i * s) (f x) (catC f (xs.set i x)) := by
  refine ⟨?_, ?_⟩
  · rw [catC_length hs, hs, ← Nat.succ_mul]; exact Nat.mul_le_mul_right _ hx
  · rw [hs, ← Nat.succ_mul, catC_take hs, catC_drop hs, List.set_eq_take_append_cons_drop, if_pos hx, catC_append, catC_cons]
    simp
theorem catC_map {α : Type} (f : α → Value) (xs : List α) : catC (fun x => [f x]) xs = xs.map f := by simp [catC, List.flatMap_def]; induction xs <;> simp_all
theorem catC_inj {α : Type} {f : α → List Value} {s : Nat} (hs : ∀ x, (f x).length = s) (hi : ∀ x y, f x = f y → x = y) : ∀ {xs ys : List α}, xs.length = ys.length → catC f xs = catC f ys → xs = ys := by
  intro xs
  induction xs with
  | nil => intro ys hl _; cases ys <;> simp_all
  | cons x r ih =>
    intro ys hl h
    cases ys with
    | nil => simp at hl
    | cons y q =>
      rw [catC_cons, catC_cons] at h
      obtain ⟨h1, h2⟩ := List.append_inj h (by rw [hs, hs])
      rw [hi _ _ h1, ih (by simpa using hl) h2]

/-! ### parts of a value -/
def mkV (a : Bool) (xs : List Value) : Value := bif a then .agg xs.toArray else xs.headD undef
class TCell (P : Program) (T : TypeId) (a : outParam Bool) (s : outParam Nat) : Prop where
  part : ∀ (cs : List Value) (off : Nat) (vs : List Value) (w : World), Seg cs off s vs → (part T cs.toArray off).run P w = .ok (mkV a vs) w
  pos : a = false → s = 1
theorem extract_seg {cs vs : List Value} {off s : Nat} (h : Seg cs off s vs) : cs.toArray.extract off (off + s) = vs.toArray := by
  apply Array.toList_inj.1
  rw [Array.toList_extract]
  simp only [List.extract_eq_take_drop]
  have e : off + s - off = s := by omega
  rw [e]; exact h.2.2
instance (P : Program) (T : TypeId) [TScalar P T] : TCell P T false 1 := ⟨fun cs off vs w h => by
  obtain ⟨v, rfl⟩ : ∃ v, vs = [v] := List.length_eq_one_iff.1 h.1
  have := h.get
  simp only [Go.part, Sem.run_bind, run_isAgg_scalar (P := P) T w, Result.andThen_ok]
  simp [this, mkV], fun _ => rfl⟩
instance (P : Program) (T : TypeId) (s : Nat) [TAgg P T] [TSize P T s] : TCell P T true s := ⟨fun cs off vs w h => by
  simp only [Go.part, Sem.run_bind, run_isAgg_agg (P := P) T w, run_sizeOf' (P := P) T w, Result.andThen_ok, if_true, Sem.run_pure, extract_seg h]
  rfl, fun h => by cases h⟩

section
variable {P : Program} {ops : Array Oper} {Q : Exit → Act → World → Prop} {n : Nat} {E : Env} {w : World} {l : List Oper}
variable {dd : Option Tmp} {d : Nat} {ty : TypeId} {pos : String} {aft : Array Edge} {g : Option (Nat × Bool)}
theorem run_field {S i fo ft sz : Nat} [hF : TField P S i fo ft sz] {a : Bool} {s : Nat} [hC : TCell P ft a s] {cs vs : List Value} (h : Seg cs fo s vs) : (Instr.field S (.agg cs.toArray) i).run P w = .ok (mkV a vs) w := by
  have h1 := hF.out
  cases hu : P.underlying S with
  | none => rw [hu] at h1; cases h1
  | some dsc =>
    rw [hu] at h1
    cases dsc with
    | struct fs =>
      simp only at h1
      cases hf : fs[i]? with
      | none => rw [hf] at h1; cases h1
      | some f =>
        rw [hf] at h1
        simp only [Option.map_some, Option.some.injEq, Prod.mk.injEq] at h1
        obtain ⟨e1, e2⟩ := h1
        subst e1; subst e2
        simp only [Instr.field, Sem.run_bind, run_underlying hu, Result.andThen_ok, hf, asAgg, Sem.run_pure, hC.part cs _ vs w h]
    | _ => cases h1
/-- x.f, one cell. -/
theorem WL_field {S i fo ft sz : Nat} [hF : TField P S i fo ft sz] [TScalar P ft] {x : Operand} {cs : List Value} {v : Value} (hdn : Nat.ble (d + 1) n = true) (hw : wants ops E g = some true) (hx : evE E x = some (.agg cs.toArray))
    (hv : cs[fo]? = some v) (h : WL P ops Q l n ((d, v) :: E) w) : WL P ops Q (⟨some d, .field S x i, ty, pos, aft, g⟩ :: l) n E w := by
  refine WL_val rfl hdn hw _ w (fun a ha => ?_) h
  unfold execOp
  simp only [evE_eval ha hx, Sem.run_bind, run_field (P := P) (S := S) (i := i) (Seg.of_get hv), Result.andThen_ok]
  rfl
/-- x.f, several cells. -/
theorem WL_fieldA {S i fo ft sz : Nat} [hF : TField P S i fo ft sz] [TAgg P ft] {s : Nat} [TSize P ft s] {x : Operand} {cs vs : List Value} (hdn : Nat.ble (d + 1) n = true) (hw : wants ops E g = some true) (hx : evE E x = some (.agg cs.toArray))
    (hv : Seg cs fo s vs) (h : WL P ops Q l n ((d, .agg vs.toArray) :: E) w) : WL P ops Q (⟨some d, .field S x i, ty, pos, aft, g⟩ :: l) n E w := by
  refine WL_val rfl hdn hw _ w (fun a ha => ?_) h
  unfold execOp
  simp only [evE_eval ha hx, Sem.run_bind, run_field (P := P) (S := S) (i := i) hv, Result.andThen_ok]
  rfl
theorem run_index {T len e s : Nat} [hT : TArr P T len e s] {a : Bool} {s' : Nat} [hC : TCell P e a s'] {cs vs : List Value} {k : IntKind} {z : Int} {i : Nat} (hz : z = (i : Int)) (hi : i < len) (h : Seg cs (i * s) s' vs) : (Instr.index T (.agg cs.toArray) (.int k z)).run P w = .ok (mkV a vs) w := by
  subst hz
  have h1 : (i : Int) < (len : Int) := by omega
  simp only [Instr.index, asIntOf, Sem.run_bind, Sem.run_pure, Result.andThen_ok, run_underlying hT.out]
  simp [h1, arr_size (P := P) T w, hC.part cs _ vs w h]
/-- x[i] of an array by value, one cell. -/
theorem WL_index {T len e s : Nat} [hT : TArr P T len e s] [TScalar P e] {x y : Operand} {cs : List Value} {v : Value} {k : IntKind} {z : Int} {i : Nat} (hdn : Nat.ble (d + 1) n = true) (hw : wants ops E g = some true) (hx : evE E x = some (.agg cs.toArray)) (hy : evE E y = some (.int k z)) (hz : z = (i : Int)) (hi : i < len)
    (hv : cs[i * s]? = some v) (h : WL P ops Q l n ((d, v) :: E) w) : WL P ops Q (⟨some d, .index T x y, ty, pos, aft, g⟩ :: l) n E w := by
  refine WL_val rfl hdn hw _ w (fun a ha => ?_) h
  unfold execOp
  simp only [evE_eval ha hx, evE_eval ha hy, Sem.run_bind, run_index (P := P) (T := T) hz hi (Seg.of_get hv), Result.andThen_ok]
  rfl
theorem WL_indexA {T len e s : Nat} [hT : TArr P T len e s] [TAgg P e] {s' : Nat} [TSize P e s'] {x y : Operand} {cs vs : List Value} {k : IntKind} {z : Int} {i : Nat} (hdn : Nat.ble (d + 1) n = true) (hw : wants ops E g = some true) (hx : evE E x = some (.agg cs.toArray)) (hy : evE E y = some (.int k z)) (hz : z = (i : Int)) (hi : i < len)
    (hv : Seg cs (i * s) s' vs) (h : WL P ops Q l n ((d, .agg vs.toArray) :: E) w) : WL P ops Q (⟨some d, .index T x y, ty, pos, aft, g⟩ :: l) n E w := by
  refine WL_val rfl hdn hw _ w (fun a ha => ?_) h
  unfold execOp
  simp only [evE_eval ha hx, evE_eval ha hy, Sem.run_bind, run_index (P := P) (T := T) hz hi hv, Result.andThen_ok]
  rfl
end
end Go.Proofs.Ytemfngomfiimfaa.K
