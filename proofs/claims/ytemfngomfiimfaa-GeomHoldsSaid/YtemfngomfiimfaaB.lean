/- Rules for structs by value: built, loaded and stored whole, returned out of memory; slice == nil; cuts from nought; appends to what is empty or full. Seat-free. -/
import Derived.Test.YtemfngomfiimfaaX
import Derived.Test.YtemfngomfiimfaaA
import Derived.Laws.Tables
set_option linter.unusedVariables false
set_option linter.unusedSimpArgs false
namespace Go.Proofs.Ytemfngomfiimfaa.K
open Go.RowKit

/-! ### lists of cells, cell by cell -/
def setC : List Value → Nat → Value → List Value
  | [], _, _ => []
  | _ :: r, 0, v => v :: r
  | x :: r, i + 1, v => x :: setC r i v
theorem setC_spec : ∀ {cs : List Value} {i : Nat} {v : Value}, i < cs.length → setC cs i v = cs.take i ++ [v] ++ cs.drop (i + 1)
  | [], i, v, h => by simp at h
  | x :: r, 0, v, h => by simp [setC]
  | x :: r, i + 1, v, h => by rw [setC, setC_spec (by simpa using h)]; simp
def setAts : List Value → Nat → List Value → List Value
  | cs, _, [] => cs
  | cs, i, v :: vs => setAts (setC cs i v) (i + 1) vs
theorem setC_length : ∀ (cs : List Value) (i : Nat) (v : Value), (setC cs i v).length = cs.length
  | [], _, _ => rfl
  | _ :: _, 0, _ => rfl
  | x :: r, i + 1, v => by rw [setC, List.length_cons, setC_length, List.length_cons]
theorem setC_set : ∀ (cs : List Value) (i : Nat) (v : Value), setC cs i v = cs.set i v
  | [], _, _ => rfl
  | _ :: _, 0, _ => rfl
  | x :: r, i + 1, v => by rw [setC, setC_set]; rfl
theorem setAts_fold : ∀ (vs cs : List Value) (off k : Nat), ((vs.zipIdx k).foldl (fun (cs : Array Value) (p : Value × Nat) => cs.setIfInBounds (off + p.2) p.1) cs.toArray) = (setAts cs (off + k) vs).toArray
  | [], cs, off, k => rfl
  | v :: vs, cs, off, k => by
    rw [List.zipIdx_cons, List.foldl_cons, setAts]
    have := setAts_fold vs (setC cs (off + k) v) off (k + 1)
    rw [show off + (k + 1) = off + k + 1 by omega] at this
    rw [← this, setC_set]
    congr 1
    simp
def nthP : List (Nat × Nat) → Nat → Option (Nat × Nat)
  | [], _ => none
  | x :: _, 0 => some x
  | _ :: r, i + 1 => nthP r i
theorem nthP_eq : ∀ (l : List (Nat × Nat)) (i : Nat), nthP l i = l[i]?
  | [], i => by simp [nthP]
  | x :: r, 0 => by simp [nthP]
  | x :: r, i + 1 => by simp [nthP, nthP_eq r i]
/-- A struct's cells, its parts laid in. -/
def fillS (pl : List (Nat × Nat)) : List Value → List (Nat × Value) → Option (List Value)
  | cs, [] => some cs
  | cs, (i, v) :: r => match nthP pl i with
    | some (off, s) => bif Nat.beq v.cells.toList.length s && Nat.ble (off + s) cs.length then fillS pl (setAts cs off v.cells.toList) r else none
    | none => none
theorem fill_fillS (pl : List (Nat × Nat)) : ∀ (parts : List (Nat × Value)) (cs out : List Value), fillS pl cs parts = some out → Instr.fill (pl.toArray[·]?) cs.toArray parts = some out.toArray := by
  intro parts
  induction parts with
  | nil => intro cs out h; simp [fillS] at h; simp [Instr.fill, h]
  | cons p r ih =>
    intro cs out h
    obtain ⟨i, v⟩ := p
    unfold fillS at h
    rw [nthP_eq] at h
    cases hp : pl[i]? with
    | none => rw [hp] at h; cases h
    | some q =>
      obtain ⟨off, s⟩ := q
      rw [hp] at h
      simp only at h
      cases hb : (Nat.beq v.cells.toList.length s && Nat.ble (off + s) cs.length) with
      | false => rw [hb] at h; cases h
      | true =>
        rw [hb] at h
        simp only [cond_true] at h
        rw [Bool.and_eq_true] at hb
        have h1 := Nat.eq_of_beq_eq_true hb.1
        have h2 := Nat.le_of_ble_eq_true hb.2
        rw [Array.length_toList] at h1
        unfold Instr.fill
        have e0 : pl.toArray[i]? = some (off, s) := by simpa using hp
        simp only [e0]
        have hcond : (decide (v.cells.size ≠ s) || decide (off + v.cells.size > cs.toArray.size)) = false := by simp [h1]; omega
        simp only [hcond, Bool.false_eq_true, if_false]
        have hf := setAts_fold v.cells.toList cs off 0
        have e1 : v.cells.zipIdx.foldl (fun cs (x : Value × Nat) => match x with | (c, j) => cs.setIfInBounds (off + j) c) cs.toArray = (v.cells.toList.zipIdx 0).foldl (fun cs (p : Value × Nat) => cs.setIfInBounds (off + p.2) p.1) cs.toArray := by
          rw [← Array.foldl_toList]; simp [Array.toList_zipIdx]
        rw [Nat.add_zero] at hf
        have e2 := e1.trans hf
        simp only [e2]
        exact ih _ _ h
class TBld (P : Program) (T : TypeId) (z : outParam (List Value)) (pl : outParam (List (Nat × Nat))) : Prop where
  zero : ((P.info? T).bind (·.zero)).map (·.cells.toList) = some z
  out : (match P.underlying T with | some (.struct fs) => fs.toList.mapM (fun f => (P.info? f.type).map (fun i => (f.offset, i.size))) | _ => none) = some pl

section
variable {P : Program} {ops : Array Oper} {Q : Exit → Act → World → Prop} {n : Nat} {E : Env} {w : World} {l : List Oper}
variable {dd : Option Tmp} {d : Nat} {ty : TypeId} {pos : String} {aft : Array Edge} {g : Option (Nat × Bool)}
theorem run_buildS {T : TypeId} {z : List Value} {pl : List (Nat × Nat)} [hB : TBld P T z pl] {ps : List (Nat × Value)} {cs : List Value} (hf : fillS pl z ps = some cs) : (Instr.build T ps.toArray).run P w = .ok (.agg cs.toArray) w := by
  refine run_build (P := P) w T ps.toArray cs.toArray ?_
  have h1 := hB.zero
  have h2 := hB.out
  unfold Program.built
  cases hi : P.info? T with
  | none => rw [hi] at h1; cases h1
  | some it =>
    rw [hi] at h1
    cases hu : P.underlying T with
    | none => rw [hu] at h2; cases h2
    | some dsc =>
      rw [hu] at h2
      cases dsc <;> simp only at h2 <;> try (cases h2; done)
      rename_i fs
      cases hz : it.zero with
      | none => simp [hz] at h1
      | some zz =>
        simp [hz] at h1
        simp only [hz, h2]
        have e : zz.cells = z.toArray := by rw [← h1]
        rw [e]
        exact fill_fillS pl ps z cs hf
theorem WL_build {T : TypeId} {z : List Value} {pl : List (Nat × Nat)} [hB : TBld P T z pl] {parts : Array (Nat × Operand)} {ps : List (Nat × Value)} {cs : List Value} (hdn : Nat.ble (d + 1) n = true) (hw : wants ops E g = some true) (hp : evP E parts.toList = some ps) (hf : fillS pl z ps = some cs)
    (h : WL P ops Q l n ((d, .agg cs.toArray) :: E) w) : WL P ops Q (⟨some d, .build T parts, ty, pos, aft, g⟩ :: l) n E w := by
  refine WL_val rfl hdn hw _ w (fun a ha => ?_) h
  have e1 : parts.map (fun (x : Nat × Operand) => match x with | (i, x) => (i, a.eval x)) = ps.toArray := by
    apply Array.toList_inj.1
    rw [Array.toList_map]
    exact evP_eval ha hp
  unfold execOp
  simp only [e1, Sem.run_bind, run_buildS (P := P) (T := T) hf, Result.andThen_ok]
  rfl
theorem run_loadVar_agg {T : TypeId} {s : Nat} [TAgg P T] [TSize P T s] {b : Nat} {cs : List Value} {T' : TypeId} (hl : cs.length = s) (hb : Blk w b cs T') : (loadVar T ⟨b, 0, none⟩).run P w = .ok (.agg cs.toArray) w := by
  have := run_loadCells_list (P := P) w ⟨b, 0, none⟩ cs (fun j v hj => by rw [add_plain', hb.cell, Nat.zero_add]; exact hj)
  simp only [loadVar, Sem.run_bind, Sem.run_pure, Result.andThen_ok, run_isAgg_agg (P := P) T w, run_sizeOf' (P := P) T w, if_true]
  rw [← hl, this]; rfl
/-- The whole of a variable in memory. -/
theorem WL_loadW {T : TypeId} {s : Nat} [TAgg P T] [TSize P T s] {x : Operand} {b : Nat} {cs : List Value} {T' : TypeId} (hdn : Nat.ble (d + 1) n = true) (hw : wants ops E g = some true) (hx : evE E x = some (.pointer (some ⟨b, 0, none⟩)))
    (hb : Blk w b cs T') (hl : cs.length = s) (h : WL P ops Q l n ((d, .agg cs.toArray) :: E) w) : WL P ops Q (⟨some d, .load T x, ty, pos, aft, g⟩ :: l) n E w :=
  WL_loadA hdn hw hx hb (by rw [List.drop_zero, ← hl, List.take_length]) hl h
theorem WL_storeW {T : TypeId} {s : Nat} [TSize P T s] {x y : Operand} {b : Nat} {cs vs : List Value} {T' : TypeId} (hw : wants ops E g = some true) (hx : evE E x = some (.pointer (some ⟨b, 0, none⟩))) (hy : evE E y = some (.agg vs.toArray))
    (hb : Blk w b cs T') (hl : vs.length = s) (hc : cs.length = vs.length) (h1 : vs.all plain1 = true)
    (h : ∀ w', w.heap.size ≤ w'.heap.size → ExtB b w w' → Blk w' b vs T' → WL P ops Q l n E w') : WL P ops Q (⟨none, .store T x y, ty, pos, aft, g⟩ :: l) n E w :=
  WL_store hw hx hy hb (vs := vs) (by simp [Value.cells]) hl (by omega) (fun u hu => plain1_one (List.all_eq_true.1 h1 u hu)) (fun w' k1 k2 k3 => h w' k1 k2 (by
    rw [List.take_zero, List.nil_append, List.drop_of_length_le (by omega), List.append_nil] at k3; exact k3))
/-- One cell of a variable in memory. -/
theorem WL_storeF {T : TypeId} [TSize P T 1] {x y : Operand} {b off : Nat} {cs cs' : List Value} {T' : TypeId} {v : Value} (hw : wants ops E g = some true) (hx : evE E x = some (.pointer (some ⟨b, off, none⟩))) (hy : evE E y = some v)
    (hb : Blk w b cs T') (h1 : plain1 v = true) (hfit : Nat.ble (off + 1) cs.length = true) (hcs : setC cs off v = cs')
    (h : ∀ w', w.heap.size ≤ w'.heap.size → ExtB b w w' → Blk w' b cs' T' → WL P ops Q l n E w') : WL P ops Q (⟨none, .store T x y, ty, pos, aft, g⟩ :: l) n E w := by
  have hf := Nat.le_of_ble_eq_true hfit
  refine WL_store hw hx hy hb (vs := [v]) (by simp [plain1_cells h1]) rfl (by simpa using hf) (fun u hu => by simp at hu; subst hu; exact plain1_one h1) (fun w' k1 k2 k3 => h w' k1 k2 ?_)
  rw [← hcs, setC_spec (by omega)]
  exact k3
theorem run_equalIn_slnil {t e s b : Nat} [hT : TSlice P t e s b] (A : Option Addr) (m c m' c' d : Nat) : (Op.equalIn (d + 1) t (.slice A m c) (.slice none m' c')).run P w = .ok A.isNone w := by
  simp only [Op.equalIn, Sem.run_bind, run_underlying hT.out, Result.andThen_ok]
  cases A <;> rfl
theorem WL_nilEq {t t' : TypeId} {e s b : Nat} [hT : TSlice P t e s b] {x y : Operand} {A : Option Addr} {m c m' c' : Nat} (hdn : Nat.ble (d + 1) n = true) (hw : wants ops E g = some true) (hx : evE E x = some (.slice A m c)) (hy : evE E y = some (.slice none m' c'))
    (h : WL P ops Q l n ((d, .bool A.isNone) :: E) w) : WL P ops Q (⟨some d, .binOp .eql t x y t', ty, pos, aft, g⟩ :: l) n E w := by
  refine WL_val rfl hdn hw _ w (fun a ha => ?_) h
  have he := run_equalIn_slnil (P := P) (w := w) (t := t) A m c m' c' 9999
  have hb : (binOp .eql t (.slice A m c) (.slice none m' c')).run P w = .ok (.bool A.isNone) w := by
    simp only [binOp]
    simp [Op.equal, Op.maxDepth, he]
  unfold execOp
  simp only [evE_eval ha hx, evE_eval ha hy]
  simp [eqGuard, hb]

/-! ### cuts from nought -/
theorem cutA_zero (A : Option Addr) (s m : Nat) : cutA A s 0 m = A := by
  unfold cutA
  split
  · rfl
  · cases A with
    | none => rfl
    | some a => simp [Addr.add]
theorem WL_cutH0 {t e s b : Nat} [hT : TSlice P t e s b] {x y : Operand} {A : Option Addr} {len c : Nat} {k : IntKind} {h : Int} (hdn : Nat.ble (d + 1) n = true) (hw : wants ops E g = some true) (hx : evE E x = some (.slice A len c)) (hy : evE E y = some (.int k h)) (h0 : 0 ≤ h) (h1 : h ≤ (c : Int))
    (hh : WL P ops Q l n ((d, .slice A h.toNat c) :: E) w) : WL P ops Q (⟨some d, .slice t x none (some y) none, ty, pos, aft, g⟩ :: l) n E w :=
  WL_cutH hdn hw hx hy h0 h1 (by rw [cutA_zero]; exact hh)
theorem WL_cutHM0 {t e s b : Nat} [hT : TSlice P t e s b] {x y z : Operand} {A : Option Addr} {len c : Nat} {k k' : IntKind} {h h' : Int} (hdn : Nat.ble (d + 1) n = true) (hw : wants ops E g = some true) (hx : evE E x = some (.slice A len c)) (hy : evE E y = some (.int k h)) (hz : evE E z = some (.int k' h')) (h0 : 0 ≤ h) (h1 : h ≤ h') (h2 : h' ≤ (c : Int))
    (hh : WL P ops Q l n ((d, .slice A h.toNat h'.toNat) :: E) w) : WL P ops Q (⟨some d, .slice t x none (some y) (some z), ty, pos, aft, g⟩ :: l) n E w :=
  WL_cutHM hdn hw hx hy hz h0 h1 h2 (by rw [cutA_zero]; exact hh)
theorem WL_cutHn {t e s b : Nat} [hT : TSlice P t e s b] {x y : Operand} {A : Option Addr} {len c : Nat} {k : IntKind} {h : Nat} (hdn : Nat.ble (d + 1) n = true) (hw : wants ops E g = some true) (hx : evE E x = some (.slice A len c)) (hy : evE E y = some (.int k (h : Int))) (h1 : h ≤ c)
    (hh : WL P ops Q l n ((d, .slice A h c) :: E) w) : WL P ops Q (⟨some d, .slice t x none (some y) none, ty, pos, aft, g⟩ :: l) n E w :=
  WL_cutH0 hdn hw hx hy (by omega) (by omega) (by rw [Int.toNat_natCast]; exact hh)
theorem WL_cutHMn {t e s b : Nat} [hT : TSlice P t e s b] {x y z : Operand} {A : Option Addr} {len c : Nat} {k k' : IntKind} {h h' : Nat} (hdn : Nat.ble (d + 1) n = true) (hw : wants ops E g = some true) (hx : evE E x = some (.slice A len c)) (hy : evE E y = some (.int k (h : Int))) (hz : evE E z = some (.int k' (h' : Int))) (h1 : h ≤ h') (h2 : h' ≤ c)
    (hh : WL P ops Q l n ((d, .slice A h h') :: E) w) : WL P ops Q (⟨some d, .slice t x none (some y) (some z), ty, pos, aft, g⟩ :: l) n E w :=
  WL_cutHM0 hdn hw hx hy hz (by omega) (by omega) (by omega) (by rw [Int.toNat_natCast, Int.toNat_natCast]; exact hh)
theorem WL_cutAll0 {t e s b : Nat} [hT : TSlice P t e s b] {x : Operand} {A : Option Addr} {len c : Nat} (hdn : Nat.ble (d + 1) n = true) (hw : wants ops E g = some true) (hx : evE E x = some (.slice A len c))
    (hh : WL P ops Q l n ((d, .slice A len c) :: E) w) : WL P ops Q (⟨some d, .slice t x none none none, ty, pos, aft, g⟩ :: l) n E w :=
  WL_cutAll hdn hw hx (by rw [cutA_zero]; exact hh)
theorem WL_arrH0 {t len e s : Nat} [hT : TArr P t len e s] {x y : Operand} {bk off : Nat} {k : IntKind} {h : Int} (hdn : Nat.ble (d + 1) n = true) (hw : wants ops E g = some true) (hx : evE E x = some (.pointer (some ⟨bk, off, none⟩))) (hy : evE E y = some (.int k h)) (h0 : 0 ≤ h) (h1 : h ≤ (len : Int))
    (hh : WL P ops Q l n ((d, .slice (some ⟨bk, off, none⟩) h.toNat len) :: E) w) : WL P ops Q (⟨some d, .slice t x none (some y) none, ty, pos, aft, g⟩ :: l) n E w :=
  WL_arrH hdn hw hx hy h0 h1 (by rw [cutA_zero]; exact hh)

/-! ### appends -/
/-- append(empty, x...): what is empty: nothing, or a row of the call's own. -/
theorem WL_appN {t e b : Nat} [hT : TSlice P t e 1 b] {z : Value} [hz : TZero P e z] {x y : Operand} {w0 : World} {v : Value} {kd : IntKind} {ns : List Int} {A : Option Addr} {k c : Nat}
    (hdn : Nat.ble (d + 1) n = true) (hw : wants ops E g = some true) (hx : evE E x = some v) (hy : evE E y = some (.slice A k c)) (hzs : z.cells.size = 1) (hown : w.ownsRow w0.heap.size e 1 v 0 []) (hx0 : Ext w0 w)
    (hc : Cells w A (ns.map (.int kd))) (hl : ns.length = k) (h63 : k ≤ 4611686018427387904) (hbytes : k * b ≤ 140737488355328)
    (h : ∀ A' c' w', Ext w0 w' → w'.ownsRow w0.heap.size e 1 (.slice A' k c') k (ns.map (.int kd)) → w.grownBy w' v.ownBlock → Cells w' A' (ns.map (.int kd)) → WL P ops Q l n ((d, .slice A' k c') :: E) w') :
    WL P ops Q (⟨some d, .call { callee := .builtin .append, args := #[x, y], argTypes := #[t, t] }, ty, pos, aft, g⟩ :: l) n E w := by
  refine WL_appI hdn hw hx hy hzs hown hx0 hc hl (by omega) (by rw [Nat.zero_add]; exact hbytes) (fun A' c' w' hx' ho' hg' => ?_)
  rw [List.nil_append, Nat.zero_add] at ho'
  rw [Nat.zero_add]
  exact h A' c' w' hx' ho' hg' (own_rd ho')
/-- append(v, x...), v at its capacity, x not empty: a row of its own. -/
theorem WL_appC {t e b : Nat} [hT : TSlice P t e 1 b] {z : Value} [hz : TZero P e z] {x y : Operand} {kd : IntKind} {xs ns : List Int} {A0 A : Option Addr} {m k c : Nat}
    (hdn : Nat.ble (d + 1) n = true) (hw : wants ops E g = some true) (hx : evE E x = some (.slice A0 m m)) (hy : evE E y = some (.slice A k c)) (hzs : z.cells.size = 1) (hc0 : Cells w A0 (xs.map (.int kd))) (hl0 : xs.length = m)
    (hc : Cells w A (ns.map (.int kd))) (hl : ns.length = k) (hk : 0 < k) (h63 : m + k ≤ 4611686018427387904) (hbytes : (m + k) * b ≤ 140737488355328)
    (h : ∀ A' c' w', Ext w w' → w'.ownsRow w.heap.size e 1 (.slice A' (m + k) c') (m + k) ((xs ++ ns).map (.int kd)) → Cells w' A' ((xs ++ ns).map (.int kd)) → WL P ops Q l n ((d, .slice A' (m + k) c') :: E) w') :
    WL P ops Q (⟨some d, .call { callee := .builtin .append, args := #[x, y], argTypes := #[t, t] }, ty, pos, aft, g⟩ :: l) n E w := by
  refine WL_appendC hdn hw hx hy hzs (by omega) (by simpa using hl0) hc0 (by simpa using hl) hc hk h63 hbytes (fun v' w' ho hx' => ?_)
  rw [← List.map_append] at ho
  obtain ⟨A', c', rfl, _, _⟩ := own_cells ho
  exact h A' c' w' hx' ho (own_rd ho)
end
/-- Block b is kept from w0 to w. -/
def KeepB (b : Nat) (w0 w : World) : Prop := ∀ cs T, Blk w0 b cs T → Blk w b cs T
theorem KeepB.refl (b : Nat) (w : World) : KeepB b w w := fun _ _ h => h
theorem KeepB.ext {b : Nat} {w0 w1 w : World} (h : KeepB b w0 w1) (k : Ext w1 w) : KeepB b w0 w := fun _ _ hb => (h _ _ hb).ext k
theorem KeepB.extB {b b' : Nat} {w0 w1 w : World} (h : KeepB b w0 w1) (k : ExtB b' w1 w) (hne : b ≠ b') : KeepB b w0 w := fun _ _ hb => (h _ _ hb).extB k hne
theorem Blk.go {w0 w : World} {b : Nat} {cs : List Value} {T : TypeId} (h : Blk w0 b cs T) (k : KeepB b w0 w) : Blk w b cs T := k _ _ h
theorem own_mono {w : World} {base base' n : Nat} {e : TypeId} {size : Nat} {v : Value} {xs : List Value} (h : w.ownsRow base e size v n xs) (hb : base' ≤ base) : w.ownsRow base' e size v n xs := by
  obtain ⟨hl, h2⟩ := h
  refine ⟨hl, ?_⟩
  rcases h2 with h2 | ⟨g, cap, cur, e1, h1, h3⟩
  · exact .inl h2
  · exact .inr ⟨g, cap, cur, e1, Nat.le_trans hb h1, h3⟩
/-- The first of a row. -/
theorem own_take {w : World} {base m k : Nat} {e : TypeId} {s : Nat} {A : Option Addr} {c : Nat} {xs : List Value} (h : w.ownsRow base e s (.slice A m c) m xs) (hk : k ≤ m) : w.ownsRow base e s (.slice A k c) k (xs.take (k * s)) := by
  obtain ⟨hl, h2⟩ := h
  have hks : k * s ≤ m * s := Nat.mul_le_mul_right _ hk
  refine ⟨by rw [List.length_take, hl]; omega, ?_⟩
  rcases h2 with ⟨h3, h4⟩ | ⟨g, cap, cur, e1, h1, h3, h4, h5, h6, h7⟩
  · left
    simp only [Value.slice.injEq] at h3
    obtain ⟨rfl, rfl, rfl⟩ := h3
    have : k = 0 := by omega
    subst this
    exact ⟨rfl, rfl⟩
  · right
    simp only [Value.slice.injEq] at e1
    obtain ⟨rfl, _, rfl⟩ := e1
    refine ⟨g, _, cur, rfl, h1, h3, by omega, h5, h6, ?_⟩
    rw [← h7, List.take_take]
    congr 1; omega
theorem own_takeI {w : World} {base m k : Nat} {e : TypeId} {A : Option Addr} {c : Nat} {kd : IntKind} {xs : List Int} (h : w.ownsRow base e 1 (.slice A m c) m (xs.map (.int kd))) (hk : k ≤ m) : w.ownsRow base e 1 (.slice A k c) k ((xs.take k).map (.int kd)) := by
  have := own_take h hk
  rwa [Nat.mul_one, ← List.map_take] at this
theorem own_other {w w' : World} {base n b' : Nat} {e : TypeId} {size : Nat} {v : Value} {xs : List Value} (k : ExtB b' w w') (h : w.ownsRow base e size v n xs) (hb : ∀ g, v.ownBlock = some g → g ≠ b') : w'.ownsRow base e size v n xs := by
  obtain ⟨hl, h2⟩ := h
  refine ⟨hl, ?_⟩
  rcases h2 with h2 | ⟨g, cap, cur, e1, hbg, hg, h3⟩
  · exact .inl h2
  · exact .inr ⟨g, cap, cur, e1, hbg, (k.block g (Array.getElem?_eq_some_iff.1 hg).1 (fun e => hb g (by rw [e1]; rfl) (by cases e; rfl))).trans hg, h3⟩
/-- Rows of a call's own, of blocks from a up to b or from c up to d, are kept from w0 to w. -/
def KeepO (a b c d : Nat) (w0 w : World) : Prop := ∀ (e : TypeId) (s base : Nat) (v : Value) (n : Nat) (xs : List Value), w0.ownsRow base e s v n xs → (∀ g, v.ownBlock = some g → (a ≤ g ∧ g < b) ∨ (c ≤ g ∧ g < d)) → w.ownsRow base e s v n xs
theorem KeepO.refl (a b c d : Nat) (w : World) : KeepO a b c d w w := fun _ _ _ _ _ _ h _ => h
theorem KeepO.ext {a b c d : Nat} {w0 w1 w : World} (h : KeepO a b c d w0 w1) (k : Ext w1 w) : KeepO a b c d w0 w := fun _ _ _ _ _ _ hb ht => own_ext (h _ _ _ _ _ _ hb ht) k
theorem KeepO.extB {a b c d b' : Nat} {w0 w1 w : World} (h : KeepO a b c d w0 w1) (k : ExtB b' w1 w) (hne : (b' < a ∨ b ≤ b') ∧ (b' < c ∨ d ≤ b')) : KeepO a b c d w0 w := fun _ _ _ _ _ _ hb ht =>
  own_other k (h _ _ _ _ _ _ hb ht) (fun g hg => by have h2 := ht g hg; omega)
/-- A row's block is not from T up to S. -/
def OwnGap (v : Value) (T S : Nat) : Prop := ∀ x, v.ownBlock = some x → x < T ∨ S ≤ x
theorem own_go {w0 w : World} {base base' n : Nat} {e : TypeId} {s : Nat} {v : Value} {xs : List Value} (h : w0.ownsRow base e s v n xs) (hb : base' ≤ base) (k : KeepO base w0.heap.size 0 0 w0 w) : w.ownsRow base' e s v n xs := own_mono (k _ _ _ _ _ _ h (fun g hg => .inl (own_lt h g hg))) hb
theorem own_goG {w0 w : World} {base base' n T S : Nat} {e : TypeId} {s : Nat} {v : Value} {xs : List Value} (h : w0.ownsRow base e s v n xs) (hg : OwnGap v T S) (hb : base' ≤ base) (k : KeepO base T S w0.heap.size w0 w) : w.ownsRow base' e s v n xs :=
  own_mono (k _ _ _ _ _ _ h (fun g hg' => by have h1 := own_lt h g hg'; have h2 := hg g hg'; omega)) hb
theorem own_rdG {w0 w : World} {base n : Nat} {e : TypeId} {s : Nat} {A : Option Addr} {m c : Nat} {xs : List Value} (h : w0.ownsRow base e s (.slice A m c) n xs) (k : KeepO base w0.heap.size 0 0 w0 w) : Cells w A xs := own_rd (own_go h (Nat.le_refl _) k)
theorem own_rdGG {w0 w : World} {base n T S : Nat} {e : TypeId} {s : Nat} {A : Option Addr} {m c : Nat} {xs : List Value} (h : w0.ownsRow base e s (.slice A m c) n xs) (hg : OwnGap (.slice A m c) T S) (k : KeepO base T S w0.heap.size w0 w) : Cells w A xs := own_rd (own_goG h hg (Nat.le_refl _) k)
/-- From w to w' nothing has turned but one block from a up to b or from c up to d, at most. -/
def ExtR (a b c d : Nat) (w w' : World) : Prop := ∃ g : Option Nat, (∀ x, g = some x → (a ≤ x ∧ x < b) ∨ (c ≤ x ∧ x < d)) ∧ w.grownBy w' g
theorem ExtR.ext {w0 w w' : World} {a b c d : Nat} (h : Ext w0 w) (k : ExtR a b c d w w') (hg : w0.heap.size ≤ a ∧ (w0.heap.size ≤ c ∨ d = 0)) : Ext w0 w' := by
  obtain ⟨g, hb, k⟩ := k
  exact Below.grown h k h.size (fun x hx => by have := hb x hx; omega)
theorem KeepB.extR {n a b c d : Nat} {w0 w1 w : World} (h : KeepB n w0 w1) (k : ExtR a b c d w1 w) (hne : (n < a ∨ b ≤ n) ∧ (n < c ∨ d ≤ n)) : KeepB n w0 w := fun _ _ hb => by
  obtain ⟨g, hg, k⟩ := k
  have h1 := h _ _ hb
  exact (k.block n h1.lt (fun e => by have := hg n e.symm; omega)).trans h1
theorem own_otherR {w w' : World} {base n : Nat} {e : TypeId} {size : Nat} {v : Value} {xs : List Value} {o : Option Nat} (k : w.grownBy w' o) (h : w.ownsRow base e size v n xs) (hb : ∀ g, v.ownBlock = some g → o ≠ some g) : w'.ownsRow base e size v n xs := by
  obtain ⟨hl, h2⟩ := h
  refine ⟨hl, ?_⟩
  rcases h2 with h2 | ⟨g, cap, cur, e1, hbg, hg, h3⟩
  · exact .inl h2
  · exact .inr ⟨g, cap, cur, e1, hbg, (k.block g (Array.getElem?_eq_some_iff.1 hg).1 (fun e => hb g (by rw [e1]; rfl) e.symm)).trans hg, h3⟩
theorem KeepO.extR {a b c d a' b' c' d' : Nat} {w0 w1 w : World} (h : KeepO a b c d w0 w1) (k : ExtR a' b' c' d' w1 w) (hne : (b ≤ a' ∨ b' ≤ a) ∧ (d ≤ a' ∨ b' ≤ c) ∧ (b ≤ c' ∨ d' ≤ a) ∧ (d ≤ c' ∨ d' ≤ c)) : KeepO a b c d w0 w := fun _ _ _ _ _ _ hb ht => by
  obtain ⟨g', hg', k⟩ := k
  refine own_otherR k (h _ _ _ _ _ _ hb ht) (fun g hg e => ?_)
  have h3 := ht g hg
  have h4 := hg' g e
  omega
section
variable {P : Program} {ops : Array Oper} {Q : Exit → Act → World → Prop} {n : Nat} {E : Env} {w : World} {l : List Oper}
variable {dd : Option Tmp} {d : Nat} {ty : TypeId} {pos : String} {aft : Array Edge} {g : Option (Nat × Bool)}
/-- append(v, x...), v a row of the call's own, known at an elder world. -/
theorem WL_appR {t e b : Nat} [hT : TSlice P t e 1 b] {z : Value} [hz : TZero P e z] {x y : Operand} {wk : World} {base : Nat} {v : Value} {m : Nat} {kd : IntKind} {xs ns : List Int} {A : Option Addr} {k c : Nat}
    (hdn : Nat.ble (d + 1) n = true) (hw : wants ops E g = some true) (hx : evE E x = some v) (hy : evE E y = some (.slice A k c)) (hzs : z.cells.size = 1) (hown : wk.ownsRow base e 1 v m (xs.map (.int kd))) (hk : KeepO base wk.heap.size 0 0 wk w) (hbase : base ≤ w.heap.size)
    (hc : Cells w A (ns.map (.int kd))) (hl : ns.length = k) (h63 : m + k ≤ 4611686018427387904) (hbytes : (m + k) * b ≤ 140737488355328)
    (h : ∀ A' c' w', ExtR base wk.heap.size 0 0 w w' → w.heap.size ≤ w'.heap.size → w'.ownsRow base e 1 (.slice A' (m + k) c') (m + k) ((xs ++ ns).map (.int kd)) → Cells w' A' ((xs ++ ns).map (.int kd)) → OwnGap (.slice A' (m + k) c') wk.heap.size w.heap.size → WL P ops Q l n ((d, .slice A' (m + k) c') :: E) w') :
    WL P ops Q (⟨some d, .call { callee := .builtin .append, args := #[x, y], argTypes := #[t, t] }, ty, pos, aft, g⟩ :: l) n E w := by
  have hlt := fun g hg => own_lt hown g hg
  refine WL_append hdn hw hx hy hzs (by omega) (hk _ _ _ _ _ _ hown (fun g hg => .inl (hlt g hg))) hbase (by simpa using hl) hc (ints_oneCell kd ns) h63 hbytes (fun v' w' ho hg hgap => ?_)
  rw [← List.map_append] at ho
  obtain ⟨A', c', rfl, _, _⟩ := own_cells ho
  exact h A' c' w' ⟨_, fun x hx => .inl ⟨(hlt x hx).1, (hlt x hx).2⟩, hg⟩ hg.size ho (own_rd ho) (fun x hx => by
    rcases hgap with hgap | ⟨b', hb', hle⟩
    · rw [hgap] at hx; exact .inl (hlt x hx).2
    · rw [hb'] at hx; cases hx; exact .inr hle)
/-- The same, where the row's block is not from T up to S. -/
theorem WL_appG {t e b : Nat} [hT : TSlice P t e 1 b] {z : Value} [hz : TZero P e z] {x y : Operand} {wk : World} {base T S : Nat} {v : Value} {m : Nat} {kd : IntKind} {xs ns : List Int} {A : Option Addr} {k c : Nat}
    (hdn : Nat.ble (d + 1) n = true) (hw : wants ops E g = some true) (hx : evE E x = some v) (hy : evE E y = some (.slice A k c)) (hzs : z.cells.size = 1) (hown : wk.ownsRow base e 1 v m (xs.map (.int kd))) (hgap : OwnGap v T S) (hk : KeepO base T S wk.heap.size wk w) (hbase : base ≤ w.heap.size) (hS : S ≤ w.heap.size)
    (hc : Cells w A (ns.map (.int kd))) (hl : ns.length = k) (h63 : m + k ≤ 4611686018427387904) (hbytes : (m + k) * b ≤ 140737488355328)
    (h : ∀ A' c' w', ExtR base T S wk.heap.size w w' → w.heap.size ≤ w'.heap.size → w'.ownsRow base e 1 (.slice A' (m + k) c') (m + k) ((xs ++ ns).map (.int kd)) → Cells w' A' ((xs ++ ns).map (.int kd)) → OwnGap (.slice A' (m + k) c') T S → WL P ops Q l n ((d, .slice A' (m + k) c') :: E) w') :
    WL P ops Q (⟨some d, .call { callee := .builtin .append, args := #[x, y], argTypes := #[t, t] }, ty, pos, aft, g⟩ :: l) n E w := by
  have hlt : ∀ g, v.ownBlock = some g → (base ≤ g ∧ g < T) ∨ (S ≤ g ∧ g < wk.heap.size) := fun g hg => by have h1 := own_lt hown g hg; have h2 := hgap g hg; omega
  refine WL_append hdn hw hx hy hzs (by omega) (hk _ _ _ _ _ _ hown hlt) hbase (by simpa using hl) hc (ints_oneCell kd ns) h63 hbytes (fun v' w' ho hg hgp => ?_)
  rw [← List.map_append] at ho
  obtain ⟨A', c', rfl, _, _⟩ := own_cells ho
  exact h A' c' w' ⟨_, hlt, hg⟩ hg.size ho (own_rd ho) (fun x hx => by
    rcases hgp with hgp | ⟨b', hb', hle⟩
    · rw [hgp] at hx; have := hlt x hx; omega
    · rw [hb'] at hx; cases hx; exact .inr (by omega))
/-- append(v, x...), v empty, a row of the call's own. -/
theorem WL_appL {t e b : Nat} [hT : TSlice P t e 1 b] {z : Value} [hz : TZero P e z] {x y : Operand} {wk : World} {base : Nat} {v : Value} {kd : IntKind} {ns : List Int} {A : Option Addr} {k c : Nat}
    (hdn : Nat.ble (d + 1) n = true) (hw : wants ops E g = some true) (hx : evE E x = some v) (hy : evE E y = some (.slice A k c)) (hzs : z.cells.size = 1) (hown : wk.ownsRow base e 1 v 0 []) (hk : KeepO base wk.heap.size 0 0 wk w) (hbase : base ≤ w.heap.size)
    (hc : Cells w A (ns.map (.int kd))) (hl : ns.length = k) (h63 : k ≤ 4611686018427387904) (hbytes : k * b ≤ 140737488355328)
    (h : ∀ A' c' w', ExtR base wk.heap.size 0 0 w w' → w.heap.size ≤ w'.heap.size → w'.ownsRow base e 1 (.slice A' k c') k (ns.map (.int kd)) → Cells w' A' (ns.map (.int kd)) → OwnGap (.slice A' k c') wk.heap.size w.heap.size → WL P ops Q l n ((d, .slice A' k c') :: E) w') :
    WL P ops Q (⟨some d, .call { callee := .builtin .append, args := #[x, y], argTypes := #[t, t] }, ty, pos, aft, g⟩ :: l) n E w := by
  refine WL_appR (xs := []) hdn hw hx hy hzs hown hk hbase hc hl (by omega) (by rw [Nat.zero_add]; exact hbytes) (fun A' c' w' hx' hs' ho' hr' hp' => ?_)
  rw [List.nil_append] at ho' hr'
  rw [Nat.zero_add] at ho' hp' ⊢
  exact h A' c' w' hx' hs' ho' hr' hp'
/-- append(nothing, x...). -/
theorem WL_app0 {t e b : Nat} [hT : TSlice P t e 1 b] {z : Value} [hz : TZero P e z] {x y : Operand} {kd : IntKind} {ns : List Int} {A : Option Addr} {k c : Nat}
    (hdn : Nat.ble (d + 1) n = true) (hw : wants ops E g = some true) (hx : evE E x = some (.slice none 0 0)) (hy : evE E y = some (.slice A k c)) (hzs : z.cells.size = 1)
    (hc : Cells w A (ns.map (.int kd))) (hl : ns.length = k) (h63 : k ≤ 4611686018427387904) (hbytes : k * b ≤ 140737488355328)
    (h : ∀ A' c' w', Ext w w' → w'.ownsRow w.heap.size e 1 (.slice A' k c') k (ns.map (.int kd)) → Cells w' A' (ns.map (.int kd)) → WL P ops Q l n ((d, .slice A' k c') :: E) w') :
    WL P ops Q (⟨some d, .call { callee := .builtin .append, args := #[x, y], argTypes := #[t, t] }, ty, pos, aft, g⟩ :: l) n E w :=
  WL_appL hdn hw hx hy hzs (own_nil w w.heap.size e 1) (KeepO.refl _ _ _ _ _) (Nat.le_refl _) hc hl h63 hbytes (fun A' c' w' hx' hs' ho' hr' _ => h A' c' w' (ExtR.ext (Ext.refl' w) hx' ⟨Nat.le_refl _, .inr rfl⟩) ho' hr')
end
section
variable {P : Program} {Q : Exit → Act → World → Prop} {n : Nat} {E : Env} {w : World}
/-- Results out of memory. -/
theorem WQ_bodyC {fn : Func} {R : Ending → World → Prop} {t : Tmp} {T : TypeId} {s : Nat} [TAgg P T] [TSize P T s] {b : Nat} {cs : List Value} {T' : TypeId} {e : Exit} (he : e = .ret ∨ e = .normal) (hr : fn.results = #[.cell t T]) (hv : lk E t = some (.pointer (some ⟨b, 0, none⟩)))
    (hb : Blk w b cs T') (hl : cs.length = s) (h : R (.returned (.agg cs.toArray)) w) : WQ (bodyPost P fn R) e n E w := by
  intro a ha
  have h' : a.defers = [] ∧ ∃ v, (results fn a.tmps).run P w = .ok v w ∧ R (.returned v) w := by
    refine ⟨ha.2.1, _, ?_, h⟩
    have k1 := ha.2.2 t _ hv
    rw [Array.getD_eq_getD_getElem?] at k1
    simp only [results, hr]
    simp [Sem.run_bind, Result.andThen, k1, asAddr, run_loadVar_agg (P := P) (T := T) hl hb]
  rcases he with rfl | rfl <;> exact h'
theorem WQ_bodyCT {fn : Func} {R : Ending → World → Prop} {t u : Tmp} {T : TypeId} {s : Nat} [TAgg P T] [TSize P T s] {b : Nat} {cs : List Value} {T' : TypeId} {v' : Value} {e : Exit} (he : e = .ret ∨ e = .normal) (hr : fn.results = #[.cell t T, .tmp u]) (hv : lk E t = some (.pointer (some ⟨b, 0, none⟩))) (hv' : lk E u = some v')
    (hb : Blk w b cs T') (hl : cs.length = s) (h : R (.returned (.tuple #[.agg cs.toArray, v'])) w) : WQ (bodyPost P fn R) e n E w := by
  intro a ha
  have h' : a.defers = [] ∧ ∃ v, (results fn a.tmps).run P w = .ok v w ∧ R (.returned v) w := by
    refine ⟨ha.2.1, _, ?_, h⟩
    have k1 := ha.2.2 t _ hv
    have k2 := ha.2.2 u _ hv'
    rw [Array.getD_eq_getD_getElem?] at k1 k2
    simp only [results, hr]
    simp [Sem.run_bind, Result.andThen, k1, k2, asAddr, run_loadVar_agg (P := P) (T := T) hl hb]
  rcases he with rfl | rfl <;> exact h'
end
end Go.Proofs.Ytemfngomfiimfaa.K
