/- More rules: regions that only read, walked once in the text's order; strings. Seat-free. -/
import Derived.Test.YtemfngomfiimfaaD
import Derived.Test.YtemfngomfiimfaaR
import Derived.BigQuiet
import Derived.Laws.Strings
import Derived.Lib.Bytes
set_option linter.unusedVariables false
set_option linter.unusedSimpArgs false
namespace Go.Proofs.Ytemfngomfiimfaa.K
open Go.RowKit

/-! ### a region that draws its order and only reads: one walk in the text's order -/
def WR (P : Program) (ops : Array Oper) (C : World → Prop) (Q : Act → Prop) (l : List Oper) (n : Nat) (E : Env) : Prop := ∀ a, Agr n E a → wpQuiet P ops C Q l a
/-- One operation walked alone, that leaves the world as it was. -/
def DR (w : World) (d : Nat) (v : Value) : Exit → Act → World → Prop := fun e a' w' => e = .normal ∧ a'.defers = [] ∧ w' = w ∧ a'.tmps.getD d undef = v
def reads1 : Op → Bool
  | .move _ | .assign _ | .pick _ _ _ | .load _ _ | .binOp _ _ _ _ _ | .unOp _ _ _ | .convert _ _ _ | .slice _ _ _ _ _ | .fieldAddr _ _ _ | .field _ _ _ | .indexAddr _ _ _ | .index _ _ _ | .extract _ _ | .makeFunc _ _ _ | .build _ _ | .sliceToArrayPointer _ _ => true
  | _ => false
theorem reads1_value {P : Program} {ρ : Operand → Value} {o : Oper} (h : reads1 o.op = true) {w w' : World} {nx : Next} (hr : (execOp ρ o).run P w = .ok nx w') : ∃ v, nx = .value v := by
  have key : ∀ s : Sem Value, (do let x ← s; pure (Next.value x) : Sem Next).run P w = .ok nx w' → ∃ v, nx = .value v := by
    intro s hs
    rw [Sem.run_bind] at hs
    cases hq : s.run P w with
    | ok x w1 => rw [hq] at hs; simp at hs; exact ⟨x, hs.1.symm⟩
    | halt x w1 => rw [hq] at hs; simp [Result.andThen] at hs
  obtain ⟨dst, op, type, pos, after, guard⟩ := o
  unfold execOp at hr
  cases op <;> simp only [reads1] at h <;> (try cases h) <;> simp only at hr <;> first
    | exact key _ hr
    | (simp only [Sem.run_pure, Result.ok.injEq] at hr; exact ⟨_, hr.1.symm⟩)
    | skip
  · rename_i c x y
    rw [Sem.run_bind] at hr
    cases hq : (asBool (ρ c)).run P w with
    | ok b w1 => rw [hq] at hr; simp at hr; exact ⟨_, hr.1.symm⟩
    | halt x w1 => rw [hq] at hr; simp [Result.andThen] at hr

section
variable {P : Program} {ops : Array Oper} {Q : Exit → Act → World → Prop} {Qr : Act → Prop} {C : World → Prop} {n : Nat} {E : Env} {w : World} {l : List Oper}

theorem WR_nil (h : ∀ w', C w' → WQ Q .normal n E w') : WR P ops C (fun a => ∀ w', C w' → Q .normal a w') [] n E := fun a ha w' hw' => h w' hw' a ha
theorem WC_quiet {id : Nat} {l : List Oper} (hm : P.follows .mixedOrders = true) (hB : Region.lexB .any l.toArray = true)
    (h : WR P l.toArray (fun w' => Ext w w') (fun a => ∀ w', Ext w w' → Q .normal a w') l n E) : WC P Q (.region id l.toArray true) n E w :=
  fun a ha => wp_region_quiet (C := fun w' => Ext w w') hm hB (Ext.drew w) (by simpa using h a ha)

theorem WR_off {o : Oper} {d : Nat} (hd : o.dst = some d) (hdn : Nat.ble (d + 1) n = true) (hw : wants ops E o.guard = some false) (h : WR P ops C Qr l n ((d, undef) :: E)) : WR P ops C Qr (o :: l) n E := by
  intro a ha
  unfold wpQuiet
  rw [wants_spec ha hw, hd]
  exact h _ (ha.put (Nat.le_of_ble_eq_true hdn) _)
theorem WR_guard {o : Oper} {j : Nat} {b : Bool} {o' : Oper} {d : Nat} {c : Bool} (hg : o.guard = some (j, b)) (ho : nthO ops.toList j = some o') (hd : o'.dst = some d) (hl : lk E d = some (.bool c))
    (ht : c = true → WR P ops C Qr (o :: l) n ((d, .bool true) :: E)) (hf : c = false → WR P ops C Qr (o :: l) n ((d, .bool false) :: E)) : WR P ops C Qr (o :: l) n E := by
  intro a ha
  have hsub : ∀ c', c = c' → Agr n ((d, .bool c') :: E) a := fun c' e => ⟨ha.1, ha.2.1, fun t v hv => by
    unfold lk at hv
    cases hb : Nat.beq d t with
    | true =>
      rw [hb] at hv
      have := Nat.eq_of_beq_eq_true hb
      subst this; subst e
      simp only [cond_true, Option.some.injEq] at hv
      rw [← hv]; exact ha.2.2 _ _ hl
    | false => rw [hb] at hv; exact ha.2.2 t v hv⟩
  cases hc : c with
  | true => exact ht hc a (hsub _ hc)
  | false => exact hf hc a (hsub _ hc)
theorem WR_pure {o : Oper} {d : Nat} {v : Value} (hd : o.dst = some d) (hdn : Nat.ble (d + 1) n = true) (hw : wants ops E o.guard = some true) (hp : pureOp E o.op = some v)
    (h : WR P ops C Qr l n ((d, v) :: E)) : WR P ops C Qr (o :: l) n E := by
  intro a ha
  unfold wpQuiet
  rw [if_pos (wants_spec ha hw)]
  refine ⟨v, fun w _ => ?_, by rw [hd]; exact h _ (ha.put (Nat.le_of_ble_eq_true hdn) _)⟩
  unfold Oper.quietAt
  rw [pureOp_run ha hp w]
  exact ⟨rfl, rfl⟩
/-- An operation that reads: walked alone, in whatever world of the class. -/
theorem WR_read {o : Oper} {d : Nat} (v : Value) (hd : o.dst = some d) (hdn : Nat.ble (d + 1) n = true) (hw : wants ops E o.guard = some true) (hr : reads1 o.op = true)
    (h1 : ∀ w, C w → WL P ops (DR w d v) [o] n E w) (h : WR P ops C Qr l n ((d, v) :: E)) : WR P ops C Qr (o :: l) n E := by
  intro a ha
  unfold wpQuiet
  rw [if_pos (wants_spec ha hw)]
  refine ⟨v, fun w hC => ?_, by rw [hd]; exact h _ (ha.put (Nat.le_of_ble_eq_true hdn) _)⟩
  have h2 := h1 w hC a ha
  unfold wpList at h2
  rw [if_pos (wants_spec ha hw)] at h2
  rcases h2 with h2 | h2
  · unfold Oper.quietAt
    unfold Oper.wp at h2
    cases hx : (execOp a.eval o).run P w with
    | ok nx w' =>
      obtain ⟨u, rfl⟩ := reads1_value hr hx
      rw [hx] at h2
      have h3 : DR w d v .normal (a.put o.dst u) w' := h2
      rw [hd] at h3
      obtain ⟨_, _, e1, e2⟩ := h3
      have e3 : (a.put (some d) u).tmps.getD d undef = u := by
        have hlt : d < n := Nat.le_of_ble_eq_true hdn
        simp [Act.put, Array.getD_eq_getD_getElem?, ha.1, hlt]
      rw [e3] at e2
      exact ⟨e1, e2⟩
    | halt x w' =>
      rw [hx] at h2
      cases x with
      | panic u => have h3 : DR w d v (.panic _) _ _ := h2; cases h3.1
      | _ => exact h2.elim
  · obtain ⟨_, _, h3⟩ := h2.2
    cases h3.1
theorem DR_mk {d : Nat} {v : Value} (hl : lk E d = some v) : WQ (DR w d v) .normal n E w := fun a ha => ⟨rfl, ha.2.1, rfl, ha.2.2 d v hl⟩
/-- A call whose answer is told. -/
theorem WR_call {d : Nat} {ty : TypeId} {pos : String} {aft : Array Edge} {g : Option (Nat × Bool)} {f : FuncId} {fn : Func} [TFn P f fn] {as : Array Operand} {ts : Array TypeId} {args : List Value} {v : Value} (hdn : Nat.ble (d + 1) n = true) (hw : wants ops E g = some true) (hargs : evL E as.toList = some args)
    (hC : ∀ w, C w → Calls P f args.toArray w fun e w' => e = .returned v ∧ C w') (h : WR P ops C Qr l n ((d, v) :: E)) :
    WR P ops C Qr (⟨some d, .call { callee := .value (.func f), args := as, argTypes := ts }, ty, pos, aft, g⟩ :: l) n E := by
  intro a ha
  unfold wpQuiet
  rw [if_pos (wants_spec ha hw)]
  refine ⟨v, fun w hCw => ?_, h _ (ha.put (Nat.le_of_ble_eq_true hdn) _)⟩
  unfold Oper.quietAt
  rw [call_run hargs rfl a ha]
  exact ⟨rfl, hC w hCw⟩
theorem WR_len {d : Nat} {ty : TypeId} {pos : String} {aft : Array Edge} {g : Option (Nat × Bool)} {t : TypeId} {e s b : Nat} [hT : TSlice P t e s b] {x : Operand} {A : Option Addr} {m c : Nat} (hdn : Nat.ble (d + 1) n = true) (hw : wants ops E g = some true) (hx : evE E x = some (.slice A m c))
    (h : WR P ops C Qr l n ((d, .int .i64 (m : Int)) :: E)) : WR P ops C Qr (⟨some d, .call { callee := .builtin .len, args := #[x], argTypes := #[t] }, ty, pos, aft, g⟩ :: l) n E := by
  intro a ha
  unfold wpQuiet
  rw [if_pos (wants_spec ha hw)]
  refine ⟨_, fun w hCw => ?_, h _ (ha.put (Nat.le_of_ble_eq_true hdn) _)⟩
  have hl : (Builtin.len_ #[t] ty #[.slice A m c]).run P w = .ok (goInt m) w := by simp [Builtin.len_, run_underlying hT.out]
  unfold Oper.quietAt execOp
  simp [resolve, invoke, builtin, evE_eval ha hx, hl, goInt, Oper.quietUpon]
end

/-! ### strings -/
def strEq (a b : ByteArray) : Bool := decide (a = b)
theorem strEq_eq {a b : ByteArray} : strEq a b = decide (a = b) := rfl
theorem strEq_t {a b : ByteArray} : strEq a b = true ↔ a = b := by rw [strEq_eq, decide_eq_true_eq]
theorem strEq_f {a b : ByteArray} : strEq a b = false ↔ ¬ a = b := by rw [strEq_eq, decide_eq_false_iff_not]
theorem strEq_self {a : ByteArray} : strEq a a = true := strEq_t.2 rfl
theorem run_convert_bytes {P : Program} {w : World} {s e b t : Nat} [hT : TSlice P s e 1 b] [hI : TInt P e .u8] [hS : TStr P t] {A : Option Addr} {len c : Nat} {xs : List Int} (hl : xs.length = len) (hc : Cells w A (xs.map (.int .u8))) :
    (convert s t (.slice A len c)).run P w = .ok (.string (strOfNums xs)) w := by
  have hnil : ∀ A, (convert s t (.slice A 0 c)).run P w = .ok (.string (strOfNums [])) w := by
    intro A
    cases A with
    | none => exact run_convert_bytes_nil (P := P) w s e hT.out hI.out 0 c t hS.out
    | some a =>
      rw [run_convert_bytes_string w s t e _ 0 c hT.out hI.out hS.out]
      have := run_bytesToString (P := P) w a 0 c [] (by rfl)
      rw [this]; rfl
  rcases hc with hc | ⟨ad, rfl, hc⟩
  · have : xs = [] := by simpa using hc
    subst this
    simp at hl; subst hl
    exact hnil A
  · rw [run_convert_bytes_string w s t e _ len c hT.out hI.out hS.out]
    have h2 := run_loadCells_list (P := P) w ad (xs.map (.int .u8)) hc
    rw [List.length_map, hl] at h2
    rw [run_bytesToString w ad len c xs h2, foldl_push_bytes]
    simp [strOfNums, ByteArray.empty, ByteArray.emptyWithCapacity]
    rfl
section
variable {P : Program} {ops : Array Oper} {Q : Exit → Act → World → Prop} {n : Nat} {E : Env} {w : World} {l : List Oper}
variable {dd : Option Tmp} {d : Nat} {ty : TypeId} {pos : String} {aft : Array Edge} {g : Option (Nat × Bool)}
theorem WL_str {s e b t : Nat} [hT : TSlice P s e 1 b] [hI : TInt P e .u8] [hS : TStr P t] {x : Operand} {A : Option Addr} {len c : Nat} {xs : List Int} (hdn : Nat.ble (d + 1) n = true) (hw : wants ops E g = some true) (hx : evE E x = some (.slice A len c))
    (hl : xs.length = len) (hc : Cells w A (xs.map (.int .u8))) (h : WL P ops Q l n ((d, .string (strOfNums xs)) :: E) w) : WL P ops Q (⟨some d, .convert s t x, ty, pos, aft, g⟩ :: l) n E w := by
  refine WL_val rfl hdn hw _ w (fun a ha => ?_) h
  unfold execOp
  simp only [evE_eval ha hx, Sem.run_bind, run_convert_bytes (P := P) (s := s) (e := e) (b := b) (t := t) hl hc, Result.andThen_ok]
  rfl
/-- The same, of a value that is a row. -/
theorem WL_strR {s e b t : Nat} [hT : TSlice P s e 1 b] [hI : TInt P e .u8] [hS : TStr P t] {x : Operand} {v : Value} {xs : List Int} (hdn : Nat.ble (d + 1) n = true) (hw : wants ops E g = some true) (hx : evE E x = some v)
    (hc : Rd w 1 v (xs.map (.int .u8))) (h : WL P ops Q l n ((d, .string (strOfNums xs)) :: E) w) : WL P ops Q (⟨some d, .convert s t x, ty, pos, aft, g⟩ :: l) n E w := by
  obtain ⟨A, m, c, rfl, _, hl, hC⟩ := hc
  exact WL_str hdn hw hx (by simpa using hl) hC h
theorem WL_seq_ {op : BinOp} {t t' : TypeId} {x y : Operand} {a b : ByteArray} (hdn : Nat.ble (d + 1) n = true) (hw : wants ops E g = some true) (hx : evE E x = some (.string a)) (hy : evE E y = some (.string b)) (hop : op = .eql)
    (h : WL P ops Q l n ((d, .bool (strEq a b)) :: E) w) : WL P ops Q (⟨some d, .binOp op t x y t', ty, pos, aft, g⟩ :: l) n E w := by
  subst hop
  have e1 : (a.toList == b.toList) = decide (a = b) := by
    by_cases h : a = b
    · subst h; simp
    · simp only [h, decide_false]
      rw [beq_eq_false_iff_ne]
      intro e
      refine h ?_
      rw [Go.Lib.toList_data, Go.Lib.toList_data] at e
      cases a; cases b
      simp_all
  refine WL_val rfl hdn hw _ w (fun a' ha => ?_) h
  unfold execOp
  simp only [evE_eval ha hx, evE_eval ha hy]
  simp [eqGuard, binOp_string_eql, binOp_string_neq, e1, strEq_eq]
theorem WL_sne_ {op : BinOp} {t t' : TypeId} {x y : Operand} {a b : ByteArray} (hdn : Nat.ble (d + 1) n = true) (hw : wants ops E g = some true) (hx : evE E x = some (.string a)) (hy : evE E y = some (.string b)) (hop : op = .neq)
    (h : WL P ops Q l n ((d, .bool (!strEq a b)) :: E) w) : WL P ops Q (⟨some d, .binOp op t x y t', ty, pos, aft, g⟩ :: l) n E w := by
  subst hop
  have e1 : (a.toList == b.toList) = decide (a = b) := by
    by_cases h : a = b
    · subst h; simp
    · simp only [h, decide_false]
      rw [beq_eq_false_iff_ne]
      intro e
      refine h ?_
      rw [Go.Lib.toList_data, Go.Lib.toList_data] at e
      cases a; cases b
      simp_all
  refine WL_val rfl hdn hw _ w (fun a' ha => ?_) h
  unfold execOp
  simp only [evE_eval ha hx, evE_eval ha hy]
  simp [eqGuard, binOp_string_eql, binOp_string_neq, e1, strEq_eq]
end
theorem strOfNums_inj {xs ys : List Int} (hx : ∀ x ∈ xs, 0 ≤ x ∧ x < 256) (hy : ∀ x ∈ ys, 0 ≤ x ∧ x < 256) : strOfNums xs = strOfNums ys ↔ xs = ys := by
  refine ⟨fun h => ?_, fun h => by rw [h]⟩
  have h1 : xs.map (fun n => UInt8.ofNat n.toNat) = ys.map (fun n => UInt8.ofNat n.toNat) := by rw [← strOfNums_data, ← strOfNums_data, h]
  have key : ∀ (xs ys : List Int), (∀ x ∈ xs, 0 ≤ x ∧ x < 256) → (∀ x ∈ ys, 0 ≤ x ∧ x < 256) → xs.map (fun n => UInt8.ofNat n.toNat) = ys.map (fun n => UInt8.ofNat n.toNat) → xs = ys := by
    intro xs
    induction xs with
    | nil => intro ys _ _ h; cases ys <;> simp_all
    | cons x r ih =>
      intro ys hx hy h
      cases ys with
      | nil => simp at h
      | cons y s =>
        simp only [List.map_cons, List.cons.injEq] at h
        have h0 := hx x (by simp)
        have h2 := hy y (by simp)
        have h3 := congrArg UInt8.toNat h.1
        simp only [UInt8.toNat_ofNat'] at h3
        rw [ih s (fun z hz => hx z (by simp [hz])) (fun z hz => hy z (by simp [hz])) h.2]
        congr 1
        omega
  exact key xs ys hx hy h1

/-! ### slices of integers, read; made rows, written -/
theorem lk_all {E : Env} : ∀ {L : Env}, AllV (lk E) L → ∀ t v, lk L t = some v → lk E t = some v := by
  intro L
  induction L with
  | nil => intro _ t v h; cases h
  | cons p r ih =>
    intro hA t v h
    obtain ⟨q, u⟩ := p
    unfold lk at h
    cases hb : Nat.beq q t with
    | true => rw [hb] at h; simp only [cond_true] at h; have := Nat.eq_of_beq_eq_true hb; subst this; exact hA.1.trans h
    | false => rw [hb] at h; exact ih hA.2 t v h
section
variable {P : Program} {ops : Array Oper} {Q : Exit → Act → World → Prop} {n : Nat} {E : Env} {w : World} {l : List Oper}
variable {dd : Option Tmp} {d : Nat} {ty : TypeId} {pos : String} {aft : Array Edge} {g : Option (Nat × Bool)}
/-- The address k cells on. -/
def ptr (A : Option Addr) (k : Nat) : Value := .pointer (A.map (·.add k))
theorem Cells.some_of {w : World} {A : Option Addr} {cs : List Value} (h : Cells w A cs) (hne : 0 < cs.length) : ∃ ad, A = some ad ∧ ∀ j v, cs[j]? = some v → w.cell? (ad.add j) = some v := by
  rcases h with h | h
  · subst h; simp at hne
  · exact h
/-- The address of an element of a slice. -/
theorem WL_indexS {t e s b : Nat} [hT : TSlice P t e s b] {x y : Operand} {A : Option Addr} {m c : Nat} {k : IntKind} {i : Int} {cs : List Value} (hdn : Nat.ble (d + 1) n = true) (hw : wants ops E g = some true) (hx : evE E x = some (.slice A m c)) (hy : evE E y = some (.int k i))
    (hC : Cells w A cs) (hl : 0 < cs.length) (h0 : 0 ≤ i) (h1 : i < (m : Int))
    (h : WL P ops Q l n ((d, ptr A (i.toNat * s)) :: E) w) : WL P ops Q (⟨some d, .indexAddr t x y, ty, pos, aft, g⟩ :: l) n E w := by
  obtain ⟨ad, rfl, _⟩ := hC.some_of hl
  exact WL_indexAddr hdn hw hx hy h0 h1 h
/-- The same of a slice of integers. -/
theorem WL_indexI {t e b : Nat} [hT : TSlice P t e 1 b] {x y : Operand} {A : Option Addr} {m c : Nat} {k kd : IntKind} {i : Int} {xs : List Int} (hdn : Nat.ble (d + 1) n = true) (hw : wants ops E g = some true) (hx : evE E x = some (.slice A m c)) (hy : evE E y = some (.int k i))
    (hC : Cells w A (xs.map (.int kd))) (hl : xs.length = m) (h0 : 0 ≤ i) (h1 : i < (m : Int))
    (h : WL P ops Q l n ((d, ptr A i.toNat) :: E) w) : WL P ops Q (⟨some d, .indexAddr t x y, ty, pos, aft, g⟩ :: l) n E w := by
  refine WL_indexS hdn hw hx hy hC (by simp; omega) h0 h1 ?_
  rw [Nat.mul_one]; exact h
/-- What is k cells on. -/
theorem WL_loadP {T : TypeId} [TScalar P T] {x : Operand} {A : Option Addr} {k : Nat} {cs : List Value} {v : Value} (hdn : Nat.ble (d + 1) n = true) (hw : wants ops E g = some true) (hx : evE E x = some (ptr A k))
    (hC : Cells w A cs) (hv : cs[k]? = some v) (h : WL P ops Q l n ((d, v) :: E) w) : WL P ops Q (⟨some d, .load T x, ty, pos, aft, g⟩ :: l) n E w := by
  have hne : 0 < cs.length := by cases cs <;> simp_all
  obtain ⟨ad, rfl, hc⟩ := hC.some_of hne
  exact WL_loadE hdn hw hx (hc k v hv) h
theorem WL_loadI {T : TypeId} [TScalar P T] {x : Operand} {A : Option Addr} {kd : IntKind} {xs : List Int} {i : Nat} (hdn : Nat.ble (d + 1) n = true) (hw : wants ops E g = some true) (hx : evE E x = some (ptr A i))
    (hC : Cells w A (xs.map (.int kd))) (hi : i < xs.length) (h : WL P ops Q l n ((d, .int kd (xs.getD i 0)) :: E) w) : WL P ops Q (⟨some d, .load T x, ty, pos, aft, g⟩ :: l) n E w := by
  refine WL_loadP hdn hw hx hC ?_ h
  rw [List.getElem?_map, List.getD_eq_getElem?_getD, List.getElem?_eq_getElem hi]; rfl
theorem WL_loadPA {T : TypeId} {s : Nat} [TAgg P T] [TSize P T s] {x : Operand} {A : Option Addr} {k : Nat} {cs vs : List Value} (hdn : Nat.ble (d + 1) n = true) (hw : wants ops E g = some true) (hx : evE E x = some (ptr A k))
    (hC : Cells w A cs) (hl : vs.length = s) (hne : 0 < cs.length) (hv : ∀ j v, vs[j]? = some v → cs[k + j]? = some v) (h : WL P ops Q l n ((d, .agg vs.toArray) :: E) w) : WL P ops Q (⟨some d, .load T x, ty, pos, aft, g⟩ :: l) n E w := by
  obtain ⟨ad, rfl, hc⟩ := hC.some_of hne
  refine WL_loadEA hdn hw hx hl (fun j v hj => ?_) h
  rw [add_add]
  exact hc _ _ (hv j v hj)
theorem WL_fieldP {S i fo ft sz : Nat} [hF : TField P S i fo ft sz] {x : Operand} {A : Option Addr} {k : Nat} {cs : List Value} (hdn : Nat.ble (d + 1) n = true) (hw : wants ops E g = some true) (hx : evE E x = some (ptr A k))
    (hC : Cells w A cs) (hne : 0 < cs.length) (h : WL P ops Q l n ((d, ptr A (k + fo)) :: E) w) : WL P ops Q (⟨some d, .fieldAddr S x i, ty, pos, aft, g⟩ :: l) n E w := by
  obtain ⟨ad, rfl, hc⟩ := hC.some_of hne
  refine WL_fieldAddrE hdn hw hx ?_
  rw [add_add]
  exact h
/-- Arithmetic of uint64 that does not wrap. -/
theorem WL_addU {t t' : TypeId} {x y : Operand} {a b : Int} (hdn : Nat.ble (d + 1) n = true) (hw : wants ops E g = some true) (hx : evE E x = some (.int .u64 a)) (hy : evE E y = some (.int .u64 b)) (hb : 0 ≤ a + b ∧ a + b ≤ 18446744073709551615)
    (h : WL P ops Q l n ((d, .int .u64 (a + b)) :: E) w) : WL P ops Q (⟨some d, .binOp .add t x y t', ty, pos, aft, g⟩ :: l) n E w := by
  refine WL_pure rfl hdn hw (v := .int .u64 (a + b)) ?_ h
  simp only [pureOp, hx, hy, wrap_id_u64 hb.1 hb.2]; rfl
theorem WL_subU {t t' : TypeId} {x y : Operand} {a b : Int} (hdn : Nat.ble (d + 1) n = true) (hw : wants ops E g = some true) (hx : evE E x = some (.int .u64 a)) (hy : evE E y = some (.int .u64 b)) (hb : 0 ≤ a - b ∧ a - b ≤ 18446744073709551615)
    (h : WL P ops Q l n ((d, .int .u64 (a - b)) :: E) w) : WL P ops Q (⟨some d, .binOp .sub t x y t', ty, pos, aft, g⟩ :: l) n E w := by
  refine WL_pure rfl hdn hw (v := .int .u64 (a - b)) ?_ h
  simp only [pureOp, hx, hy, wrap_id_u64 hb.1 hb.2]; rfl
theorem WL_mulU {t t' : TypeId} {x y : Operand} {a b : Int} (hdn : Nat.ble (d + 1) n = true) (hw : wants ops E g = some true) (hx : evE E x = some (.int .u64 a)) (hy : evE E y = some (.int .u64 b)) (hb : 0 ≤ a * b ∧ a * b ≤ 18446744073709551615)
    (h : WL P ops Q l n ((d, .int .u64 (a * b)) :: E) w) : WL P ops Q (⟨some d, .binOp .mul t x y t', ty, pos, aft, g⟩ :: l) n E w := by
  refine WL_pure rfl hdn hw (v := .int .u64 (a * b)) ?_ h
  simp only [pureOp, hx, hy, wrap_id_u64 hb.1 hb.2]; rfl
theorem WL_quoU {t t' : TypeId} {x y : Operand} {a b : Int} (hdn : Nat.ble (d + 1) n = true) (hw : wants ops E g = some true) (hx : evE E x = some (.int .u64 a)) (hy : evE E y = some (.int .u64 b)) (ha0 : 0 ≤ a ∧ a ≤ 18446744073709551615) (hb : 0 < b)
    (h : WL P ops Q l n ((d, .int .u64 (a / b)) :: E) w) : WL P ops Q (⟨some d, .binOp .quo t x y t', ty, pos, aft, g⟩ :: l) n E w := by
  refine WL_div hdn hw hx hy (by omega) rfl ?_
  have e : IntKind.u64.wrap (a.tdiv b) = a / b := by
    rw [Int.tdiv_eq_ediv_of_nonneg ha0.1]
    have h1 : 0 ≤ a / b := Int.ediv_nonneg ha0.1 (by omega)
    have h2 : a / b ≤ a := Int.ediv_le_self _ ha0.1
    exact wrap_id_u64 (by omega) (by omega)
  rw [e]; exact h
/-- A value of one cell into a block. -/
theorem WL_store1 {T : TypeId} [TSize P T 1] {x y : Operand} {b off : Nat} {cs : List Value} {T' : TypeId} {v : Value} (hw : wants ops E g = some true) (hx : evE E x = some (.pointer (some ⟨b, off, none⟩))) (hy : evE E y = some v)
    (hb : Blk w b cs T') (hv : v.cells = #[v]) (h1 : v.oneCell' = true) (hfit : off < cs.length)
    (h : ∀ w', w.heap.size ≤ w'.heap.size → ExtB b w w' → Blk w' b (cs.set off v) T' → WL P ops Q l n E w') : WL P ops Q (⟨none, .store T x y, ty, pos, aft, g⟩ :: l) n E w := by
  have hv' : v.cells.toList = [v] := by rw [hv]
  refine WL_store hw hx hy hb hv' rfl (by simp; omega) (fun u hu => by simp at hu; subst hu; exact h1) (fun w' hz hx hB => h w' hz hx ?_)
  have e : cs.set off v = cs.take off ++ [v] ++ cs.drop (off + [v].length) := by
    rw [List.set_eq_take_append_cons_drop, if_pos hfit]; simp
  rw [e]; exact hB
/-- The address of an element of a block's slice. -/
theorem WL_indexB {t e s b : Nat} [hT : TSlice P t e s b] {x y : Operand} {bk off m c i : Nat} {k : IntKind} {z : Int} (hdn : Nat.ble (d + 1) n = true) (hw : wants ops E g = some true) (hx : evE E x = some (.slice (some ⟨bk, off, none⟩) m c)) (hy : evE E y = some (.int k z)) (hz : z = (i : Int)) (h1 : i < m)
    (h : WL P ops Q l n ((d, .pointer (some ⟨bk, off + i * s, none⟩)) :: E) w) : WL P ops Q (⟨some d, .indexAddr t x y, ty, pos, aft, g⟩ :: l) n E w := by
  subst hz
  refine WL_indexAddr hdn hw hx hy (by omega) (by omega) ?_
  rw [add_plain', Int.toNat_natCast]; exact h
end
/-- A literal's parts, one cell each, none left out. -/
inductive LitP (E : Env) : Nat → List (Nat × Operand) → List Value → Prop
  | nil (k : Nat) : LitP E k [] []
  | cons {k : Nat} {x : Operand} {v : Value} {r : List (Nat × Operand)} {l : List Value} : evE E x = some v → v.cells = #[v] → LitP E (k + 1) r l → LitP E k ((k, x) :: r) (v :: l)
theorem LitP.fill {E : Env} {k : Nat} {parts : List (Nat × Operand)} {cs : List Value} (h : LitP E k parts cs) : ∃ ps, evP E parts = some ps ∧ parts.length = cs.length ∧ ∀ pre rest : List Value, pre.length = k → rest.length = parts.length → fillL 1 (pre ++ rest) ps = some (pre ++ cs) := by
  induction h with
  | nil k => exact ⟨[], rfl, rfl, fun pre rest _ hr => by simp at hr; subst hr; rfl⟩
  | @cons k x v r l hx hv _ ih =>
    obtain ⟨ps, hp, hlen, hf⟩ := ih
    refine ⟨(k, v) :: ps, by simp [evP, hx, hp], by simp [hlen], fun pre rest hpre hr => ?_⟩
    obtain ⟨u, rest', rfl⟩ : ∃ u rest', rest = u :: rest' := by cases rest with | nil => simp at hr | cons u t => exact ⟨u, t, rfl⟩
    have h1 := hf (pre ++ [v]) rest' (by simp [hpre]) (by simpa using hr)
    unfold fillL
    have hc : ¬ (v.cells.size ≠ 1 ∨ k * 1 + 1 > (pre ++ u :: rest').length) := by simp [hv, hpre]
    rw [if_neg hc]
    have e : (pre ++ u :: rest').take (k * 1) ++ v.cells.toList ++ (pre ++ u :: rest').drop (k * 1 + 1) = (pre ++ [v]) ++ rest' := by
      rw [Nat.mul_one, List.take_left' hpre, hv, List.drop_append, List.drop_of_length_le (by omega)]
      simp [hpre]
    rw [e, h1]
    simp
def plain1 : Value → Bool
  | .int _ _ | .bool _ | .slice _ _ _ | .pointer _ | .string _ => true
  | _ => false
theorem plain1_cells {v : Value} (h : plain1 v = true) : v.cells = #[v] := by cases v <;> simp_all [plain1, Value.cells]
def litV (E : Env) : Nat → List (Nat × Operand) → Option (List Value)
  | _, [] => some []
  | k, (i, x) :: r => bif Nat.beq i k then (match evE E x, litV E (k + 1) r with
    | some v, some l => bif plain1 v then some (v :: l) else none
    | _, _ => none) else none
theorem litV_spec {E : Env} : ∀ {parts : List (Nat × Operand)} {k : Nat} {cs : List Value}, litV E k parts = some cs → LitP E k parts cs := by
  intro parts
  induction parts with
  | nil => intro k cs h; simp [litV] at h; subst h; exact .nil k
  | cons p r ih =>
    intro k cs h
    obtain ⟨i, x⟩ := p
    unfold litV at h
    cases hb : Nat.beq i k with
    | false => rw [hb] at h; cases h
    | true =>
      rw [hb] at h
      simp only [cond_true] at h
      have := Nat.eq_of_beq_eq_true hb
      subst this
      split at h
      · rename_i v l h1 h2
        cases hp : plain1 v with
        | false => rw [hp] at h; cases h
        | true =>
          rw [hp] at h
          simp only [cond_true, Option.some.injEq] at h
          subst h
          exact .cons h1 (plain1_cells hp) (ih h2)
      · cases h
section
variable {P : Program} {ops : Array Oper} {Q : Exit → Act → World → Prop} {n : Nat} {E : Env} {w : World} {l : List Oper}
variable {dd : Option Tmp} {d : Nat} {ty : TypeId} {pos : String} {aft : Array Edge} {g : Option (Nat × Bool)}
/-- A literal of cells. -/
theorem WL_litC {t e b m : Nat} [hT : TSlice P t e 1 b] {z : Value} [hz : TZero P e z] {parts : Array (Nat × Operand)} {cs : List Value} (hdn : Nat.ble (d + 1) n = true) (hw : wants ops E g = some true) (hp : litV E 0 parts.toList = some cs) (hm : Nat.beq parts.toList.length m = true) (hm0 : Nat.blt 0 m = true) (hm1 : Nat.ble m 16777216 = true)
    (h : ∀ b' w', w.heap.size ≤ b' → b' < w'.heap.size → Ext w w' → Blk w' b' cs e → w'.ownsRow w.heap.size e 1 (.slice (some ⟨b', 0, none⟩) m m) m cs → WL P ops Q l n ((d, .slice (some ⟨b', 0, none⟩) m m) :: E) w') :
    WL P ops Q (⟨some d, .buildSlice t m parts, ty, pos, aft, g⟩ :: l) n E w := by
  obtain ⟨ps, hps, hlen, hf⟩ := (litV_spec hp).fill
  have hm' := Nat.eq_of_beq_eq_true hm
  have h9 : 1 ≤ m := by simpa [Nat.blt] using hm0
  have h0 : 0 < m := h9
  have h1 : m ≤ 16777216 := Nat.le_of_ble_eq_true hm1
  refine WL_lit (cs := cs) hdn hw hps ?_ (by omega) (by omega) (by omega) h
  have := hf [] (((Array.range (m * 1)).map (z.cells[· % z.cells.size]!)).toList) rfl (by simp [hm'])
  simpa using this
end
theorem own_ext {w w' : World} {base n : Nat} {e : TypeId} {size : Nat} {v : Value} {xs : List Value} (h : w.ownsRow base e size v n xs) (k : Ext w w') : w'.ownsRow base e size v n xs := by
  obtain ⟨hl, h2⟩ := h
  refine ⟨hl, ?_⟩
  rcases h2 with h2 | ⟨g, cap, cur, e1, hb, hg, h3⟩
  · exact .inl h2
  · exact .inr ⟨g, cap, cur, e1, hb, (k.block g (Array.getElem?_eq_some_iff.1 hg).1).trans hg, h3⟩
theorem own_rd {w : World} {base n : Nat} {e : TypeId} {size : Nat} {A : Option Addr} {m c : Nat} {xs : List Value} (h : w.ownsRow base e size (.slice A m c) n xs) : Cells w A xs := by
  obtain ⟨A', c', he, _, hC⟩ := own_cells h
  cases he; exact hC
theorem own_lt {w : World} {base n : Nat} {e : TypeId} {size : Nat} {v : Value} {xs : List Value} (h : w.ownsRow base e size v n xs) : ∀ g, v.ownBlock = some g → base ≤ g ∧ g < w.heap.size := by
  intro g hg
  rcases h.2 with ⟨rfl, _⟩ | ⟨g', cap, cur, rfl, hb, hh, _⟩
  · cases hg
  · simp [Value.ownBlock] at hg; subst hg; exact ⟨hb, (Array.getElem?_eq_some_iff.1 hh).1⟩
theorem own_nil (w : World) (base : Nat) (e : TypeId) (size : Nat) : w.ownsRow base e size (.slice none 0 0) 0 [] := ⟨by simp, .inl ⟨rfl, rfl⟩⟩
theorem own_blk {w : World} {b : Nat} {cs : List Value} {T : TypeId} {base m s : Nat} (h : Blk w b cs T) (hb : base ≤ b) (hl : cs.length = m * s) (hm : m ≤ maxLen) : w.ownsRow base T s (.slice (some ⟨b, 0, none⟩) m m) m cs :=
  ⟨hl, .inr ⟨b, m, _, rfl, hb, h, Nat.le_refl _, hm, by simpa using hl, by simp [← hl]⟩⟩
/-- An append to a call's own row keeps all that is older than the call. -/
theorem Ext.grown {w0 w w' : World} {base n : Nat} {e : TypeId} {size : Nat} {v : Value} {xs : List Value} (h : Ext w0 w) (ho : w.ownsRow base e size v n xs) (hb : w0.heap.size ≤ base) (k : w.grownBy w' v.ownBlock) : Ext w0 w' :=
  Below.grown h k h.size (fun g hg => Nat.le_trans hb (own_lt ho g hg).1)

section
variable {P : Program} {ops : Array Oper} {Q : Exit → Act → World → Prop} {n : Nat} {E : Env} {w : World} {l : List Oper}
variable {dd : Option Tmp} {d : Nat} {ty : TypeId} {pos : String} {aft : Array Edge} {g : Option (Nat × Bool)}
/-- append(v, x...) to the call's own row. -/
theorem WL_app {t e b : Nat} [hT : TSlice P t e 1 b] {z : Value} [hz : TZero P e z] {x y : Operand} {w0 : World} {v : Value} {m : Nat} {xs : List Value} {A : Option Addr} {k c : Nat} {news : List Value}
    (hdn : Nat.ble (d + 1) n = true) (hw : wants ops E g = some true) (hx : evE E x = some v) (hy : evE E y = some (.slice A k c)) (hzs : z.cells.size = 1) (hown : w.ownsRow w0.heap.size e 1 v m xs) (hx0 : Ext w0 w)
    (hc : Cells w A news) (hl : news.length = k) (h1 : ∀ u ∈ news, u.oneCell' = true) (h63 : m + k ≤ 4611686018427387904) (hbytes : (m + k) * b ≤ 140737488355328)
    (h : ∀ A' c' w', Ext w0 w' → w'.ownsRow w0.heap.size e 1 (.slice A' (m + k) c') (m + k) (xs ++ news) → w.grownBy w' v.ownBlock → WL P ops Q l n ((d, .slice A' (m + k) c') :: E) w') :
    WL P ops Q (⟨some d, .call { callee := .builtin .append, args := #[x, y], argTypes := #[t, t] }, ty, pos, aft, g⟩ :: l) n E w := by
  refine WL_append hdn hw hx hy hzs (by omega) hown hx0.size (by simpa using hl) hc h1 h63 hbytes (fun v' w' ho hg _ => ?_)
  obtain ⟨A', c', rfl, _, _⟩ := own_cells ho
  exact h A' c' w' (Ext.grown hx0 hown (Nat.le_refl _) hg) ho hg
theorem WL_appI {t e b : Nat} [hT : TSlice P t e 1 b] {z : Value} [hz : TZero P e z] {x y : Operand} {w0 : World} {v : Value} {m : Nat} {xs : List Value} {A : Option Addr} {k c : Nat} {kd : IntKind} {news : List Int}
    (hdn : Nat.ble (d + 1) n = true) (hw : wants ops E g = some true) (hx : evE E x = some v) (hy : evE E y = some (.slice A k c)) (hzs : z.cells.size = 1) (hown : w.ownsRow w0.heap.size e 1 v m xs) (hx0 : Ext w0 w)
    (hc : Cells w A (news.map (.int kd))) (hl : news.length = k) (h63 : m + k ≤ 4611686018427387904) (hbytes : (m + k) * b ≤ 140737488355328)
    (h : ∀ A' c' w', Ext w0 w' → w'.ownsRow w0.heap.size e 1 (.slice A' (m + k) c') (m + k) (xs ++ news.map (.int kd)) → w.grownBy w' v.ownBlock → WL P ops Q l n ((d, .slice A' (m + k) c') :: E) w') :
    WL P ops Q (⟨some d, .call { callee := .builtin .append, args := #[x, y], argTypes := #[t, t] }, ty, pos, aft, g⟩ :: l) n E w :=
  WL_app hdn hw hx hy hzs hown hx0 hc (by simpa using hl) (ints_oneCell kd news) h63 hbytes h
theorem plain1_one {v : Value} (h : plain1 v = true) : v.oneCell' = true := by cases v <;> simp_all [plain1, Value.oneCell']
theorem WL_appB {t e b : Nat} [hT : TSlice P t e 1 b] {z : Value} [hz : TZero P e z] {x y : Operand} {w0 : World} {v : Value} {m : Nat} {xs : List Value} {bk k c : Nat} {T : TypeId} {news : List Value}
    (hdn : Nat.ble (d + 1) n = true) (hw : wants ops E g = some true) (hx : evE E x = some v) (hy : evE E y = some (.slice (some ⟨bk, 0, none⟩) k c)) (hzs : z.cells.size = 1) (hown : w.ownsRow w0.heap.size e 1 v m xs) (hx0 : Ext w0 w)
    (hc : Blk w bk news T) (hl : news.length = k) (h1 : news.all plain1 = true) (h63 : m + k ≤ 4611686018427387904) (hbytes : (m + k) * b ≤ 140737488355328)
    (h : ∀ A' c' w', Ext w0 w' → w'.ownsRow w0.heap.size e 1 (.slice A' (m + k) c') (m + k) (xs ++ news) → w.grownBy w' v.ownBlock → WL P ops Q l n ((d, .slice A' (m + k) c') :: E) w') :
    WL P ops Q (⟨some d, .call { callee := .builtin .append, args := #[x, y], argTypes := #[t, t] }, ty, pos, aft, g⟩ :: l) n E w :=
  WL_app hdn hw hx hy hzs hown hx0 (by have := hc.cells 0; simpa using this) hl (fun u hu => plain1_one (List.all_eq_true.1 h1 u hu)) h63 hbytes h
end
end Go.Proofs.Ytemfngomfiimfaa.K
