/- Rules for arrays and structs by value that hold arrays: zero values, equality, parts loaded and stored, a slice as an array. Seat-free. -/
import Derived.Test.YtemfngomfiimfaaC
import Derived.ChangeKeysEq
set_option linter.unusedVariables false
set_option linter.unusedSimpArgs false
namespace Go.Proofs.Ytemfngomfiimfaa.K
open Go.RowKit
/-- The zero value's cells. -/
class TZc (P : Program) (T : TypeId) (cs : outParam (List Value)) : Prop where
  out : (P.info? T).bind (·.zero) = some (.agg cs.toArray)
section
variable {P : Program} {ops : Array Oper} {Q : Exit → Act → World → Prop} {n : Nat} {E : Env} {w : World} {l : List Oper}
variable {dd : Option Tmp} {d : Nat} {ty : TypeId} {pos : String} {aft : Array Edge} {g : Option (Nat × Bool)}
theorem WL_allocZ {T : TypeId} {cs : List Value} [hz : TZc P T cs] (hdn : Nat.ble (d + 1) n = true) (hw : wants ops E g = some true)
    (h : ∀ b w', w.heap.size ≤ b → b < w'.heap.size → Ext w w' → Blk w' b cs T → WL P ops Q l n ((d, .pointer (some ⟨b, 0, none⟩)) :: E) w') :
    WL P ops Q (⟨some d, .alloc T, ty, pos, aft, g⟩ :: l) n E w := by
  haveI : TZero P T (.agg cs.toArray) := ⟨hz.out⟩
  exact WL_alloc hdn hw (fun b w' h1 h2 h3 h4 => h b w' h1 h2 h3 (by simpa [Value.cells] using h4))
theorem WL_buildZ {T : TypeId} {cs : List Value} [hz : TZc P T cs] [hA : TAgg P T] {parts : Array (Nat × Operand)} (hdn : Nat.ble (d + 1) n = true) (hw : wants ops E g = some true) (hp : parts.toList = []) (hb : (P.built T []).isSome = true)
    (h : WL P ops Q l n ((d, .agg cs.toArray) :: E) w) : WL P ops Q (⟨some d, .build T parts, ty, pos, aft, g⟩ :: l) n E w := by
  have hp' : parts = #[] := Array.toList_inj.1 (by simpa using hp)
  subst hp'
  refine WL_val rfl hdn hw _ w (fun a ha => ?_) h
  obtain ⟨cells, hc⟩ := Option.isSome_iff_exists.1 hb
  have hr := run_build (P := P) w T #[] cells hc
  have he : cells = cs.toArray := by
    have h1 := hz.out
    unfold Program.built at hc
    cases hi : P.info? T with
    | none => rw [hi] at h1; cases h1
    | some it =>
      rw [hi] at h1
      have h2 : it.zero = some (.agg cs.toArray) := h1
      cases hu : P.underlying T with
      | none => simp [hi, hu] at hc
      | some dsc =>
        cases dsc <;> simp only [hi, hu, h2] at hc <;> try (cases hc; done)
        · split at hc
          · rename_i hz1 hi1
            simp only [Option.some.injEq] at hz1
            subst hz1
            simp [Instr.fill, Value.cells] at hc
            exact hc.symm
          · cases hc
        · split at hc
          · rename_i hz1 hi1
            simp only [Option.some.injEq] at hz1
            subst hz1
            simp [Instr.fill, Value.cells] at hc
            exact hc.symm
          · cases hc
  unfold execOp
  have e0 : (Array.map (fun (x : Nat × Operand) => match x with | (i, x) => (i, a.eval x)) #[]) = #[] := by simp
  simp only [e0, Sem.run_bind, hr, Result.andThen_ok, he]
  rfl
theorem WL_buildP {T : TypeId} {z : List Value} {pl : List (Nat × Nat)} [hB : TBld P T z pl] {parts : Array (Nat × Operand)} {ps : List (Nat × Value)} {cs : List Value} (hdn : Nat.ble (d + 1) n = true) (hw : wants ops E g = some true) (hf : fillS pl z ps = some cs) (hp : evP E parts.toList = some ps)
    (h : WL P ops Q l n ((d, .agg cs.toArray) :: E) w) : WL P ops Q (⟨some d, .build T parts, ty, pos, aft, g⟩ :: l) n E w := WL_build hdn hw hp hf h
theorem setAts_spec : ∀ (vs cs : List Value) (off : Nat), off + vs.length ≤ cs.length → setAts cs off vs = cs.take off ++ vs ++ cs.drop (off + vs.length)
  | [], cs, off, h => by simp [setAts]
  | v :: vs, cs, off, h => by
    simp only [List.length_cons] at h
    rw [setAts, setAts_spec vs _ _ (by rw [setC_length]; omega), setC_spec (by omega)]
    have h1 : (cs.take off ++ [v] ++ cs.drop (off + 1)).take (off + 1) = cs.take off ++ [v] := by
      rw [List.take_append_of_le_length (by simp; omega), List.take_of_length_le (by simp; omega)]
    have h2 : (cs.take off ++ [v] ++ cs.drop (off + 1)).drop (off + 1 + vs.length) = cs.drop (off + (v :: vs).length) := by
      rw [List.drop_append, List.drop_of_length_le (by simp; omega), List.nil_append, List.drop_drop]
      congr 1
      simp; omega
    rw [h1, h2]; simp
/-- A part of a variable in memory, loaded and stored. -/
theorem WL_loadS {T : TypeId} {s : Nat} [TAgg P T] [TSize P T s] {x : Operand} {b off : Nat} {cs vs : List Value} {T' : TypeId} (hdn : Nat.ble (d + 1) n = true) (hw : wants ops E g = some true) (hx : evE E x = some (.pointer (some ⟨b, off, none⟩)))
    (hb : Blk w b cs T') (hv : Seg cs off s vs) (h : WL P ops Q l n ((d, .agg vs.toArray) :: E) w) : WL P ops Q (⟨some d, .load T x, ty, pos, aft, g⟩ :: l) n E w :=
  WL_loadA hdn hw hx hb hv.2.2 hv.1 h
theorem WL_storeP {T : TypeId} {s : Nat} [TSize P T s] {x y : Operand} {b off : Nat} {cs vs cs' : List Value} {T' : TypeId} (hw : wants ops E g = some true) (hx : evE E x = some (.pointer (some ⟨b, off, none⟩))) (hy : evE E y = some (.agg vs.toArray))
    (hb : Blk w b cs T') (hp : Put cs off vs cs') (hl : vs.length = s) (h1 : ∀ u ∈ vs, u.oneCell' = true)
    (h : ∀ w', w.heap.size ≤ w'.heap.size → ExtB b w w' → Blk w' b cs' T' → WL P ops Q l n E w') : WL P ops Q (⟨none, .store T x y, ty, pos, aft, g⟩ :: l) n E w :=
  WL_store hw hx hy hb (vs := vs) (by simp [Value.cells]) hl hp.1 h1 (fun w' k1 k2 k3 => h w' k1 k2 (by rw [← hp.2]; exact k3))
theorem WL_storeWP {T : TypeId} {s : Nat} [TSize P T s] {x y : Operand} {b : Nat} {cs vs : List Value} {T' : TypeId} (hw : wants ops E g = some true) (hx : evE E x = some (.pointer (some ⟨b, 0, none⟩))) (hy : evE E y = some (.agg vs.toArray))
    (hb : Blk w b cs T') (hl : vs.length = s) (hc : cs.length = vs.length) (h1 : ∀ u ∈ vs, u.oneCell' = true)
    (h : ∀ w', w.heap.size ≤ w'.heap.size → ExtB b w w' → Blk w' b vs T' → WL P ops Q l n E w') : WL P ops Q (⟨none, .store T x y, ty, pos, aft, g⟩ :: l) n E w :=
  WL_storeP hw hx hy hb (Put.all hc) hl h1 h
/-- [n]T(x), x no shorter. -/
theorem WL_toArr {t len e s : Nat} [hT : TArr P t len e s] {x : Operand} {A : Option Addr} {m c : Nat} (hdn : Nat.ble (d + 1) n = true) (hw : wants ops E g = some true) (hx : evE E x = some (.slice A m c)) (hm : len ≤ m)
    (h : WL P ops Q l n ((d, ptr A 0) :: E) w) : WL P ops Q (⟨some d, .sliceToArrayPointer t x, ty, pos, aft, g⟩ :: l) n E w := by
  have hp : ptr A 0 = .pointer A := by unfold ptr; cases A <;> simp [Addr.add]
  rw [hp] at h
  refine WL_val rfl hdn hw _ w (fun a ha => ?_) h
  have h1 : ¬ m < len := by omega
  have hr : (Instr.arrayAt t (.slice A m c)).run P w = .ok (.pointer A) w := by
    simp [Instr.arrayAt, Sem.run_bind, run_underlying hT.out, h1]
  unfold execOp
  simp only [evE_eval ha hx, Sem.run_bind, hr, Result.andThen_ok]
  rfl
end

/-! ### equality of values that hold no address -/
/-- Values of type T that S holds of are equal just where their cells are. -/
class TEq (P : Program) (T : TypeId) (a : outParam Bool) (s : outParam Nat) (D : outParam Nat) (S : outParam (List Value → Prop)) : Prop where
  cell : TCell P T a s
  size : P.cellsOf T = s
  eq : ∀ (w : World) (d : Nat) (vs us : List Value), D ≤ d → S vs → S us → ∃ r, (Op.equalIn d T (mkV a vs) (mkV a us)).run P w = .ok r w ∧ (r = true ↔ vs = us)
  len : ∀ vs, S vs → vs.length = s
def SInt (k : IntKind) (vs : List Value) : Prop := ∃ m, vs = [.int k m]
def SBool (vs : List Value) : Prop := ∃ b, vs = [.bool b]
def SArr (n s : Nat) (S : List Value → Prop) (cs : List Value) : Prop := cs.length = n * s ∧ ∀ i, i < n → S ((cs.drop (i * s)).take s)
def SFs : List (Nat × Nat × (List Value → Prop)) → List Value → Prop
  | [], _ => True
  | (o, s, R) :: r, cs => R ((cs.drop o).take s) ∧ SFs r cs
def SStr (s : Nat) (L : List (Nat × Nat × (List Value → Prop))) (cs : List Value) : Prop := cs.length = s ∧ SFs L cs
section
variable {P : Program}
theorem teq_int {t : TypeId} {k : IntKind} (hs : P.cellsOf t = 1) [hc : TCell P t false 1] (ht : P.underlying t = some (.int k)) : TEq P t false 1 1 (SInt k) :=
  ⟨hc, hs, fun w d vs us hd hv hu => by
    obtain ⟨x, rfl⟩ := hv
    obtain ⟨y, rfl⟩ := hu
    obtain ⟨d', rfl⟩ : ∃ d', d = d' + 1 := ⟨d - 1, by omega⟩
    exact ⟨x == y, run_equalIn_int w d' t k k x y ht, by simp⟩, fun vs h => by obtain ⟨x, rfl⟩ := h; rfl⟩
theorem teq_bool {t : TypeId} (hs : P.cellsOf t = 1) [hc : TCell P t false 1] (ht : P.underlying t = some .bool) : TEq P t false 1 1 SBool :=
  ⟨hc, hs, fun w d vs us hd hv hu => by
    obtain ⟨x, rfl⟩ := hv
    obtain ⟨y, rfl⟩ := hu
    obtain ⟨d', rfl⟩ : ∃ d', d = d' + 1 := ⟨d - 1, by omega⟩
    exact ⟨x == y, run_equalIn_bool' w d' t x y ht, by simp⟩, fun vs h => by obtain ⟨x, rfl⟩ := h; rfl⟩
theorem segs_eq {s : Nat} : ∀ (n : Nat) {vs us : List Value}, vs.length = n * s → us.length = n * s → (∀ i, i < n → (vs.drop (i * s)).take s = (us.drop (i * s)).take s) → vs = us
  | 0, vs, us, h1, h2, _ => (List.eq_nil_of_length_eq_zero (by simpa using h1)).trans (List.eq_nil_of_length_eq_zero (by simpa using h2)).symm
  | n + 1, vs, us, h1, h2, h => by
    rw [Nat.add_mul] at h1 h2
    have h3 := h 0 (by omega)
    simp only [Nat.zero_mul, List.drop_zero] at h3
    have h4 := segs_eq (s := s) n (vs := vs.drop s) (us := us.drop s) (by rw [List.length_drop]; omega) (by rw [List.length_drop]; omega) (fun i hi => by
      have := h (i + 1) (by omega)
      rw [List.drop_drop, List.drop_drop]
      rwa [Nat.add_mul, Nat.one_mul, Nat.add_comm (i * s) s] at this)
    rw [← List.take_append_drop s vs, ← List.take_append_drop s us, h3, h4]
theorem teq_arr {t e n s se D : Nat} {a : Bool} {S : List Value → Prop} (hs : P.cellsOf t = s) [hc : TCell P t true s] (ht : P.underlying t = some (.array n e)) (hi : (P.info? e).isSome = true) [he : TEq P e a se D S] (hn : s = n * se) : TEq P t true s (D + 1) (SArr n se S) :=
  ⟨hc, hs, fun w d vs us hd hv hu => by
    obtain ⟨d', rfl⟩ : ∃ d', d = d' + 1 := ⟨d - 1, by omega⟩
    obtain ⟨ie, hie⟩ := Option.isSome_iff_exists.1 hi
    have hr := run_equalIn_array (P := P) w d' vs.toArray us.toArray ht hie
    have key : ∀ (is : List Nat), (∀ i ∈ is, i < n) → ∃ r, (Op.eqItems d' e (P.cellsOf e) vs.toArray us.toArray is).run P w = .ok r w ∧ (r = true ↔ ∀ i ∈ is, (vs.drop (i * se)).take se = (us.drop (i * se)).take se) := by
      intro is
      induction is with
      | nil => intro _; exact ⟨true, by simp [Op.eqItems], by simp⟩
      | cons i is ih =>
        intro hlt
        have hin := hlt i (by simp)
        have le : i * se + se ≤ n * se := by rw [← Nat.succ_mul]; exact Nat.mul_le_mul_right _ hin
        have g1 : Seg vs (i * se) se ((vs.drop (i * se)).take se) := ⟨he.len _ (hv.2 i hin), by rw [hv.1]; exact le, rfl⟩
        have g2 : Seg us (i * se) se ((us.drop (i * se)).take se) := ⟨he.len _ (hu.2 i hin), by rw [hu.1]; exact le, rfl⟩
        have p1 := he.cell.part vs (i * se) _ w g1
        have p2 := he.cell.part us (i * se) _ w g2
        obtain ⟨r, hr, hri⟩ := he.eq w d' _ _ (by omega) (hv.2 i hin) (hu.2 i hin)
        obtain ⟨r', hr', hri'⟩ := ih (fun j hj => hlt j (by simp [hj]))
        simp only [Op.eqItems, he.size, Sem.run_bind, p1, p2, hr, Result.andThen_ok]
        cases r
        · exact ⟨false, by simp, by simp; intro h; exact absurd (hri.2 h) (by simp)⟩
        · refine ⟨r', by rw [he.size] at hr'; simpa using hr', ?_⟩
          rw [hri']
          simp [hri.1 rfl]
    obtain ⟨r, h1, h2⟩ := key (List.range n) (fun i hi => List.mem_range.1 hi)
    refine ⟨r, by show (Op.equalIn (d' + 1) t (.agg vs.toArray) (.agg us.toArray)).run P w = _; rw [hr]; exact h1, ?_⟩
    rw [h2]
    exact ⟨fun h => segs_eq n hv.1 hu.1 (fun i hi => h i (List.mem_range.2 hi)), fun h i _ => by rw [h]⟩, fun vs h => by rw [h.1, hn]⟩
inductive TEqL (P : Program) : List (Nat × TypeId) → Nat → Nat → List (Nat × Nat × (List Value → Prop)) → Prop
  | nil {off D : Nat} : TEqL P [] off D []
  | cons {o t s D' off D : Nat} {a : Bool} {S : List Value → Prop} {l : List (Nat × TypeId)} {L : List (Nat × Nat × (List Value → Prop))} (h : TEq P t a s D' S) (hd : D' ≤ D) (ho : o = off) : TEqL P l (off + s) D L → TEqL P ((o, t) :: l) off D ((o, s, S) :: L)
def totL : List (Nat × Nat × (List Value → Prop)) → Nat
  | [] => 0
  | (_, s, _) :: r => s + totL r
theorem teq_str {t s D : Nat} {l : List (Nat × TypeId)} {L : List (Nat × Nat × (List Value → Prop))} (hs : P.cellsOf t = s) [hc : TCell P t true s] (ht : P.underlying t = some (.struct (P.fieldsOf t))) (hp : P.stoodInHeld t = false)
    (hl : ((P.fieldsOf t).toList.map fun f => (f.offset, f.type)) = l) (hn : (P.fieldsOf t).toList.all (fun f => f.name != "_") = true) (hL : TEqL P l 0 D L) (htot : totL L = s) : TEq P t true s (D + 1) (SStr s L) :=
  ⟨hc, hs, fun w d vs us hd hv hu => by
    obtain ⟨d', rfl⟩ : ∃ d', d = d' + 1 := ⟨d - 1, by omega⟩
    have hr := run_equalIn_struct (P := P) w d' t vs.toArray us.toArray ht hp
    have key : ∀ (fs : List Field) (l : List (Nat × TypeId)) (off : Nat) (L : List (Nat × Nat × (List Value → Prop))), fs.map (fun f => (f.offset, f.type)) = l → fs.all (fun f => f.name != "_") = true → TEqL P l off D L → off + totL L = s → SFs L vs → SFs L us →
        ∃ r, (Op.eqFields d' vs.toArray us.toArray fs).run P w = .ok r w ∧ (r = true ↔ vs.drop off = us.drop off) := by
      intro fs
      induction fs with
      | nil =>
        intro l off L h1 _ h2 h3 _ _
        subst h1
        cases h2
        refine ⟨true, by simp [Op.eqFields], ?_⟩
        simp only [totL, Nat.add_zero] at h3
        rw [List.drop_of_length_le (by rw [hv.1]; omega), List.drop_of_length_le (by rw [hu.1]; omega)]
        simp
      | cons f fs ih =>
        intro l off L h1 hnm h2 h3 h4 h5
        subst h1
        cases h2 with
        | cons hE hD ho hrest =>
          rename_i s1 D1 a1 S1 L1
          simp only [List.all_cons, Bool.and_eq_true] at hnm
          simp only [totL] at h3
          obtain ⟨h4a, h4b⟩ := h4
          obtain ⟨h5a, h5b⟩ := h5
          rw [ho] at h4a h5a
          have g1 : Seg vs off s1 ((vs.drop off).take s1) := ⟨hE.len _ h4a, by rw [hv.1]; omega, rfl⟩
          have g2 : Seg us off s1 ((us.drop off).take s1) := ⟨hE.len _ h5a, by rw [hu.1]; omega, rfl⟩
          have p1 := hE.cell.part vs off _ w g1
          have p2 := hE.cell.part us off _ w g2
          obtain ⟨r, hr1, hri⟩ := hE.eq w d' _ _ (by omega) h4a h5a
          obtain ⟨r', hr', hri'⟩ := ih _ (off + s1) L1 rfl hnm.2 hrest (by omega) h4b h5b
          have hname : f.name ≠ "_" := by simpa using hnm.1
          simp only [Op.eqFields, hname, ne_eq, not_false_eq_true, if_true, ho, Sem.run_bind, p1, p2, hr1, Result.andThen_ok]
          have split : ∀ xs : List Value, xs.drop off = (xs.drop off).take s1 ++ xs.drop (off + s1) := fun xs => by rw [← List.drop_drop, List.take_append_drop]
          cases r
          · refine ⟨false, by simp, by simp; intro h; exact absurd (hri.2 (by rw [h])) (by simp)⟩
          · refine ⟨r', by simpa using hr', ?_⟩
            rw [hri', split vs, split us, hri.1 rfl]
            simp
    obtain ⟨r, h1, h2⟩ := key _ l 0 L hl hn hL (by omega) hv.2 hu.2
    exact ⟨r, by show (Op.equalIn (d' + 1) t (.agg vs.toArray) (.agg us.toArray)).run P w = _; rw [hr]; exact h1, by simpa using h2⟩, fun vs h => h.1⟩
class TEqG (P : Program) (T : TypeId) : Prop where out : P.eqGuardType P.depth T = false
variable {ops : Array Oper} {Q : Exit → Act → World → Prop} {n : Nat} {E : Env} {w : World} {l : List Oper}
variable {dd : Option Tmp} {d : Nat} {ty : TypeId} {pos : String} {aft : Array Edge} {g : Option (Nat × Bool)}
theorem WL_eqA {t t' : TypeId} {s D : Nat} {S : List Value → Prop} [hT : TEq P t true s D S] [hG : TEqG P t] {x y : Operand} {vs us : List Value} (hdn : Nat.ble (d + 1) n = true) (hw : wants ops E g = some true) (hx : evE E x = some (.agg vs.toArray)) (hy : evE E y = some (.agg us.toArray)) (hD : Nat.ble D 10000 = true) (h1 : S vs) (h2 : S us)
    (h : ∀ r : Bool, (r = true ↔ vs = us) → WL P ops Q l n ((d, .bool r) :: E) w) : WL P ops Q (⟨some d, .binOp .eql t x y t', ty, pos, aft, g⟩ :: l) n E w := by
  obtain ⟨r, hr, hri⟩ := hT.eq w 10000 vs us (Nat.le_of_ble_eq_true hD) h1 h2
  refine WL_val rfl hdn hw _ w (fun a ha => ?_) (h r hri)
  have hg := run_eqGuard_agg (P := P) w .eql t x y vs.toArray us.toArray hG.out
  have hq : (binOp .eql t (.agg vs.toArray) (.agg us.toArray)).run P w = .ok (.bool r) w := by
    rw [run_eql_struct]
    have : (Op.equalIn 10000 t (.agg vs.toArray) (.agg us.toArray)).run P w = .ok r w := hr
    rw [this]; rfl
  unfold execOp
  simp only [evE_eval ha hx, evE_eval ha hy, Sem.run_bind, hg, hq, Result.andThen_ok]
  rfl
theorem WL_neA {t t' : TypeId} {s D : Nat} {S : List Value → Prop} [hT : TEq P t true s D S] [hG : TEqG P t] {x y : Operand} {vs us : List Value} (hdn : Nat.ble (d + 1) n = true) (hw : wants ops E g = some true) (hx : evE E x = some (.agg vs.toArray)) (hy : evE E y = some (.agg us.toArray)) (hD : Nat.ble D 10000 = true) (h1 : S vs) (h2 : S us)
    (h : ∀ r : Bool, (r = true ↔ vs = us) → WL P ops Q l n ((d, .bool (!r)) :: E) w) : WL P ops Q (⟨some d, .binOp .neq t x y t', ty, pos, aft, g⟩ :: l) n E w := by
  obtain ⟨r, hr, hri⟩ := hT.eq w 10000 vs us (Nat.le_of_ble_eq_true hD) h1 h2
  refine WL_val rfl hdn hw _ w (fun a ha => ?_) (h r hri)
  have hg := run_eqGuard_agg (P := P) w .neq t x y vs.toArray us.toArray hG.out
  have hq : (binOp .neq t (.agg vs.toArray) (.agg us.toArray)).run P w = .ok (.bool (!r)) w := by
    rw [run_neq_struct]
    have : (Op.equalIn 10000 t (.agg vs.toArray) (.agg us.toArray)).run P w = .ok r w := hr
    rw [this]; rfl
  unfold execOp
  simp only [evE_eval ha hx, evE_eval ha hy, Sem.run_bind, hg, hq, Result.andThen_ok]
  rfl
end
section
variable {P : Program} {ops : Array Oper} {Q : Exit → Act → World → Prop} {n : Nat} {E : Env} {w : World} {l : List Oper}
variable {dd : Option Tmp} {d : Nat} {ty : TypeId} {pos : String} {aft : Array Edge} {g : Option (Nat × Bool)}
theorem WL_eqT {t t' : TypeId} {s D : Nat} {S : List Value → Prop} [hT : TEq P t true s D S] [hG : TEqG P t] {x y : Operand} {vs us : List Value} (hdn : Nat.ble (d + 1) n = true) (hw : wants ops E g = some true) (hx : evE E x = some (.agg vs.toArray)) (hy : evE E y = some (.agg us.toArray)) (hD : Nat.ble D 10000 = true) (h1 : S vs) (he : vs = us)
    (h : WL P ops Q l n ((d, .bool true) :: E) w) : WL P ops Q (⟨some d, .binOp .eql t x y t', ty, pos, aft, g⟩ :: l) n E w := by
  subst he
  refine WL_eqA hdn hw hx hy hD h1 h1 (fun r hr => ?_)
  obtain rfl : r = true := hr.2 rfl
  exact h
theorem WL_neT {t t' : TypeId} {s D : Nat} {S : List Value → Prop} [hT : TEq P t true s D S] [hG : TEqG P t] {x y : Operand} {vs us : List Value} (hdn : Nat.ble (d + 1) n = true) (hw : wants ops E g = some true) (hx : evE E x = some (.agg vs.toArray)) (hy : evE E y = some (.agg us.toArray)) (hD : Nat.ble D 10000 = true) (h1 : S vs) (he : vs = us)
    (h : WL P ops Q l n ((d, .bool false) :: E) w) : WL P ops Q (⟨some d, .binOp .neq t x y t', ty, pos, aft, g⟩ :: l) n E w := by
  subst he
  refine WL_neA hdn hw hx hy hD h1 h1 (fun r hr => ?_)
  obtain rfl : r = true := hr.2 rfl
  exact h
theorem WL_makeI {t e b : Nat} [hT : TSlice P t e 1 b] {kd : IntKind} [hz : TZero P e (.int kd 0)] {x y : Operand} {i i' : Int} {k k' : IntKind} (m : Nat) {xs : List Int} (hxs : List.replicate m (0 : Int) = xs) (hdn : Nat.ble (d + 1) n = true) (hw : wants ops E g = some true) (hx : evE E x = some (.int k i)) (hy : evE E y = some (.int k' i')) (hi : i = (m : Int)) (hi' : i' = (m : Int))
    (hbytes : b * m ≤ 281474976710656) (h63 : m ≤ 4611686018427387904)
    (h : ∀ b' w', w.heap.size ≤ b' → b' < w'.heap.size → Ext w w' → w'.ownsRow w.heap.size e 1 (.slice (some ⟨b', 0, none⟩) m m) m (xs.map (.int kd)) → Cells w' (some ⟨b', 0, none⟩) (xs.map (.int kd)) → WL P ops Q l n ((d, .slice (some ⟨b', 0, none⟩) m m) :: E) w') :
    WL P ops Q (⟨some d, .makeSlice t x y, ty, pos, aft, g⟩ :: l) n E w := by
  refine WL_make hdn hw hx hy hi hi' rfl hbytes h63 (fun b' w' h1 h2 h3 _ h5 => ?_)
  have e : List.replicate m (Value.int kd 0) = xs.map (.int kd) := by rw [← hxs, List.map_replicate]
  rw [e] at h5
  exact h b' w' h1 h2 h3 h5 (own_rd h5)
/-- An array by value, its parts laid in. -/
theorem WL_buildA {T len e s : Nat} [hA : TArr P T len e s] {z : List Value} [hz : TZc P T z] {parts : Array (Nat × Operand)} {ps : List (Nat × Value)} {cs : List Value} (hdn : Nat.ble (d + 1) n = true) (hw : wants ops E g = some true) (hf : fillL s z ps = some cs) (hp : evP E parts.toList = some ps)
    (h : WL P ops Q l n ((d, .agg cs.toArray) :: E) w) : WL P ops Q (⟨some d, .build T parts, ty, pos, aft, g⟩ :: l) n E w := by
  refine WL_val rfl hdn hw _ w (fun a ha => ?_) h
  have e1 : parts.map (fun (x : Nat × Operand) => match x with | (i, x) => (i, a.eval x)) = ps.toArray := by
    apply Array.toList_inj.1
    rw [Array.toList_map]
    exact evP_eval ha hp
  have hr : (Instr.build T ps.toArray).run P w = .ok (.agg cs.toArray) w := by
    refine run_build (P := P) w T ps.toArray cs.toArray ?_
    unfold Program.built
    have h1 := hz.out
    have h2 := hA.size
    cases hi : P.info? T with
    | none => rw [hi] at h1; cases h1
    | some it =>
      rw [hi] at h1
      have h3 : it.zero = some (.agg z.toArray) := h1
      cases hie : P.info? e with
      | none => rw [hie] at h2; cases h2
      | some ie =>
        rw [hie] at h2
        simp only [Option.map_some, Option.some.injEq] at h2
        simp only [hA.out, h3, hie, h2]
        have := fill_fillL s ps z.toArray cs (by simpa using hf)
        simpa [Value.cells] using this
  unfold execOp
  simp only [e1, Sem.run_bind, hr, Result.andThen_ok]
  rfl
end
section
variable {P : Program} {ops : Array Oper} {Q : Exit → Act → World → Prop} {n : Nat} {E : Env} {w : World} {l : List Oper}
variable {dd : Option Tmp} {d : Nat} {ty : TypeId} {pos : String} {aft : Array Edge} {g : Option (Nat × Bool)}
theorem WL_eqF {t t' : TypeId} {s D : Nat} {S : List Value → Prop} [hT : TEq P t true s D S] [hG : TEqG P t] {x y : Operand} {vs us : List Value} (hdn : Nat.ble (d + 1) n = true) (hw : wants ops E g = some true) (hx : evE E x = some (.agg vs.toArray)) (hy : evE E y = some (.agg us.toArray)) (hD : Nat.ble D 10000 = true) (h1 : S vs) (h2 : S us) (he : ¬ vs = us)
    (h : WL P ops Q l n ((d, .bool false) :: E) w) : WL P ops Q (⟨some d, .binOp .eql t x y t', ty, pos, aft, g⟩ :: l) n E w := by
  refine WL_eqA hdn hw hx hy hD h1 h2 (fun r hr => ?_)
  cases r with
  | true => exact absurd (hr.1 rfl) he
  | false => exact h
theorem WL_neF {t t' : TypeId} {s D : Nat} {S : List Value → Prop} [hT : TEq P t true s D S] [hG : TEqG P t] {x y : Operand} {vs us : List Value} (hdn : Nat.ble (d + 1) n = true) (hw : wants ops E g = some true) (hx : evE E x = some (.agg vs.toArray)) (hy : evE E y = some (.agg us.toArray)) (hD : Nat.ble D 10000 = true) (h1 : S vs) (h2 : S us) (he : ¬ vs = us)
    (h : WL P ops Q l n ((d, .bool true) :: E) w) : WL P ops Q (⟨some d, .binOp .neq t x y t', ty, pos, aft, g⟩ :: l) n E w := by
  refine WL_neA hdn hw hx hy hD h1 h2 (fun r hr => ?_)
  cases r with
  | true => exact absurd (hr.1 rfl) he
  | false => exact h
theorem WL_beqT {t t' : TypeId} [ht : TBool P t] {x y : Operand} {a b : Bool} (hdn : Nat.ble (d + 1) n = true) (hw : wants ops E g = some true) (hx : evE E x = some (.bool a)) (hy : evE E y = some (.bool b)) (he : a = b)
    (h : WL P ops Q l n ((d, .bool true) :: E) w) : WL P ops Q (⟨some d, .binOp .eql t x y t', ty, pos, aft, g⟩ :: l) n E w := by
  subst he
  refine WL_beq hdn hw hx hy rfl ?_
  rw [beq_self_eq_true]
  exact h
end
end Go.Proofs.Ytemfngomfiimfaa.K
