/- Rules of 32 bits; append of a make; results out of two cells; THE STEP: one lemma a kind of goal, whose default argument holds the rules. Seat-free. -/
import Derived.Test.YtemfngomfiimfaaE
import Derived.Lib.AppendZerosOnto
set_option linter.unusedVariables false
set_option linter.unusedSimpArgs false
namespace Go.Proofs.Ytemfngomfiimfaa.K
open Go.RowKit Go.Lib
theorem wrap_id_u32 {m : Int} (h0 : 0 ≤ m) (h1 : m ≤ 4294967295) : IntKind.u32.wrap m = m := by rw [wrap_u32]; omega
theorem and16 {s : Int} (h : 0 ≤ s ∧ s ≤ 4294967295) : bitsV .and .u32 s 65535 = s % 65536 := by
  obtain ⟨n, rfl⟩ : ∃ n : Nat, s = (n : Int) := ⟨s.toNat, by omega⟩
  have hn : n < 2 ^ 32 := by omega
  unfold bitsV
  have e1 : (BitVec.ofInt IntKind.u32.bits (n : Int) &&& BitVec.ofInt IntKind.u32.bits 65535).toNat = n % 65536 := by
    show (BitVec.ofInt 32 (n : Int) &&& BitVec.ofInt 32 65535).toNat = _
    rw [BitVec.toNat_and, BitVec.toNat_ofInt, BitVec.toNat_ofInt]
    have e2 : (((n : Int) % ((2 ^ 32 : Nat) : Int))).toNat = n := by omega
    have e3 : ((65535 : Int) % ((2 ^ 32 : Nat) : Int)).toNat = 2 ^ 16 - 1 := by decide
    rw [e2, e3, Nat.and_two_pow_sub_one_eq_mod]
  simp only [e1]
  rw [wrap_id_u32 (by omega) (by omega)]
  omega
theorem or16 {a b : Int} (ha : 0 ≤ a ∧ a < 65536) (hb : 0 ≤ b ∧ b < 65536) : bitsV .or .u32 (a * 65536) b = a * 65536 + b := by
  obtain ⟨n, rfl⟩ : ∃ n : Nat, a = (n : Int) := ⟨a.toNat, by omega⟩
  obtain ⟨m, rfl⟩ : ∃ m : Nat, b = (m : Int) := ⟨b.toNat, by omega⟩
  unfold bitsV
  have e1 : (BitVec.ofInt IntKind.u32.bits ((n : Int) * 65536) ||| BitVec.ofInt IntKind.u32.bits (m : Int)).toNat = n * 65536 + m := by
    show (BitVec.ofInt 32 ((n : Int) * 65536) ||| BitVec.ofInt 32 (m : Int)).toNat = _
    rw [BitVec.toNat_or, BitVec.toNat_ofInt, BitVec.toNat_ofInt]
    have e2 : (((n : Int) * 65536) % ((2 ^ 32 : Nat) : Int)).toNat = n <<< 16 := by rw [Nat.shiftLeft_eq]; omega
    have e3 : ((m : Int) % ((2 ^ 32 : Nat) : Int)).toNat = m := by omega
    rw [e2, e3, ← Nat.shiftLeft_add_eq_or_of_lt (show m < 2 ^ 16 by omega), Nat.shiftLeft_eq]
  simp only [e1]
  rw [wrap_id_u32 (by omega) (by omega)]
  omega
section
variable {P : Program} {ops : Array Oper} {Q : Exit → Act → World → Prop} {n : Nat} {E : Env} {w : World} {l : List Oper}
variable {dd : Option Tmp} {d : Nat} {ty : TypeId} {pos : String} {aft : Array Edge} {g : Option (Nat × Bool)}
theorem WL_conv_u32 {s t : TypeId} {k' k0 : IntKind} [TInt P t .u32] [TInt P s k0] {x : Operand} {m : Int} (hdn : Nat.ble (d + 1) n = true) (hw : wants ops E g = some true) (hx : evE E x = some (.int k' m)) (hb : 0 ≤ m ∧ m ≤ 4294967295)
    (h : WL P ops Q l n ((d, .int .u32 m) :: E) w) : WL P ops Q (⟨some d, .convert s t x, ty, pos, aft, g⟩ :: l) n E w := by
  refine WL_conv hdn hw hx ?_
  rw [wrap_id_u32 hb.1 hb.2]; exact h
theorem WL_and16 {t t' : TypeId} {x y : Operand} {a : Int} (hdn : Nat.ble (d + 1) n = true) (hw : wants ops E g = some true) (hx : evE E x = some (.int .u32 a)) (hy : evE E y = some (.int .u32 65535)) (hb : 0 ≤ a ∧ a ≤ 4294967295)
    (h : WL P ops Q l n ((d, .int .u32 (a % 65536)) :: E) w) : WL P ops Q (⟨some d, .binOp .and t x y t', ty, pos, aft, g⟩ :: l) n E w :=
  WL_and hdn hw hx hy (by rw [and16 hb]; exact h)
theorem WL_shr16 {t t' : TypeId} {x y : Operand} {k' : IntKind} {a b : Int} (hdn : Nat.ble (d + 1) n = true) (hw : wants ops E g = some true) (hx : evE E x = some (.int .u32 a)) (hy : evE E y = some (.int k' b)) (hb : b = 16)
    (h : WL P ops Q l n ((d, .int .u32 (a / 65536)) :: E) w) : WL P ops Q (⟨some d, .binOp .shr t x y t', ty, pos, aft, g⟩ :: l) n E w := by
  subst hb
  exact WL_shr hdn hw hx hy (by decide) rfl h
theorem WL_shl16 {t t' : TypeId} {x y : Operand} {k' : IntKind} {a b : Int} (hdn : Nat.ble (d + 1) n = true) (hw : wants ops E g = some true) (hx : evE E x = some (.int .u32 a)) (hy : evE E y = some (.int k' b)) (hb : b = 16) (ha : 0 ≤ a ∧ a < 65536)
    (h : WL P ops Q l n ((d, .int .u32 (a * 65536)) :: E) w) : WL P ops Q (⟨some d, .binOp .shl t x y t', ty, pos, aft, g⟩ :: l) n E w := by
  subst hb
  refine WL_shl hdn hw hx hy (by decide) rfl ?_
  have e : IntKind.u32.wrap (a * 2 ^ min (Int.toNat 16) IntKind.u32.bits) = a * 65536 := by
    show IntKind.u32.wrap (a * 65536) = _
    rw [wrap_id_u32 (by omega) (by omega)]
  rw [e]; exact h
theorem WL_or16 {t t' : TypeId} {x y : Operand} {a b : Int} (hdn : Nat.ble (d + 1) n = true) (hw : wants ops E g = some true) (hx : evE E x = some (.int .u32 (a * 65536))) (hy : evE E y = some (.int .u32 b)) (ha : 0 ≤ a ∧ a < 65536) (hb : 0 ≤ b ∧ b < 65536)
    (h : WL P ops Q l n ((d, .int .u32 (a * 65536 + b)) :: E) w) : WL P ops Q (⟨some d, .binOp .or t x y t', ty, pos, aft, g⟩ :: l) n E w :=
  WL_or hdn hw hx hy (by rw [or16 ha hb]; exact h)
/-- Arithmetic of uint32 that does not wrap. -/
theorem WL_add32 {t t' : TypeId} {x y : Operand} {a b : Int} (hdn : Nat.ble (d + 1) n = true) (hw : wants ops E g = some true) (hx : evE E x = some (.int .u32 a)) (hy : evE E y = some (.int .u32 b)) (hb : 0 ≤ a + b ∧ a + b ≤ 4294967295)
    (h : WL P ops Q l n ((d, .int .u32 (a + b)) :: E) w) : WL P ops Q (⟨some d, .binOp .add t x y t', ty, pos, aft, g⟩ :: l) n E w := by
  refine WL_pure rfl hdn hw (v := .int .u32 (a + b)) ?_ h
  simp only [pureOp, hx, hy, wrap_id_u32 hb.1 hb.2]; rfl
theorem WL_mul32 {t t' : TypeId} {x y : Operand} {a b : Int} (hdn : Nat.ble (d + 1) n = true) (hw : wants ops E g = some true) (hx : evE E x = some (.int .u32 a)) (hy : evE E y = some (.int .u32 b)) (hb : 0 ≤ a * b ∧ a * b ≤ 4294967295)
    (h : WL P ops Q l n ((d, .int .u32 (a * b)) :: E) w) : WL P ops Q (⟨some d, .binOp .mul t x y t', ty, pos, aft, g⟩ :: l) n E w := by
  refine WL_pure rfl hdn hw (v := .int .u32 (a * b)) ?_ h
  simp only [pureOp, hx, hy, wrap_id_u32 hb.1 hb.2]; rfl
theorem WL_quo32 {t t' : TypeId} {x y : Operand} {a b : Int} (hdn : Nat.ble (d + 1) n = true) (hw : wants ops E g = some true) (hx : evE E x = some (.int .u32 a)) (hy : evE E y = some (.int .u32 b)) (ha0 : 0 ≤ a ∧ a ≤ 4294967295) (hb : 0 < b)
    (h : WL P ops Q l n ((d, .int .u32 (a / b)) :: E) w) : WL P ops Q (⟨some d, .binOp .quo t x y t', ty, pos, aft, g⟩ :: l) n E w := by
  refine WL_div hdn hw hx hy (by omega) rfl ?_
  have e : IntKind.u32.wrap (a.tdiv b) = a / b := by
    rw [Int.tdiv_eq_ediv_of_nonneg ha0.1]
    have h1 : 0 ≤ a / b := Int.ediv_nonneg ha0.1 (by omega)
    have h2 : a / b ≤ a := Int.ediv_le_self _ ha0.1
    exact wrap_id_u32 (by omega) (by omega)
  rw [e]; exact h
theorem WL_buildAR {T len e s : Nat} [hA : TArr P T len e s] {z : List Value} [hz : TZc P T z] {parts : Array (Nat × Operand)} {ps : List (Nat × Value)} {cs : List Value} (hdn : Nat.ble (d + 1) n = true) (hw : wants ops E g = some true) (hp : evP E parts.toList = some ps) (hf : fillL s z ps = some cs)
    (h : WL P ops Q l n ((d, .agg cs.toArray) :: E) w) : WL P ops Q (⟨some d, .build T parts, ty, pos, aft, g⟩ :: l) n E w := WL_buildA hdn hw hf hp h
end
section
variable {P : Program} {ops : Array Oper} {Q : Exit → Act → World → Prop} {n : Nat} {E : Env} {w : World} {l : List Oper}
variable {dd : Option Tmp} {d : Nat} {ty : TypeId} {pos : String} {aft : Array Edge} {g : Option (Nat × Bool)}
theorem run_append_room_zeros {t tn ty e : TypeId} {i : TypeInfo} {z : Value} {kq kn : IntKind} (ht : P.underlying t = some (.slice e)) (htn : P.underlying tn = some (.int kn)) (hi : P.info? e = some i) (hz : i.zero = some z)
    (g sLen sCap : Nat) (cur : Array Value) (hg : w.heap[g]? = some (.cells cur e (0, 0))) (k : Nat) (h0 : 0 < k) (hs : 0 < i.size) (hzs : z.cells.size = i.size) (h1 : ∀ u ∈ (Builtin.zeroCells z.cells k).toList, u.oneCell' = true)
    (h63 : ((sLen + k : Nat) : Int) ≤ 9223372036854775807) (h48 : k * i.bytes ≤ 281474976710656) (hroom : sLen + k ≤ sCap) (hfit : sLen * i.size + k * i.size ≤ cur.size) :
    (Builtin.append_ #[t, tn] ty #[.slice (some ⟨g, 0, none⟩) sLen sCap, .int kq k]).run P w =
      .ok (.slice (some ⟨g, 0, none⟩) (sLen + k) sCap) (w.setRow g (cur.toList.take (sLen * i.size) ++ (Builtin.zeroCells z.cells k).toList ++ cur.toList.drop (sLen * i.size + k * i.size)).toArray) := by
  have hk : k ≠ 0 := by omega
  have hw : IntKind.i64.wrap (k : Int) = k := by rw [IntKind.wrap_i64]; omega
  have h48i : ¬ (281474976710656 < (k : Int) * (i.bytes : Int)) := by
    rw [← Int.natCast_mul]
    omega
  have hneg : ¬ ((k : Int) < 0) := by omega
  have hns : ¬ (k * i.size = 0) := Nat.mul_ne_zero hk (by omega)
  have hlen : (Builtin.zeroCells z.cells k).toList.length = k * i.size := by rw [Array.length_toList, size_zeroCells, hzs]
  have hst := run_storeCells_at P g (sLen * i.size) e (Builtin.zeroCells z.cells k).toList 0 cur w hg (by rw [hlen]; simpa using hfit) h1
  simp only [Nat.add_zero, hlen] at hst
  simp [Builtin.append_, run_underlying ht, run_underlying htn, sizeOf, typeInfo, zeroValue, hi, hz, asInt, asIntOf, hw, hk, hneg, hns, h48i, hroom, Addr.add_lit, hst]
/-- append(v, make([]T, k)...): v a row of the call's own. -/
theorem run_append_rdZ {t tn e s b : Nat} [hT : TSlice P t e s b] {z : Value} [hz : TZero P e z] {kn kq : IntKind} (htn : P.underlying tn = some (.int kn)) (ty : TypeId) (hzs : z.cells.size = s) (hs : 0 < s) {base : Nat} {v : Value} {m : Nat} {xs : List Value} (hown : w.ownsRow base e s v m xs) (hbase : base ≤ w.heap.size)
    {k : Nat} (e0 : 0 < k) (h1 : ∀ u ∈ (Builtin.zeroCells z.cells k).toList, u.oneCell' = true) (h63 : m + k ≤ 4611686018427387904) (hbytes : (m + k) * b ≤ 140737488355328) :
    ∃ v' w', (Builtin.append_ #[t, tn] ty #[v, .int kq k]).run P w = .ok v' w' ∧ w'.ownsRow base e s v' (m + k) (xs ++ (Builtin.zeroCells z.cells k).toList) ∧ w.grownBy w' v.ownBlock ∧ (v'.ownBlock = v.ownBlock ∨ ∃ b', v'.ownBlock = some b' ∧ w.heap.size ≤ b') := by
  obtain ⟨inf, hinf, hsz, hby⟩ := slice_info (P := P) t
  have hz0 : inf.zero = some z := by have := hz.out; rw [hinf] at this; exact this
  have hl : (Builtin.zeroCells z.cells k).toList.length = k * s := by rw [Array.length_toList, size_zeroCells, hzs]
  have hkb : k * b ≤ 140737488355328 := Nat.le_trans (Nat.mul_le_mul_right _ (Nat.le_add_left k m)) hbytes
  have hgrow : ∀ (A0 : Option Addr) (c0 : Nat) (r : (Builtin.append_ #[t, tn] ty #[.slice A0 m c0, .int kq k]).run P w = .ok (.slice (some ⟨w.heap.size, 0, none⟩) (m + k) (grownCap w (m + k) c0 e)) (w.drew.alloc (.cells (xs.toArray ++ Builtin.zeroCells z.cells k ++ Builtin.zeroCells z.cells (grownCap w (m + k) c0 e - (m + k))) e))),
      ∃ v' w', (Builtin.append_ #[t, tn] ty #[.slice A0 m c0, .int kq k]).run P w = .ok v' w' ∧ w'.ownsRow base e s v' (m + k) (xs ++ (Builtin.zeroCells z.cells k).toList) ∧ w.grownBy w' (Value.slice A0 m c0).ownBlock ∧ (v'.ownBlock = (Value.slice A0 m c0).ownBlock ∨ ∃ b', v'.ownBlock = some b' ∧ w.heap.size ≤ b') := by
    intro A0 c0 r
    have hge := grownCap_ge w (m + k) c0 e
    have hcm : grownCap w (m + k) c0 e ≤ maxLen := grownCap_le_maxLen w (m + k) c0 e (by unfold maxLen; omega)
    refine ⟨_, _, r, ⟨by rw [List.length_append, hown.1, hl, Nat.add_mul], .inr ⟨w.heap.size, _, _, rfl, hbase, heap_alloc_new w.drew _, hge, hcm, ?_, ?_⟩⟩, ⟨rfl, rfl, rfl, by simp, fun i hi _ => Below.heap_alloc w.drew _ i hi⟩, .inr ⟨_, rfl, Nat.le_refl _⟩⟩
    · simp only [Array.size_append, List.size_toArray, size_zeroCells, hzs, hown.1, ← Nat.add_mul]
      congr 1
      omega
    · simp only [Array.toList_append, List.append_assoc]
      rw [← List.append_assoc, show (m + k) * s = (xs ++ (Builtin.zeroCells z.cells k).toList).length by rw [List.length_append, hown.1, hl, Nat.add_mul]]
      exact List.take_left
  have hl0 := hown.1
  rcases hown.2 with ⟨rfl, rfl⟩ | ⟨g0, cap0, cur0, rfl, h01, h02, h03, h04, h05, h06⟩
  · have hxs : xs = [] := List.eq_nil_of_length_eq_zero (by simpa using hl0)
    have hr2 := run_append_nil_zeros (P := P) w t tn ty e inf z kq kn hT.out htn hinf hz0 k e0 (by rw [hsz]; exact hs) (by omega) (by rw [hby]; omega)
    exact hgrow none 0 (by rw [Nat.zero_add, hr2, hxs]; simp)
  · by_cases hroom : m + k ≤ cap0
    · have hfit : m * s + k * s ≤ cur0.size := by rw [h05, ← Nat.add_mul]; exact Nat.mul_le_mul_right _ hroom
      have hr2 := run_append_room_zeros (P := P) (ty := ty) (kq := kq) hT.out htn hinf hz0 g0 m cap0 cur0 h02 k e0 (by rw [hsz]; exact hs) (by rw [hsz]; exact hzs) h1 (by omega) (by rw [hby]; omega) hroom (by rw [hsz]; exact hfit)
      rw [hsz] at hr2
      refine ⟨_, _, hr2, ⟨by rw [List.length_append, hl0, hl, Nat.add_mul], .inr ⟨g0, cap0, _, rfl, h01, setRow_heap w g0 cur0 _ e _ h02, hroom, h04, ?_, ?_⟩⟩, ⟨rfl, rfl, rfl, by simp, fun k _ hk => setRow_other w g0 k _ (fun e => hk (by simp [Value.ownBlock, e]))⟩, .inl rfl⟩
      · simp only [List.size_toArray, List.length_append, List.length_take, List.length_drop, Array.length_toList, size_zeroCells, hzs]
        omega
      · rw [h06, show (m + k) * s = (xs ++ (Builtin.zeroCells z.cells k).toList).length by rw [List.length_append, hl0, hl, Nat.add_mul]]
        exact List.take_left
    · have holds : ∀ j u, xs[j]? = some u → w.cell? ((⟨g0, 0, none⟩ : Addr).add j) = some u := hown.cells (g := g0) rfl
      have hold := run_firstCells_some (P := P) w.drew inf.size m ⟨g0, 0, none⟩ m cap0 xs (by rw [hsz]; exact hl0) (by simpa using holds)
      have hr2 := run_append_grow_zeros (P := P) w t tn ty e inf z kq kn hT.out htn hinf hz0 (some ⟨g0, 0, none⟩) m cap0 xs hold k e0 (by rw [hsz]; exact hs) (by omega) (by omega) (by rw [hby]; omega) (by rw [hby]; exact growslice_fits (by omega) hbytes)
      exact hgrow _ _ hr2
theorem zeroCells_int (kd : IntKind) (k : Nat) : (Builtin.zeroCells (Value.int kd 0).cells k).toList = (List.replicate k (0 : Int)).map (.int kd) := by
  unfold Builtin.zeroCells
  rw [List.map_replicate]
  apply List.ext_getElem
  · simp [Value.cells]
  · intro i h1 h2
    simp [Value.cells, Nat.mod_one]
theorem WL_appendZ {t tn e b : Nat} [hT : TSlice P t e 1 b] {kd kn kq : IntKind} [hz : TZero P e (.int kd 0)] [hn : TInt P tn kn] {x y : Operand} {base : Nat} {v : Value} {m : Nat} {xs : List Int} {z : Int} {k : Nat}
    (hdn : Nat.ble (d + 1) n = true) (hw : wants ops E g = some true) (hx : evE E x = some v) (hy : evE E y = some (.int kq z)) (hzk : z = (k : Int)) (hown : w.ownsRow base e 1 v m (xs.map (.int kd))) (hbase : base ≤ w.heap.size)
    (h0 : 0 < k) (h63 : m + k ≤ 4611686018427387904) (hbytes : (m + k) * b ≤ 140737488355328)
    (h : ∀ v' w', w'.ownsRow base e 1 v' (m + k) ((xs ++ List.replicate k 0).map (.int kd)) → w.grownBy w' v.ownBlock → (v'.ownBlock = v.ownBlock ∨ ∃ b', v'.ownBlock = some b' ∧ w.heap.size ≤ b') → WL P ops Q l n ((d, v') :: E) w') :
    WL P ops Q (⟨some d, .call { callee := .builtin .append, args := #[x, y], argTypes := #[t, tn] }, ty, pos, aft, g⟩ :: l) n E w := by
  subst hzk
  obtain ⟨v', w', hr, ho, hg, hb⟩ := run_append_rdZ (P := P) (t := t) (tn := tn) (e := e) (s := 1) (b := b) (z := .int kd 0) (kq := kq) hn.out ty rfl (by omega) hown hbase h0 (by rw [zeroCells_int]; exact ints_oneCell kd _) h63 hbytes
  rw [zeroCells_int, ← List.map_append] at ho
  refine WL_val rfl hdn hw v' w' (fun a ha => ?_) (h v' w' ho hg hb)
  refine builtin_val (args := [v, .int kq k]) (by simp [evL, hx, hy]) ?_ a ha
  simp only [builtin, Sem.run_bind, hr, Result.andThen_ok, Sem.run_pure]
theorem WL_appZG {t tn e b : Nat} [hT : TSlice P t e 1 b] {kd kn kq : IntKind} [hz : TZero P e (.int kd 0)] [hn : TInt P tn kn] {x y : Operand} {wk : World} {base T S : Nat} {v : Value} {m : Nat} {xs : List Int} {z : Int} {k : Nat}
    (hdn : Nat.ble (d + 1) n = true) (hw : wants ops E g = some true) (hx : evE E x = some v) (hy : evE E y = some (.int kq z)) (hzk : z = (k : Int)) (hown : wk.ownsRow base e 1 v m (xs.map (.int kd))) (hgap : OwnGap v T S) (hk : KeepO base T S wk.heap.size wk w) (hbase : base ≤ w.heap.size) (hS : S ≤ w.heap.size)
    (h0 : 0 < k) (h63 : m + k ≤ 4611686018427387904) (hbytes : (m + k) * b ≤ 140737488355328)
    (h : ∀ A' c' w', ExtR base T S wk.heap.size w w' → w.heap.size ≤ w'.heap.size → w'.ownsRow base e 1 (.slice A' (m + k) c') (m + k) ((xs ++ List.replicate k 0).map (.int kd)) → Cells w' A' ((xs ++ List.replicate k 0).map (.int kd)) → OwnGap (.slice A' (m + k) c') T S → WL P ops Q l n ((d, .slice A' (m + k) c') :: E) w') :
    WL P ops Q (⟨some d, .call { callee := .builtin .append, args := #[x, y], argTypes := #[t, tn] }, ty, pos, aft, g⟩ :: l) n E w := by
  have hlt : ∀ g, v.ownBlock = some g → (base ≤ g ∧ g < T) ∨ (S ≤ g ∧ g < wk.heap.size) := fun g hg => by have h1 := own_lt hown g hg; have h2 := hgap g hg; omega
  refine WL_appendZ hdn hw hx hy hzk (hk _ _ _ _ _ _ hown hlt) hbase h0 h63 hbytes (fun v' w' ho hg hgp => ?_)
  obtain ⟨A', c', rfl, _, _⟩ := own_cells ho
  exact h A' c' w' ⟨_, hlt, hg⟩ hg.size ho (own_rd ho) (fun x hx => by
    rcases hgp with e1 | ⟨b', e1, e2⟩
    · have := hlt x (by rw [← e1]; exact hx)
      omega
    · rw [e1] at hx
      cases hx
      exact .inr (by omega))
end
section
variable {P : Program} {Q : Exit → Act → World → Prop} {n : Nat} {E : Env} {w : World}
theorem run_loadVar_cell {T : TypeId} [TScalar P T] {b : Nat} {v : Value} {T' : TypeId} (hb : Blk w b [v] T') : (loadVar T ⟨b, 0, none⟩).run P w = .ok v w := by
  have h1 := run_loadAt_scalar (P := P) (T := T) (w := w) (a := ⟨b, 0, none⟩) (v := v) ((hb.cell 0).trans rfl)
  simpa only [Instr.loadAt, Instr.sureAddr, Sem.run_bind, Sem.run_pure, Result.andThen_ok] using h1
/-- Results out of two cells. -/
theorem WQ_bodyCC {fn : Func} {R : Ending → World → Prop} {t u : Tmp} {T U : TypeId} [TScalar P T] [TScalar P U] {b c : Nat} {v v' : Value} {T' U' : TypeId} {e : Exit} (he : e = .ret ∨ e = .normal) (hr : fn.results = #[.cell t T, .cell u U])
    (hv : lk E t = some (.pointer (some ⟨b, 0, none⟩))) (hv' : lk E u = some (.pointer (some ⟨c, 0, none⟩))) (hb : Blk w b [v] T') (hc : Blk w c [v'] U') (h : R (.returned (.tuple #[v, v'])) w) : WQ (bodyPost P fn R) e n E w := by
  intro a ha
  have h' : a.defers = [] ∧ ∃ v, (results fn a.tmps).run P w = .ok v w ∧ R (.returned v) w := by
    refine ⟨ha.2.1, _, ?_, h⟩
    have k1 := ha.2.2 t _ hv
    have k2 := ha.2.2 u _ hv'
    rw [Array.getD_eq_getD_getElem?] at k1 k2
    simp only [results, hr]
    simp [Sem.run_bind, Result.andThen, k1, k2, asAddr, run_loadVar_cell (P := P) (T := T) hb, run_loadVar_cell (P := P) (T := U) hc]
  rcases he with rfl | rfl <;> exact h'
end
/-! ### what a step leaves: tags, by which the walk names what comes in -/
structure Kb (p : Prop) : Prop where out : p
structure Ks (p : Prop) : Prop where out : p
structure Kl (p : Prop) : Prop where out : p
structure Km (p : Prop) : Prop where out : p
structure Ko (p : Prop) : Prop where out : p
structure Kp (p : Prop) : Prop where out : p
structure Ke (p : Prop) : Prop where out : p
structure Kg (p q : Prop) : Prop where
  l : p
  r : q
theorem wl_ {G R : Prop} (r : R) (h : R → G := by
    (intro r; first
      | exact WL_off rfl rfl rfl r
      | exact WL_off_none rfl rfl r
      | (refine WL_isBin ?_; first
        | exact WL_add32 rfl rfl rfl rfl om_ r
        | exact WL_mul32 rfl rfl rfl rfl om_ r
        | exact WL_quo32 rfl rfl rfl rfl om_ om_ r
        | exact WL_and16 rfl rfl rfl rfl om_ r
        | exact WL_shr16 rfl rfl rfl rfl om_ r
        | exact WL_shl16 rfl rfl rfl rfl om_ om_ r
        | exact WL_or16 rfl rfl rfl rfl om_ om_ r
        | exact WL_add rfl rfl rfl rfl om_ r
        | exact WL_sub rfl rfl rfl rfl om_ r
        | exact WL_mul rfl rfl rfl rfl om_ r
        | exact WL_addU rfl rfl rfl rfl om_ r
        | exact WL_subU rfl rfl rfl rfl om_ r
        | exact WL_mulU rfl rfl rfl rfl om_ r
        | exact WL_pure rfl rfl rfl rfl r
        | exact WL_quo rfl rfl rfl rfl om_ om_ r
        | exact WL_quoU rfl rfl rfl rfl om_ om_ r
        | exact WL_mod rfl rfl rfl rfl om_ om_ r
        | exact WL_and rfl rfl rfl rfl r
        | exact WL_or rfl rfl rfl rfl r
        | exact WL_xor rfl rfl rfl rfl r
        | exact WL_shl rfl rfl rfl rfl om_ rfl r
        | exact WL_shr rfl rfl rfl rfl om_ rfl r
        | exact WL_beqT rfl rfl rfl rfl (by with_reducible rfl) r
        | exact WL_beq rfl rfl rfl rfl rfl r
        | exact WL_eqT rfl rfl rfl rfl rfl as_ (by with_reducible rfl) r
        | exact WL_neT rfl rfl rfl rfl rfl as_ (by with_reducible rfl) r
        | exact WL_eqA rfl rfl rfl rfl rfl as_ as_ (Ke.out r)
        | exact WL_neA rfl rfl rfl rfl rfl as_ as_ (Ke.out r)
        | exact WL_nilEq rfl rfl rfl rfl r
        | exact WL_bne rfl rfl rfl rfl rfl r
        | exact WL_seq_ rfl rfl rfl rfl rfl r
        | exact WL_sne_ rfl rfl rfl rfl rfl r)
      | exact WL_pure rfl rfl rfl rfl r
      | (refine WL_isCall ?_; first
        | exact WL_len rfl rfl rfl r
        | (refine WL_isApp ?_; first
          | exact WL_app0 rfl rfl rfl rfl rfl cells_ len_ om_ om_ (Ko.out r)
          | exact WL_appL rfl rfl rfl rfl rfl as_ keepo_ om_ cells_ len_ om_ om_ (Kp.out r)
          | exact WL_appG rfl rfl rfl rfl rfl as_ as_ keepo_ om_ om_ cells_ len_ om_ om_ (Kp.out r)
          | exact WL_appR rfl rfl rfl rfl rfl as_ keepo_ om_ cells_ len_ om_ om_ (Kp.out r)
          | exact WL_appZG rfl rfl rfl rfl rfl as_ as_ keepo_ om_ om_ om_ om_ om_ (Kp.out r)
          | exact WL_appC rfl rfl rfl rfl rfl cells_ len_ cells_ len_ om_ om_ om_ (Ko.out r))
        | exact WL_max rfl rfl rfl r
        | exact WL_min rfl rfl rfl r)
      | (refine WL_isConv ?_; first
        | exact WL_conv_u32 rfl rfl rfl om_ r
        | exact WL_conv_i64 rfl rfl rfl om_ r
        | exact WL_conv_u64 rfl rfl rfl om_ r
        | exact WL_conv_u8 rfl rfl rfl r
        | exact WL_conv rfl rfl rfl r
        | exact WL_strB rfl rfl rfl blk_ rfl rfl r
        | exact WL_str2 rfl rfl rfl cells_ len_ r)
      | exact WL_allocZ rfl rfl (Kb.out r)
      | exact WL_buildZ rfl rfl rfl (by kernel_rfl) r
      | exact WL_buildP rfl rfl as_ rfl r
      | exact WL_build rfl rfl rfl rfl r
      | exact WL_boxA rfl rfl rfl (Kb.out r)
      | exact WL_box rfl rfl rfl (Kb.out r)
      | exact WL_alloc rfl rfl (Kb.out r)
      | (refine WL_isLoad ?_; first
        | exact WL_load rfl rfl rfl blk_ rfl r
        | exact WL_loadW rfl rfl rfl blk_ lr_ r
        | exact WL_loadS rfl rfl rfl blk_ as_ r
        | exact WL_loadP rfl rfl rfl cells_ (by rfl) r
        | exact WL_loadPA rfl rfl rfl cells_ as_ as_ as_ r
        | exact WL_loadI rfl rfl rfl cells_ om_ r)
      | (refine WL_isStore ?_; first
        | exact WL_storeF rfl rfl rfl blk_ rfl rfl rfl (Ks.out r)
        | exact WL_storeWP rfl rfl rfl blk_ lr_ lr_ as_ (Ks.out r)
        | exact WL_storeW rfl rfl rfl blk_ lr_ lr_ lr_ (Ks.out r)
        | exact WL_store rfl rfl rfl blk_ rfl rfl (Nat.le_of_ble_eq_true rfl) one_ (Ks.out r))
      | exact WL_fieldAddr rfl rfl rfl r
      | (refine WL_isIndexAddr ?_; first
        | exact WL_indexB rfl rfl rfl rfl rfl om_ r
        | exact WL_indexArr rfl rfl rfl rfl om_ om_ r
        | exact WL_indexI rfl rfl rfl rfl cells_ len_ om_ om_ r)
      | (refine WL_isSlice ?_; first
        | exact WL_cutHn rfl rfl rfl rfl om_ r
        | exact WL_cutHMn rfl rfl rfl rfl rfl om_ om_ r
        | exact WL_cutH0 rfl rfl rfl rfl om_ om_ r
        | exact WL_cutL rfl rfl rfl rfl om_ om_ r
        | exact WL_cutLH rfl rfl rfl rfl rfl om_ om_ om_ r
        | exact WL_cutHM0 rfl rfl rfl rfl rfl om_ om_ om_ r
        | exact WL_cutLHM rfl rfl rfl rfl rfl rfl om_ om_ om_ om_ r
        | exact WL_cutAll0 rfl rfl rfl r
        | exact WL_arrH0 rfl rfl rfl rfl om_ om_ r
        | exact WL_arrL rfl rfl rfl rfl om_ om_ r
        | exact WL_arrLH rfl rfl rfl rfl rfl om_ om_ om_ r
        | exact WL_sliceArr rfl rfl rfl r)
      | exact WL_indexA rfl rfl rfl rfl rfl om_ as_ r
      | exact WL_toArr rfl rfl rfl om_ r
      | exact WL_lit0I rfl rfl rfl (Km.out r)
      | exact WL_litC rfl rfl rfl rfl rfl rfl (Kl.out r)
      | ((fail_if_success (refine WL_decided rfl ?_)); exact WL_guard rfl rfl rfl rfl (Kg.l r) (Kg.r r)))) : G := h r
theorem wc_ {G R : Prop} (r : R) (h : R → G := by
    (intro r; first
      | exact WC_region r
      | exact WC_skip r
      | exact WC_ret r
      | exact WC_exit r
      | exact WC_block r
      | exact WC_cond_true rfl r
      | exact WC_cond_false rfl r
      | exact WC_cond rfl (Kg.l r) (Kg.r r))) : G := h r
theorem wq_ {G R : Prop} (r : R) (h : R → G := by
    (intro r; first
      | exact WQ_x (by assumption) rfl (by first | (exact fun h_ => absurd h_ (by decide)) | (exact fun _ => trivial) | (intro _; exact ext_)) r
      | exact WQ_then (by assumption) r
      | exact WQ_then_ret r
      | exact WQ_then_exit r
      | exact WQ_inBlock_exit r
      | exact WQ_inBlock_normal r
      | exact WQ_inBlock_ret r
      | exact WQ_inBlock_other rfl r
      | exact WQ_body1 (Or.inl rfl) rfl rfl r
      | exact WQ_body2 (Or.inl rfl) rfl rfl rfl r
      | exact WQ_body1 (Or.inr rfl) rfl rfl r
      | exact WQ_body2 (Or.inr rfl) rfl rfl rfl r
      | exact WQ_body0 (Or.inl rfl) rfl r
      | exact WQ_body0 (Or.inr rfl) rfl r
      | exact WQ_bodyC (Or.inl rfl) rfl rfl blk_ lr_ r
      | exact WQ_bodyC (Or.inr rfl) rfl rfl blk_ lr_ r
      | exact WQ_bodyCT (Or.inl rfl) rfl rfl rfl blk_ lr_ r
      | exact WQ_bodyCT (Or.inr rfl) rfl rfl rfl blk_ lr_ r
      | exact WQ_bodyCC (Or.inl rfl) rfl rfl rfl blk_ blk_ r
      | exact WQ_bodyCC (Or.inr rfl) rfl rfl rfl blk_ blk_ r)) : G := h r
theorem wx_ {G R : Prop} (r : R) (h : R → G := by
    (intro r; first
      | exact WX_nil r
      | (refine WX_isRd ?_; first
        | exact WX_off rfl rfl rfl rfl r
        | exact WX_ar rfl rfl rfl rfl rfl om_ r
        | exact WX_arU rfl rfl rfl rfl rfl om_ r
        | exact WX_pure rfl rfl rfl rfl rfl r
        | exact WX_len rfl rfl rfl rfl r))) : G := h r
theorem wxg_ {G R : Prop} (r : R) (h : R → G := by
    (intro r; ((fail_if_success (refine WX_decided rfl rfl ?_)); exact WX_guard rfl rfl rfl rfl rfl (Kg.l r) (Kg.r r)))) : G := h r
theorem wxe_ {G R : Prop} (r : R) (h : R → G := by
    (intro r; exact WX_guardE rfl rfl rfl rfl rfl (Kg.l r) (Kg.r r))) : G := h r
end Go.Proofs.Ytemfngomfiimfaa.K
