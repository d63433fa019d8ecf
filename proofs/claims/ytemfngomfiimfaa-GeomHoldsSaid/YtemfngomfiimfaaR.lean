/- More rules of our own walk: appends, slices, arrays, structs by value, strings, equality. Seat-free. -/
import Derived.Test.YtemfngomfiimfaaM
set_option linter.unusedVariables false
set_option linter.unusedSimpArgs false
namespace Go.Proofs.Ytemfngomfiimfaa.K
open Go.RowKit

section ops
variable {P : Program} {ops : Array Oper} {Q : Exit → Act → World → Prop} {n : Nat} {E : Env} {w : World} {l : List Oper}
variable {dd : Option Tmp} {d : Nat} {ty : TypeId} {pos : String} {aft : Array Edge} {g : Option (Nat × Bool)}

/-! ### builtins -/
theorem builtin_val {b : Builtin} {as : Array Operand} {ts : Array TypeId} {args : List Value} (hargs : evL E as.toList = some args) {v : Value} {w' : World}
    (hr : (builtin b ts ty (as.map fun | .const _ => true | _ => false) args.toArray).run P w = .ok (.value v) w') (a : Act) (ha : Agr n E a) {dst : Option Tmp} :
    (execOp a.eval ⟨dst, .call { callee := .builtin b, args := as, argTypes := ts }, ty, pos, aft, g⟩).run P w = .ok (.value v) w' := by
  have e1 : as.map a.eval = args.toArray := by
    apply Array.toList_inj.1
    rw [Array.toList_map, evL_eval ha hargs]
  unfold execOp
  simp only [resolve, e1, invoke, Sem.run_bind, Sem.run_pure, Result.andThen_ok]
  exact hr
theorem WL_max {as : Array Operand} {ts : Array TypeId} {k k' : IntKind} {a b : Int} (hdn : Nat.ble (d + 1) n = true) (hw : wants ops E g = some true) (hargs : evL E as.toList = some [.int k a, .int k' b])
    (h : WL P ops Q l n ((d, .int k (max a b)) :: E) w) : WL P ops Q (⟨some d, .call { callee := .builtin .max, args := as, argTypes := ts }, ty, pos, aft, g⟩ :: l) n E w := by
  refine WL_val rfl hdn hw _ w (fun a' ha => builtin_val hargs ?_ a' ha) h
  have : (if b > a then b else a) = max a b := by omega
  simp [builtin, Builtin.max_, Builtin.max2, this]
theorem WL_min {as : Array Operand} {ts : Array TypeId} {k k' : IntKind} {a b : Int} (hdn : Nat.ble (d + 1) n = true) (hw : wants ops E g = some true) (hargs : evL E as.toList = some [.int k a, .int k' b])
    (h : WL P ops Q l n ((d, .int k (min a b)) :: E) w) : WL P ops Q (⟨some d, .call { callee := .builtin .min, args := as, argTypes := ts }, ty, pos, aft, g⟩ :: l) n E w := by
  refine WL_val rfl hdn hw _ w (fun a' ha => builtin_val hargs ?_ a' ha) h
  have : (if b < a then b else a) = min a b := by omega
  simp [builtin, Builtin.min_, Builtin.min2, this]

/-! ### arithmetic without a wrap -/
theorem wrap_id_i64 {m : Int} (h0 : -9223372036854775808 ≤ m) (h1 : m ≤ 9223372036854775807) : IntKind.i64.wrap m = m := IntWalk.i64_in _ ⟨h0, h1⟩
theorem WL_add {t t' : TypeId} {x y : Operand} {a b : Int} (hdn : Nat.ble (d + 1) n = true) (hw : wants ops E g = some true) (hx : evE E x = some (.int .i64 a)) (hy : evE E y = some (.int .i64 b)) (hb : -9223372036854775808 ≤ a + b ∧ a + b ≤ 9223372036854775807)
    (h : WL P ops Q l n ((d, .int .i64 (a + b)) :: E) w) : WL P ops Q (⟨some d, .binOp .add t x y t', ty, pos, aft, g⟩ :: l) n E w := by
  refine WL_pure rfl hdn hw (v := .int .i64 (a + b)) ?_ h
  simp only [pureOp, hx, hy, wrap_id_i64 hb.1 hb.2]; rfl
theorem WL_sub {t t' : TypeId} {x y : Operand} {a b : Int} (hdn : Nat.ble (d + 1) n = true) (hw : wants ops E g = some true) (hx : evE E x = some (.int .i64 a)) (hy : evE E y = some (.int .i64 b)) (hb : -9223372036854775808 ≤ a - b ∧ a - b ≤ 9223372036854775807)
    (h : WL P ops Q l n ((d, .int .i64 (a - b)) :: E) w) : WL P ops Q (⟨some d, .binOp .sub t x y t', ty, pos, aft, g⟩ :: l) n E w := by
  refine WL_pure rfl hdn hw (v := .int .i64 (a - b)) ?_ h
  simp only [pureOp, hx, hy, wrap_id_i64 hb.1 hb.2]; rfl
theorem WL_mul {t t' : TypeId} {x y : Operand} {a b : Int} (hdn : Nat.ble (d + 1) n = true) (hw : wants ops E g = some true) (hx : evE E x = some (.int .i64 a)) (hy : evE E y = some (.int .i64 b)) (hb : -9223372036854775808 ≤ a * b ∧ a * b ≤ 9223372036854775807)
    (h : WL P ops Q l n ((d, .int .i64 (a * b)) :: E) w) : WL P ops Q (⟨some d, .binOp .mul t x y t', ty, pos, aft, g⟩ :: l) n E w := by
  refine WL_pure rfl hdn hw (v := .int .i64 (a * b)) ?_ h
  simp only [pureOp, hx, hy, wrap_id_i64 hb.1 hb.2]; rfl
/-- a / b, both not below nought. -/
theorem WL_quo {t t' : TypeId} {x y : Operand} {a b : Int} (hdn : Nat.ble (d + 1) n = true) (hw : wants ops E g = some true) (hx : evE E x = some (.int .i64 a)) (hy : evE E y = some (.int .i64 b)) (ha0 : 0 ≤ a ∧ a ≤ 9223372036854775807) (hb : 0 < b)
    (h : WL P ops Q l n ((d, .int .i64 (a / b)) :: E) w) : WL P ops Q (⟨some d, .binOp .quo t x y t', ty, pos, aft, g⟩ :: l) n E w := by
  refine WL_div hdn hw hx hy (by omega) rfl ?_
  have e : IntKind.i64.wrap (a.tdiv b) = a / b := by
    rw [Int.tdiv_eq_ediv_of_nonneg ha0.1]
    have h1 : 0 ≤ a / b := Int.ediv_nonneg ha0.1 (by omega)
    have h2 : a / b ≤ a := Int.ediv_le_self _ ha0.1
    exact wrap_id_i64 (by omega) (by omega)
  rw [e]; exact h
theorem WL_mod {t t' : TypeId} {x y : Operand} {k : IntKind} {a b : Int} (hdn : Nat.ble (d + 1) n = true) (hw : wants ops E g = some true) (hx : evE E x = some (.int k a)) (hy : evE E y = some (.int k b)) (ha0 : 0 ≤ a) (hb : 0 < b)
    (h : WL P ops Q l n ((d, .int k (a % b)) :: E) w) : WL P ops Q (⟨some d, .binOp .rem t x y t', ty, pos, aft, g⟩ :: l) n E w := by
  refine WL_rem hdn hw hx hy (by omega) rfl ?_
  rw [Int.tmod_eq_emod_of_nonneg ha0]; exact h
/-- A number of another kind, where it fits. -/
theorem WL_conv_i64 {s t : TypeId} {k' k0 : IntKind} [TInt P t .i64] [TInt P s k0] {x : Operand} {m : Int} (hdn : Nat.ble (d + 1) n = true) (hw : wants ops E g = some true) (hx : evE E x = some (.int k' m)) (hb : -9223372036854775808 ≤ m ∧ m ≤ 9223372036854775807)
    (h : WL P ops Q l n ((d, .int .i64 m) :: E) w) : WL P ops Q (⟨some d, .convert s t x, ty, pos, aft, g⟩ :: l) n E w := by
  refine WL_conv hdn hw hx ?_
  rw [wrap_id_i64 hb.1 hb.2]; exact h
theorem wrap_id_u64 {m : Int} (h0 : 0 ≤ m) (h1 : m ≤ 18446744073709551615) : IntKind.u64.wrap m = m := by
  simp [IntKind.wrap, IntKind.min, IntKind.max, IntKind.signed, IntKind.bits]; omega
theorem WL_conv_u64 {s t : TypeId} {k' k0 : IntKind} [TInt P t .u64] [TInt P s k0] {x : Operand} {m : Int} (hdn : Nat.ble (d + 1) n = true) (hw : wants ops E g = some true) (hx : evE E x = some (.int k' m)) (hb : 0 ≤ m ∧ m ≤ 18446744073709551615)
    (h : WL P ops Q l n ((d, .int .u64 m) :: E) w) : WL P ops Q (⟨some d, .convert s t x, ty, pos, aft, g⟩ :: l) n E w := by
  refine WL_conv hdn hw hx ?_
  rw [wrap_id_u64 hb.1 hb.2]; exact h
theorem wrap_u8 (m : Int) : IntKind.u8.wrap m = m % 256 := by
  simp [IntKind.wrap, IntKind.min, IntKind.max, IntKind.signed, IntKind.bits]
theorem wrap_u64 (m : Int) : IntKind.u64.wrap m = m % 18446744073709551616 := by
  simp [IntKind.wrap, IntKind.min, IntKind.max, IntKind.signed, IntKind.bits]
theorem wrap_u32 (m : Int) : IntKind.u32.wrap m = m % 4294967296 := by
  simp [IntKind.wrap, IntKind.min, IntKind.max, IntKind.signed, IntKind.bits]
theorem WL_conv_u8 {s t : TypeId} {k' k0 : IntKind} [TInt P t .u8] [TInt P s k0] {x : Operand} {m : Int} (hdn : Nat.ble (d + 1) n = true) (hw : wants ops E g = some true) (hx : evE E x = some (.int k' m))
    (h : WL P ops Q l n ((d, .int .u8 (m % 256)) :: E) w) : WL P ops Q (⟨some d, .convert s t x, ty, pos, aft, g⟩ :: l) n E w := by
  refine WL_conv hdn hw hx ?_
  rw [wrap_u8]; exact h
/-- & | ^ &^ on numbers. -/
def bitsV (op : BinOp) (k : IntKind) (a b : Int) : Int := match op with
  | .and => k.wrap (BitVec.ofInt k.bits a &&& BitVec.ofInt k.bits b).toNat
  | .or => k.wrap (BitVec.ofInt k.bits a ||| BitVec.ofInt k.bits b).toNat
  | .xor => k.wrap (BitVec.ofInt k.bits a ^^^ BitVec.ofInt k.bits b).toNat
  | _ => k.wrap (BitVec.ofInt k.bits a &&& ~~~BitVec.ofInt k.bits b).toNat
theorem WL_and {t t' : TypeId} {x y : Operand} {k : IntKind} {a b : Int} (hdn : Nat.ble (d + 1) n = true) (hw : wants ops E g = some true) (hx : evE E x = some (.int k a)) (hy : evE E y = some (.int k b))
    (h : WL P ops Q l n ((d, .int k (bitsV .and k a b)) :: E) w) : WL P ops Q (⟨some d, .binOp .and t x y t', ty, pos, aft, g⟩ :: l) n E w :=
  WL_bits hdn hw hx hy (.inl rfl) (v := .int k (bitsV .and k a b)) rfl h
theorem WL_or {t t' : TypeId} {x y : Operand} {k : IntKind} {a b : Int} (hdn : Nat.ble (d + 1) n = true) (hw : wants ops E g = some true) (hx : evE E x = some (.int k a)) (hy : evE E y = some (.int k b))
    (h : WL P ops Q l n ((d, .int k (bitsV .or k a b)) :: E) w) : WL P ops Q (⟨some d, .binOp .or t x y t', ty, pos, aft, g⟩ :: l) n E w :=
  WL_bits hdn hw hx hy (.inr (.inl rfl)) (v := .int k (bitsV .or k a b)) rfl h
theorem WL_xor {t t' : TypeId} {x y : Operand} {k : IntKind} {a b : Int} (hdn : Nat.ble (d + 1) n = true) (hw : wants ops E g = some true) (hx : evE E x = some (.int k a)) (hy : evE E y = some (.int k b))
    (h : WL P ops Q l n ((d, .int k (bitsV .xor k a b)) :: E) w) : WL P ops Q (⟨some d, .binOp .xor t x y t', ty, pos, aft, g⟩ :: l) n E w :=
  WL_bits hdn hw hx hy (.inr (.inr (.inl rfl))) (v := .int k (bitsV .xor k a b)) rfl h

/-! ### slices -/
/-- A cut: what the new address reads, in whatever world. -/
def Cut (A A' : Option Addr) (s lo hi : Nat) : Prop := ∀ w cs, Cells w A cs → Cells w A' ((cs.drop (lo * s)).take ((hi - lo) * s))
theorem cut_mk (A : Option Addr) (s lo hi m : Nat) (hm : hi ≤ m) : Cut A (if m = lo then A else A.map (·.add (lo * s))) s lo hi := by
  intro w cs hc
  by_cases h : m = lo
  · rw [if_pos h]
    have : hi - lo = 0 := by omega
    rw [this, Nat.zero_mul, List.take_zero]
    exact Cells.nil _ _
  · rw [if_neg h]; exact (hc.drop _).take _
theorem run_slice_gen {t e s b : Nat} [hT : TSlice P t e s b] {A : Option Addr} {len c lo hi m : Nat} {lo' hi' mx' : Option Value} (hb : (Instr.sliceBounds true len c lo' hi' mx').run P w = .ok (lo, hi, m) w) :
    (Instr.sliceAt t (.slice A len c) lo' hi' mx').run P w = .ok (.slice (if m = lo then A else A.map (·.add (lo * s))) (hi - lo) (m - lo)) w := by
  have h1 : (Instr.slice t (.slice A len c) lo' hi' mx').run P w = .ok (.slice (if m = lo then A else A.map (·.add (lo * s))) (hi - lo) (m - lo)) w := by
    simp only [Instr.slice, Sem.run_bind, run_underlying hT.out, Result.andThen_ok, hb, slice_size (P := P) t w, Sem.run_pure]
  simp only [Instr.sliceAt, Sem.run_bind, run_underlying hT.out, Result.andThen_ok, h1]
/-- x[lo:hi:mx], each there or not. -/
theorem WL_slice {t e s b : Nat} [hT : TSlice P t e s b] {x : Operand} {lo hi mx : Option Operand} {A : Option Addr} {len c : Nat} {lo' hi' mx' : Option Value} {L H M : Nat}
    (hdn : Nat.ble (d + 1) n = true) (hw : wants ops E g = some true) (hx : evE E x = some (.slice A len c))
    (hlo : lo.map (evE E) = lo'.map some) (hhi : hi.map (evE E) = hi'.map some) (hmx : mx.map (evE E) = mx'.map some)
    (hb : (Instr.sliceBounds true len c lo' hi' mx').run P w = .ok (L, H, M) w) (hHM : H ≤ M)
    (h : ∀ A', Cut A A' s L H → WL P ops Q l n ((d, .slice A' (H - L) (M - L)) :: E) w) : WL P ops Q (⟨some d, .slice t x lo hi mx, ty, pos, aft, g⟩ :: l) n E w := by
  refine WL_val rfl hdn hw _ w (fun a ha => ?_) (h _ (cut_mk A s L H M hHM))
  have ev : ∀ (o : Option Operand) (o' : Option Value), o.map (evE E) = o'.map some → o.map a.eval = o' := by
    intro o o' hh
    cases o <;> cases o' <;> simp_all
    rename_i q q'
    exact evE_eval ha hh
  unfold execOp
  simp only [evE_eval ha hx, ev _ _ hlo, ev _ _ hhi, ev _ _ hmx, Sem.run_bind, run_slice_gen (P := P) (s := s) (e := e) (b := b) hb, Result.andThen_ok]
  rfl
theorem sb_h {len c H : Nat} {k : IntKind} {h : Int} (hh : h = (H : Int)) (h1 : H ≤ c) : (Instr.sliceBounds true len c none (some (.int k h)) none).run P w = .ok (0, H, c) w := by
  subst hh
  simp [Instr.sliceBounds, Instr.sliceBound, asIntOf]; omega
theorem sb_l {len c L : Nat} {k : IntKind} {h : Int} (hh : h = (L : Int)) (h1 : L ≤ len) : (Instr.sliceBounds true len c (some (.int k h)) none none).run P w = .ok (L, len, c) w := by
  subst hh
  simp [Instr.sliceBounds, Instr.sliceBound, asIntOf]; omega
theorem sb_lh {len c L H : Nat} {k k' : IntKind} {l h : Int} (hl : l = (L : Int)) (hh : h = (H : Int)) (h1 : L ≤ H) (h2 : H ≤ c) : (Instr.sliceBounds true len c (some (.int k l)) (some (.int k' h)) none).run P w = .ok (L, H, c) w := by
  subst hh; subst hl
  have e1 : (L : Int) ≤ (H : Int) := by omega
  have e2 : (H : Int) ≤ (c : Int) := by omega
  simp [Instr.sliceBounds, Instr.sliceBound, asIntOf, e1, e2, h1, h2]
theorem sb_hm {len c H M : Nat} {k k' : IntKind} {h m : Int} (hh : h = (H : Int)) (hm : m = (M : Int)) (h1 : H ≤ M) (h2 : M ≤ c) : (Instr.sliceBounds true len c none (some (.int k h)) (some (.int k' m))).run P w = .ok (0, H, M) w := by
  subst hh; subst hm
  simp [Instr.sliceBounds, Instr.sliceBound, asIntOf, h1, h2]
theorem sb_lhm {len c L H M : Nat} {k k' k'' : IntKind} {l h m : Int} (hl : l = (L : Int)) (hh : h = (H : Int)) (hm : m = (M : Int)) (h0 : L ≤ H) (h1 : H ≤ M) (h2 : M ≤ c) : (Instr.sliceBounds true len c (some (.int k l)) (some (.int k' h)) (some (.int k'' m))).run P w = .ok (L, H, M) w := by
  subst hh; subst hm; subst hl
  simp [Instr.sliceBounds, Instr.sliceBound, asIntOf, h0, h1, h2]
theorem sb_all {len c : Nat} : (Instr.sliceBounds true len c none none none).run P w = .ok (0, len, c) w := by
  simp [Instr.sliceBounds]
/-- x[lo:] of an array variable, lo not its length. -/
theorem WL_sliceArr {t len e s : Nat} [hT : TArr P t len e s] {x : Operand} {b off : Nat} (hdn : Nat.ble (d + 1) n = true) (hw : wants ops E g = some true) (hx : evE E x = some (.pointer (some ⟨b, off, none⟩)))
    (h : WL P ops Q l n ((d, .slice (some ⟨b, off, none⟩) len len) :: E) w) : WL P ops Q (⟨some d, .slice t x none none none, ty, pos, aft, g⟩ :: l) n E w := by
  refine WL_val rfl hdn hw _ w (fun a ha => ?_) h
  have h1 : (Instr.sliceAt t (.pointer (some ⟨b, off, none⟩)) none none none).run P w = .ok (.slice (some ⟨b, off, none⟩) len len) w := by
    simp only [Instr.sliceAt, Sem.run_bind, run_underlying hT.out, Result.andThen_ok, Instr.sureAddr, Instr.sliceBounds, Sem.run_pure, arr_size (P := P) t w]
    simp [Addr.add]
  unfold execOp
  simp only [evE_eval ha hx, Option.map_none, Sem.run_bind, h1, Result.andThen_ok]
  rfl
theorem WL_sliceArrL {t len e s : Nat} [hT : TArr P t len e s] {x y : Operand} {b off L : Nat} {k : IntKind} {i : Int} (hdn : Nat.ble (d + 1) n = true) (hw : wants ops E g = some true) (hx : evE E x = some (.pointer (some ⟨b, off, none⟩))) (hy : evE E y = some (.int k i)) (hi : i = (L : Int)) (hL : L < len)
    (h : WL P ops Q l n ((d, .slice (some ⟨b, off + L * s, none⟩) (len - L) (len - L)) :: E) w) : WL P ops Q (⟨some d, .slice t x (some y) none none, ty, pos, aft, g⟩ :: l) n E w := by
  refine WL_val rfl hdn hw _ w (fun a ha => ?_) h
  subst hi
  have e1 : (L : Int) ≤ (len : Int) := by omega
  have e2 : ¬ len = L := by omega
  have h1 : (Instr.sliceAt t (.pointer (some ⟨b, off, none⟩)) (some (.int k (L : Int))) none none).run P w = .ok (.slice (some ⟨b, off + L * s, none⟩) (len - L) (len - L)) w := by
    simp only [Instr.sliceAt, Sem.run_bind, run_underlying hT.out, Result.andThen_ok, Instr.sureAddr, Instr.sliceBounds, Instr.sliceBound, asIntOf, Sem.run_pure, arr_size (P := P) t w]
    simp [e1, e2, add_plain', arr_size (P := P) t w]
  unfold execOp
  simp only [evE_eval ha hx, evE_eval ha hy, Option.map_none, Option.map_some, Sem.run_bind, h1, Result.andThen_ok]
  rfl

/-! ### make, literals, append -/
theorem WL_make {t e b : Nat} [hT : TSlice P t e 1 b] {z : Value} [hz : TZero P e z] {x y : Operand} {m : Nat} {i i' : Int} {k k' : IntKind} (hdn : Nat.ble (d + 1) n = true) (hw : wants ops E g = some true) (hx : evE E x = some (.int k i)) (hy : evE E y = some (.int k' i')) (hi : i = (m : Int)) (hi' : i' = (m : Int))
    (hz1 : z.cells = #[z]) (hbytes : b * m ≤ 281474976710656) (h63 : m ≤ 4611686018427387904)
    (h : ∀ b' w', w.heap.size ≤ b' → b' < w'.heap.size → Ext w w' → Blk w' b' (List.replicate m z) e → w'.ownsRow w.heap.size e 1 (.slice (some ⟨b', 0, none⟩) m m) m (List.replicate m z) → WL P ops Q l n ((d, .slice (some ⟨b', 0, none⟩) m m) :: E) w') :
    WL P ops Q (⟨some d, .makeSlice t x y, ty, pos, aft, g⟩ :: l) n E w := by
  subst hi; subst hi'
  obtain ⟨inf, hinf, hs, hby⟩ := slice_info (P := P) t
  have hz0 : inf.zero = some z := by have := hz.out; rw [hinf] at this; exact this
  have hr := run_make (P := P) w t e inf z hT.out hinf hz0 k k' (m : Int) (m : Int) (by omega) (by omega) (by rw [hby]; have : ((b * m : Nat) : Int) ≤ ((281474976710656 : Nat) : Int) := Int.ofNat_le.2 hbytes; rw [Int.natCast_mul] at this; exact this) (by omega)
  rw [Int.toNat_natCast, hs, Nat.mul_one, hz1] at hr
  have hblk : Blk (w.alloc (.cells (madeCells #[z] m) e)) w.heap.size (List.replicate m z) e := by
    unfold Blk
    rw [heap_alloc_new w _, ← toList_madeCells_one z m, Array.toArray_toList]
  have hown := World.ownsRow_lit (base := w.heap.size) (e := e) (size := 1) w (madeCells #[z] m) m (Nat.le_refl _) (by unfold maxLen; omega) (by rw [size_madeCells, Nat.mul_one])
  rw [toList_madeCells_one] at hown
  refine WL_val rfl hdn hw _ _ (fun a ha => ?_) (h w.heap.size _ (Nat.le_refl _) (by simp) (Ext.alloc w _) hblk hown)
  unfold execOp
  simp only [evE_eval ha hx, evE_eval ha hy, Sem.run_bind, hr, Result.andThen_ok]
  rfl

/-- Parts laid one behind the other. -/
def fillL (s : Nat) : List Value → List (Nat × Value) → Option (List Value)
  | cs, [] => some cs
  | cs, (i, v) :: r => if v.cells.size ≠ s ∨ i * s + s > cs.length then none else fillL s (cs.take (i * s) ++ v.cells.toList ++ cs.drop (i * s + s)) r
theorem foldl_set (vs : List Value) : ∀ (off k : Nat) (cs : Array Value), off + k + vs.length ≤ cs.size →
    (vs.zipIdx k).foldl (fun cs (p : Value × Nat) => cs.setIfInBounds (off + p.2) p.1) cs = (cs.toList.take (off + k) ++ vs ++ cs.toList.drop (off + k + vs.length)).toArray := by
  induction vs with
  | nil => intro off k cs h; simp
  | cons v r ih =>
    intro off k cs h
    simp only [List.length_cons] at h
    rw [List.zipIdx_cons, List.foldl_cons, ih off (k + 1) _ (by simp; omega)]
    apply Array.toList_inj.1
    simp only [Array.toList_setIfInBounds, List.length_cons]
    have := list_seg_step cs.toList (off + k) v r (by simp; omega)
    rw [show off + (k + 1) = off + k + 1 by omega, show off + k + (r.length + 1) = off + k + (r.length + 1) from rfl]
    exact this
theorem fill_fillL (s : Nat) : ∀ (parts : List (Nat × Value)) (cs : Array Value) (out : List Value), fillL s cs.toList parts = some out → Instr.fill (fun i => some (i * s, s)) cs parts = some out.toArray := by
  intro parts
  induction parts with
  | nil => intro cs out h; simp [fillL] at h; simp [Instr.fill, ← h]
  | cons p r ih =>
    intro cs out h
    obtain ⟨i, v⟩ := p
    unfold fillL at h
    split at h
    · cases h
    · rename_i hn
      have h1 : v.cells.size = s := by
        by_cases e : v.cells.size = s
        · exact e
        · exact absurd (.inl e) hn
      have h2 : i * s + s ≤ cs.size := by
        by_cases e : i * s + s > cs.toList.length
        · exact absurd (.inr e) hn
        · simpa using e
      unfold Instr.fill
      have hcond : (decide (v.cells.size ≠ s) || decide (i * s + v.cells.size > cs.size)) = false := by simp [h1]; omega
      simp only [hcond, Bool.false_eq_true, if_false]
      have hf := foldl_set v.cells.toList (i * s) 0 cs (by simp [h1]; omega)
      have e1 : v.cells.zipIdx.foldl (fun cs (p : Value × Nat) => cs.setIfInBounds (i * s + p.2) p.1) cs = (v.cells.toList.zipIdx 0).foldl (fun cs (p : Value × Nat) => cs.setIfInBounds (i * s + p.2) p.1) cs := by
        rw [← Array.foldl_toList]; simp [Array.toList_zipIdx]
      have e2 : (v.cells.zipIdx.foldl (fun cs (x : Value × Nat) => match x with | (c, j) => cs.setIfInBounds (i * s + j) c) cs) = (cs.toList.take (i * s) ++ v.cells.toList ++ cs.toList.drop (i * s + s)).toArray := by
        rw [Nat.add_zero] at hf
        have hl : v.cells.toList.length = s := by simp [h1]
        rw [hl] at hf
        exact e1.trans hf
      rw [e2]
      exact ih _ _ (by simpa using h)

def evP (E : Env) : List (Nat × Operand) → Option (List (Nat × Value))
  | [] => some []
  | (i, x) :: r => match evE E x, evP E r with
    | some v, some l => some ((i, v) :: l)
    | _, _ => none
theorem evP_eval {a : Act} (h : Agr n E a) : ∀ {xs : List (Nat × Operand)} {vs : List (Nat × Value)}, evP E xs = some vs → xs.map (fun p => (p.1, a.eval p.2)) = vs := by
  intro xs
  induction xs with
  | nil => intro vs hv; simp [evP] at hv; simp [← hv]
  | cons x r ih =>
    intro vs hv
    obtain ⟨i, x⟩ := x
    unfold evP at hv
    split at hv
    · rename_i v l h1 h2
      simp only [Option.some.injEq] at hv
      subst hv
      rw [List.map_cons, evE_eval h h1, ih h2]
    · cases hv
theorem WL_lit {t e s b m : Nat} [hT : TSlice P t e s b] {z : Value} [hz : TZero P e z] {parts : Array (Nat × Operand)} {ps : List (Nat × Value)} {cs : List Value} (hdn : Nat.ble (d + 1) n = true) (hw : wants ops E g = some true) (hp : evP E parts.toList = some ps)
    (hf : fillL s (((Array.range (m * s)).map (z.cells[· % z.cells.size]!)).toList) ps = some cs) (hl : cs.length = m * s) (hm : m * s ≤ 16777216) (hm0 : 0 < m * s)
    (h : ∀ b' w', w.heap.size ≤ b' → b' < w'.heap.size → Ext w w' → Blk w' b' cs e → w'.ownsRow w.heap.size e s (.slice (some ⟨b', 0, none⟩) m m) m cs → WL P ops Q l n ((d, .slice (some ⟨b', 0, none⟩) m m) :: E) w') :
    WL P ops Q (⟨some d, .buildSlice t m parts, ty, pos, aft, g⟩ :: l) n E w := by
  have hfill := fill_fillL s ps _ cs hf
  have hmm : m ≤ 16777216 := by
    rcases Nat.eq_zero_or_pos s with e | e
    · subst e; omega
    · exact Nat.le_trans (Nat.le_mul_of_pos_right _ e) hm
  have hr : (Instr.buildSlice t m ps.toArray).run P w = .ok (.slice (some ⟨w.heap.size, 0, none⟩) m m) (w.alloc (.cells cs.toArray e)) := by
    have h1 : ¬ m * s > 2 ^ 24 := by omega
    have h2 : ¬ m * s = 0 := by omega
    simp only [Instr.buildSlice, Sem.run_bind, run_underlying hT.out, Result.andThen_ok, slice_size (P := P) t w, h1, h2, if_false, run_zero (P := P) e w, Sem.run_pure]
    simp only [hfill]
    rfl
  have hown := World.ownsRow_lit (base := w.heap.size) (e := e) (size := s) w cs.toArray m (Nat.le_refl _) (by unfold maxLen; omega) (by simpa using hl)
  rw [List.toList_toArray] at hown
  refine WL_val rfl hdn hw _ _ (fun a ha => ?_) (h w.heap.size _ (Nat.le_refl _) (by simp) (Ext.alloc w _) (heap_alloc_new w _) hown)
  have e1 : parts.map (fun (x : Nat × Operand) => match x with | (i, x) => (i, a.eval x)) = ps.toArray := by
    apply Array.toList_inj.1
    rw [Array.toList_map]
    exact evP_eval ha hp
  unfold execOp
  simp only [e1, Sem.run_bind, hr, Result.andThen_ok]
  rfl

theorem run_append_zero {t e s b : Nat} [hT : TSlice P t e s b] (ty : TypeId) {A A' : Option Addr} {m c c' : Nat} (hc : m ≤ c) :
    (Builtin.append_ #[t, t] ty #[.slice A m c, .slice A' 0 c']).run P w = .ok (.slice A m c) w := by
  have hz : ∀ a : Addr, (loadCells a 0).run P w = .ok #[] w := fun a => rfl
  cases A <;> cases A' <;> simp [Builtin.append_, run_underlying hT.out, slice_size (P := P) t w, Builtin.lenOf, Builtin.firstCells, hc, hz, storeCells]
/-- append(v, x...): v a row of the call's own, x read. -/
theorem run_append_rd {t e s b : Nat} [hT : TSlice P t e s b] {z : Value} [hz : TZero P e z] (ty : TypeId) (hzs : z.cells.size = s) (hs : 0 < s) {base : Nat} {v : Value} {m : Nat} {xs : List Value} (hown : w.ownsRow base e s v m xs) (hbase : base ≤ w.heap.size)
    {A : Option Addr} {k c : Nat} {news : List Value} (hl : news.length = k * s) (hc : Cells w A news) (h1 : ∀ u ∈ news, u.oneCell' = true) (h63 : m + k ≤ 4611686018427387904) (hbytes : (m + k) * b ≤ 140737488355328) :
    ∃ v' w', (Builtin.append_ #[t, t] ty #[v, .slice A k c]).run P w = .ok v' w' ∧ w'.ownsRow base e s v' (m + k) (xs ++ news) ∧ w.grownBy w' v.ownBlock ∧ (v'.ownBlock = v.ownBlock ∨ ∃ b', v'.ownBlock = some b' ∧ w.heap.size ≤ b') := by
  obtain ⟨inf, hinf, hsz, hby⟩ := slice_info (P := P) t
  have hz0 : inf.zero = some z := by have := hz.out; rw [hinf] at this; exact this
  rcases Nat.eq_zero_or_pos k with e0 | e0
  · subst e0
    have hn : news = [] := List.eq_nil_of_length_eq_zero (by simpa using hl)
    subst hn
    obtain ⟨A0, c0, rfl, hc0, _⟩ := own_cells hown
    exact ⟨_, w, run_append_zero (P := P) ty hc0, by simpa using hown, ⟨rfl, rfl, rfl, Nat.le_refl _, fun _ _ _ => rfl⟩, .inl rfl⟩
  · rcases hc with hc | ⟨ad, rfl, hc⟩
    · exfalso
      subst hc
      have : 0 < k * s := Nat.mul_pos e0 hs
      simp at hl
      omega
    · have hkb : k * b ≤ 140737488355328 := Nat.le_trans (Nat.mul_le_mul_right _ (Nat.le_add_left k m)) hbytes
      have hgrow : ∀ (A0 : Option Addr) (c0 : Nat) (r : (Builtin.append_ #[t, t] ty #[.slice A0 m c0, .slice (some ad) k c]).run P w = .ok (.slice (some ⟨w.heap.size, 0, none⟩) (m + k) (grownCap w (m + k) c0 e)) (w.drew.alloc (.cells (xs.toArray ++ news.toArray ++ Builtin.zeroCells z.cells (grownCap w (m + k) c0 e - (m + k))) e))),
          ∃ v' w', (Builtin.append_ #[t, t] ty #[.slice A0 m c0, .slice (some ad) k c]).run P w = .ok v' w' ∧ w'.ownsRow base e s v' (m + k) (xs ++ news) ∧ w.grownBy w' (Value.slice A0 m c0).ownBlock ∧ (v'.ownBlock = (Value.slice A0 m c0).ownBlock ∨ ∃ b', v'.ownBlock = some b' ∧ w.heap.size ≤ b') := by
        intro A0 c0 r
        have hge := grownCap_ge w (m + k) c0 e
        have hcm : grownCap w (m + k) c0 e ≤ maxLen := grownCap_le_maxLen w (m + k) c0 e (by unfold maxLen; omega)
        refine ⟨_, _, r, ⟨by rw [List.length_append, hown.1, hl, Nat.add_mul], .inr ⟨w.heap.size, _, _, rfl, hbase, heap_alloc_new w.drew _, hge, hcm, ?_, ?_⟩⟩, ⟨rfl, rfl, rfl, by simp, fun i hi _ => Below.heap_alloc w.drew _ i hi⟩, .inr ⟨_, rfl, Nat.le_refl _⟩⟩
        · simp only [Array.size_append, List.size_toArray, size_zeroCells, hzs, hown.1, hl, ← Nat.add_mul]
          congr 1
          omega
        · simp only [Array.toList_append, List.append_assoc]
          rw [← List.append_assoc, show (m + k) * s = (xs ++ news).length by rw [List.length_append, hown.1, hl, Nat.add_mul]]
          exact List.take_left
      have hl0 := hown.1
      rcases hown.2 with ⟨rfl, rfl⟩ | ⟨g0, cap0, cur0, rfl, h01, h02, h03, h04, h05, h06⟩
      · have hxs : xs = [] := List.eq_nil_of_length_eq_zero (by simpa using hl0)
        have hr2 := run_append_nil (P := P) w t ty e inf z hT.out hinf hz0 ad k c news (by rw [hsz]; exact hl) hc e0 (by omega) (by rw [hby]; omega)
        exact hgrow none 0 (by rw [hr2, hxs]; simp)
      · by_cases hroom : m + k ≤ cap0
        · have hfit : m * s + news.length ≤ cur0.size := by rw [hl, h05, ← Nat.add_mul]; exact Nat.mul_le_mul_right _ hroom
          have hr2 := run_append_room (P := P) w t ty e inf hT.out hinf g0 m cap0 cur0 h02 ad k c news (by rw [hsz]; exact hl) hc h1 hroom (by rw [hsz]; exact hfit)
          rw [hsz] at hr2
          refine ⟨_, _, hr2, ⟨by rw [List.length_append, hl0, hl, Nat.add_mul], .inr ⟨g0, cap0, _, rfl, h01, setRow_heap w g0 cur0 _ e _ h02, hroom, h04, ?_, ?_⟩⟩, ⟨rfl, rfl, rfl, by simp, fun k _ hk => setRow_other w g0 k _ (fun e => hk (by simp [Value.ownBlock, e]))⟩, .inl rfl⟩
          · simp only [List.size_toArray, List.length_append, List.length_take, List.length_drop, Array.length_toList]
            omega
          · rw [h06, show (m + k) * s = (xs ++ news).length by rw [List.length_append, hl0, hl, Nat.add_mul]]
            exact List.take_left
        · have holds : ∀ j u, xs[j]? = some u → w.cell? ((⟨g0, 0, none⟩ : Addr).add j) = some u := hown.cells (g := g0) rfl
          have hr2 := run_append_grow (P := P) w t ty e inf z hT.out hinf hz0 ⟨g0, 0, none⟩ m cap0 xs (by rw [hsz]; exact hl0) holds ad k c news (by rw [hsz]; exact hl) hc (by omega) (by omega) (by rw [hby]; exact growslice_fits (by omega) hbytes)
          exact hgrow _ _ hr2
theorem WL_append {t e s b : Nat} [hT : TSlice P t e s b] {z : Value} [hz : TZero P e z] {x y : Operand} {base : Nat} {v : Value} {m : Nat} {xs : List Value} {A : Option Addr} {k c : Nat} {news : List Value}
    (hdn : Nat.ble (d + 1) n = true) (hw : wants ops E g = some true) (hx : evE E x = some v) (hy : evE E y = some (.slice A k c)) (hzs : z.cells.size = s) (hs : 0 < s) (hown : w.ownsRow base e s v m xs) (hbase : base ≤ w.heap.size)
    (hl : news.length = k * s) (hc : Cells w A news) (h1 : ∀ u ∈ news, u.oneCell' = true) (h63 : m + k ≤ 4611686018427387904) (hbytes : (m + k) * b ≤ 140737488355328)
    (h : ∀ v' w', w'.ownsRow base e s v' (m + k) (xs ++ news) → w.grownBy w' v.ownBlock → (v'.ownBlock = v.ownBlock ∨ ∃ b', v'.ownBlock = some b' ∧ w.heap.size ≤ b') → WL P ops Q l n ((d, v') :: E) w') :
    WL P ops Q (⟨some d, .call { callee := .builtin .append, args := #[x, y], argTypes := #[t, t] }, ty, pos, aft, g⟩ :: l) n E w := by
  obtain ⟨v', w', hr, ho, hg, hb⟩ := run_append_rd (P := P) (t := t) (e := e) (s := s) (b := b) (z := z) ty hzs hs hown hbase (c := c) hl hc h1 h63 hbytes
  refine WL_val rfl hdn hw v' w' (fun a ha => ?_) (h v' w' ho hg hb)
  refine builtin_val (args := [v, .slice A k c]) (by simp [evL, hx, hy]) ?_ a ha
  simp only [builtin, Sem.run_bind, hr, Result.andThen_ok, Sem.run_pure]
/-- append(v, x...): v at its capacity, not the call's own: it is copied. -/
theorem WL_appendC {t e s b : Nat} [hT : TSlice P t e s b] {z : Value} [hz : TZero P e z] {x y : Operand} {m : Nat} {xs : List Value} {A A0 : Option Addr} {k c : Nat} {news : List Value}
    (hdn : Nat.ble (d + 1) n = true) (hw : wants ops E g = some true) (hx : evE E x = some (.slice A0 m m)) (hy : evE E y = some (.slice A k c)) (hzs : z.cells.size = s) (hs : 0 < s) (hl0 : xs.length = m * s) (hc0 : Cells w A0 xs)
    (hl : news.length = k * s) (hc : Cells w A news) (hk : 0 < k) (h63 : m + k ≤ 4611686018427387904) (hbytes : (m + k) * b ≤ 140737488355328)
    (h : ∀ v' w', w'.ownsRow w.heap.size e s v' (m + k) (xs ++ news) → Ext w w' → WL P ops Q l n ((d, v') :: E) w') :
    WL P ops Q (⟨some d, .call { callee := .builtin .append, args := #[x, y], argTypes := #[t, t] }, ty, pos, aft, g⟩ :: l) n E w := by
  obtain ⟨inf, hinf, hsz, hby⟩ := slice_info (P := P) t
  have hz0 : inf.zero = some z := by have := hz.out; rw [hinf] at this; exact this
  have hkb : k * b ≤ 140737488355328 := Nat.le_trans (Nat.mul_le_mul_right _ (Nat.le_add_left k m)) hbytes
  have hrun : ∃ c0, (Builtin.append_ #[t, t] ty #[.slice A0 m m, .slice A k c]).run P w = .ok (.slice (some ⟨w.heap.size, 0, none⟩) (m + k) (grownCap w (m + k) c0 e)) (w.drew.alloc (.cells (xs.toArray ++ news.toArray ++ Builtin.zeroCells z.cells (grownCap w (m + k) c0 e - (m + k))) e)) := by
    rcases hc with hc | ⟨ad, rfl, hc⟩
    · exfalso
      subst hc
      have : 0 < k * s := Nat.mul_pos hk hs
      simp at hl
      omega
    · rcases Nat.eq_zero_or_pos m with e0 | e0
      · subst e0
        have hxs : xs = [] := List.eq_nil_of_length_eq_zero (by simpa using hl0)
        subst hxs
        cases A0 with
        | none =>
          have hr2 := run_append_nil (P := P) w t ty e inf z hT.out hinf hz0 ad k c news (by rw [hsz]; exact hl) hc hk (by omega) (by rw [hby]; omega)
          exact ⟨0, by rw [hr2]; simp⟩
        | some a0 =>
          have hr2 := run_append_grow (P := P) w t ty e inf z hT.out hinf hz0 a0 0 0 [] (by simp) (by simp) ad k c news (by rw [hsz]; exact hl) hc (by omega) (by omega) (by rw [hby]; exact growslice_fits (by omega) hbytes)
          exact ⟨0, by rw [hr2]⟩
      · rcases hc0 with hc0 | ⟨a0, rfl, hc0⟩
        · exfalso
          subst hc0
          have : 0 < m * s := Nat.mul_pos e0 hs
          simp at hl0
          omega
        · have hr2 := run_append_grow (P := P) w t ty e inf z hT.out hinf hz0 a0 m m xs (by rw [hsz]; exact hl0) hc0 ad k c news (by rw [hsz]; exact hl) hc (by omega) (by omega) (by rw [hby]; exact growslice_fits (by omega) hbytes)
          exact ⟨m, hr2⟩
  obtain ⟨c0, hr⟩ := hrun
  have hge := grownCap_ge w (m + k) c0 e
  have hcm : grownCap w (m + k) c0 e ≤ maxLen := grownCap_le_maxLen w (m + k) c0 e (by unfold maxLen; omega)
  have hown : (w.drew.alloc (.cells (xs.toArray ++ news.toArray ++ Builtin.zeroCells z.cells (grownCap w (m + k) c0 e - (m + k))) e)).ownsRow w.heap.size e s (.slice (some ⟨w.heap.size, 0, none⟩) (m + k) (grownCap w (m + k) c0 e)) (m + k) (xs ++ news) := by
    refine ⟨by rw [List.length_append, hl0, hl, Nat.add_mul], .inr ⟨w.heap.size, _, _, rfl, Nat.le_refl _, heap_alloc_new w.drew _, hge, hcm, ?_, ?_⟩⟩
    · simp only [Array.size_append, List.size_toArray, size_zeroCells, hzs, hl0, hl, ← Nat.add_mul]
      congr 1
      omega
    · simp only [Array.toList_append, List.append_assoc]
      rw [← List.append_assoc, show (m + k) * s = (xs ++ news).length by rw [List.length_append, hl0, hl, Nat.add_mul]]
      exact List.take_left
  refine WL_val rfl hdn hw _ _ (fun a ha => ?_) (h _ _ hown ((Ext.drew w).then (Ext.alloc w.drew _)))
  refine builtin_val (args := [.slice A0 m m, .slice A k c]) (by simp [evL, hx, hy]) ?_ a ha
  simp only [builtin, Sem.run_bind, hr, Result.andThen_ok, Sem.run_pure]
end ops
end Go.Proofs.Ytemfngomfiimfaa.K
