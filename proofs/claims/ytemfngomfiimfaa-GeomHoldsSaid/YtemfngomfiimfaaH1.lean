/- Chapter 10 (dev): what a device is and does, in plain words; devices in memory. Seat-free. -/
import Derived.Test.YtemfngomfiimfaaZ4
import Derived.Test.YtemfngomfiimfaaU1
set_option linter.unusedVariables false
set_option linter.unusedSimpArgs false
set_option maxHeartbeats 4000000
set_option maxRecDepth 20000
namespace Go.Proofs.Ytemfngomfiimfaa.K
open Go.RowKit
attribute [local irreducible] strEq strOfNums Calls WL WC WQ WX Code.wp wpList bodyPost
/-- A device. -/
structure Dv where
  sz : Int
  zs : List Zo
  r0 : List Int
  r1 : List Int
  f0 : List Int
  f1 : List Int
  dn : Bool
  lf : Int
  ft : Int
  de : Int
/-- What every device that comes in is. -/
structure DvW (d : Dv) : Prop where
  zw : ∀ z ∈ d.zs, Zst z
  r0 : (∀ x ∈ d.r0, 0 ≤ x ∧ x < 256) ∧ d.r0.length ≤ 1000000
  r1 : (∀ x ∈ d.r1, 0 ≤ x ∧ x < 256) ∧ d.r1.length ≤ 1000000
  f0 : (∀ x ∈ d.f0, 0 ≤ x ∧ x < 256) ∧ d.f0.length ≤ 1000000
  f1 : (∀ x ∈ d.f1, 0 ≤ x ∧ x < 256) ∧ d.f1.length ≤ 1000000
  zl : d.zs.length ≤ 1000000
  sb : -9223372036854775808 ≤ d.sz ∧ d.sz ≤ 9223372036854775807
  lb : -9223372036854775808 ≤ d.lf ∧ d.lf ≤ 9223372036854775807
  fb : -9223372036854775808 ≤ d.ft ∧ d.ft ≤ 9223372036854775807
  db : -9223372036854775808 ≤ d.de ∧ d.de ≤ 9223372036854775807
/-- May a device be? -/
def OkD (d : Dv) : Prop := (∀ z ∈ d.zs, OkZ z d.sz) ∧ (d.r0.length = 128 ∧ (d.f0.length = 0 ∨ d.f0.length = 128)) ∧ (d.r1.length = 128 ∧ (d.f1.length = 0 ∨ d.f1.length = 128)) ∧ (0 < d.zs.length ∧ d.zs.length ≤ 64) ∧ 0 < d.sz ∧ d.sz ≤ 65536
instance (d : Dv) : Decidable (OkD d) := by unfold OkD; infer_instance
def okD (d : Dv) : Bool := decide (OkD d)
theorem okD_iff {d : Dv} : okD d = true ↔ OkD d := decide_eq_true_iff
/-- How many of the first i zones are open. -/
def opT (zs : List Zo) : Nat → Nat
  | 0 => 0
  | i + 1 => opT zs i + (if ((zs[i]?).map (·.s)) = some 1 then 1 else 0)
def opD (d : Dv) : Nat := opT d.zs d.zs.length
theorem opT_le (zs : List Zo) : ∀ i, opT zs i ≤ i
  | 0 => Nat.le_refl _
  | i + 1 => by have := opT_le zs i; unfold opT; split <;> omega
theorem opT_step (zs : List Zo) (i : Nat) : opT zs (i + 1) = opT zs i + (if ((zs[i]?).map (·.s)) = some 1 then 1 else 0) := rfl
/-- A zone behind a command of a zone. -/
def zdE (d : Dv) (k : Int) (z : Zo) (b : List Int) : Int := if k = 2 then rsE z else if k = 3 then fiE z else if z.s = 0 ∧ 4 ≤ opD d then 90 else appE z d.sz b.length
def zdZ (d : Dv) (k : Int) (z : Zo) (b : List Int) : Zo := if k = 2 then rsZ z else if k = 3 then fiZ z else appZ z d.sz b
def zoE (d : Dv) (k n : Int) (b : List Int) : Int := if n < 0 then 1 else match d.zs[n.toNat]? with
  | none => 1
  | some z => zdE d k z b
def zoD (d : Dv) (k n : Int) (b : List Int) : Dv := if n < 0 then d else match d.zs[n.toNat]? with
  | none => d
  | some z => if zdE d k z b = 0 then { d with zs := d.zs.set n.toNat (zdZ d k z b) } else d
/-- A flush. -/
def neI (f r : List Int) : List Int := if f.length = 0 then r else f
def fsD (d : Dv) : Dv := { d with zs := d.zs.map flZ, r0 := neI d.f0 d.r0, r1 := neI d.f1 d.r1, f0 := [], f1 := [] }
/-- A root sector. -/
def roD (d : Dv) (n : Int) (b : List Int) : Dv := if n = 0 then { d with f0 := b } else { d with f1 := b }
def dnE (d : Dv) (k n : Int) (b : List Int) : Int := if k = 1 ∨ k = 2 ∨ k = 3 then zoE d k n b else if k = 4 then 0 else if k = 5 then (if n < 0 ∨ n ≥ 2 ∨ b.length ≠ 128 then 100 else 0) else 1
def dnD (d : Dv) (k n : Int) (b : List Int) : Dv := if k = 1 ∨ k = 2 ∨ k = 3 then zoD d k n b else if k = 4 then fsD d else if k = 5 then (if n < 0 ∨ n ≥ 2 ∨ b.length ≠ 128 then d else roD d n b) else d
/-- A device that did one command more. -/
def d1 (d : Dv) : Dv := { d with lf := if d.lf > 0 then d.lf - 1 else d.lf, de := IntKind.i64.wrap (d.de + 1) }
def d2 (d : Dv) : Dv := { d1 d with ft := if d.ft > 0 then d.ft - 1 else d.ft }
def doE (d : Dv) (k n : Int) (b : List Int) : Int := if ¬ OkD d then 1 else if d.dn = true ∨ d.lf = 0 then 101 else if d.ft = 0 then 102 else dnE (d2 d) k n b
def doD (d : Dv) (k n : Int) (b : List Int) : Dv := if ¬ OkD d then d else if d.dn = true ∨ d.lf = 0 then { d with dn := true } else if d.ft = 0 then { d1 d with ft := -1 } else dnD (d2 d) k n b
def crI (f r : List Int) (b : Bool) : List Int := if f.length = 0 ∨ b = false then r else f
def crL (sz : Int) (ks : List Int) (zs : List Zo) : List Zo := zs.mapIdx fun i z => crZ z sz (ks.getD i 0)
def crD (d : Dv) (ks : List Int) (b0 b1 : Bool) : Dv := if ¬ OkD d then d else { d with zs := crL d.sz ks d.zs, r0 := crI d.f0 d.r0 b0, r1 := crI d.f1 d.r1 b1, f0 := [], f1 := [], dn := false, lf := -1, ft := -1 }
/-- A slice. -/
structure Sl where
  A : Option Addr
  m : Nat
  c : Nat
def slV (s : Sl) : Value := .slice s.A s.m s.c
/-- A slice holds these bytes. -/
def SlB (w : World) (s : Sl) (xs : List Int) : Prop := xs.length = s.m ∧ (s.m ≤ s.c ∧ s.c ≤ 9223372036854775807) ∧ Cells w s.A (xs.map (.int .u8))
theorem SlB.ext {w w' : World} {s : Sl} {xs : List Int} (h : SlB w s xs) (k : Ext w w') : SlB w' s xs := ⟨h.1, h.2.1, h.2.2.ext k⟩
/-- A zone as it lies in memory. -/
def zpC (p : Zo × Sl) : List Value := [.int .i64 p.1.s, slV p.2, .int .i64 p.1.l]
theorem zpC_length (p : Zo × Sl) : (zpC p).length = 3 := rfl
structure Ds where
  Z : Sl
  r0 : Sl
  r1 : Sl
  f0 : Sl
  f1 : Sl
def dvC (d : Dv) (s : Ds) : List Value := [.int .i64 d.sz, slV s.Z, slV s.r0, slV s.r1, slV s.f0, slV s.f1, .bool d.dn, .int .i64 d.lf, .int .i64 d.ft, .int .i64 d.de]
theorem dvC_length (d : Dv) (s : Ds) : (dvC d s).length = 10 := rfl
theorem dvC_one (d : Dv) (s : Ds) : ∀ u ∈ dvC d s, u.oneCell' = true := by
  intro u hu
  simp only [dvC, List.mem_cons, List.not_mem_nil, or_false] at hu
  rcases hu with rfl | rfl | rfl | rfl | rfl | rfl | rfl | rfl | rfl | rfl <;> rfl
/-- A device lies in memory. -/
structure DM (w : World) (d : Dv) (s : Ds) (zp : List (Zo × Sl)) : Prop where
  zs : zp.map (·.1) = d.zs
  zm : zp.length = s.Z.m
  zc : s.Z.m ≤ s.Z.c ∧ s.Z.c ≤ 9223372036854775807
  zz : Cells w s.Z.A (catC zpC zp)
  zb : ∀ p ∈ zp, SlB w p.2 p.1.d
  r0 : SlB w s.r0 d.r0
  r1 : SlB w s.r1 d.r1
  f0 : SlB w s.f0 d.f0
  f1 : SlB w s.f1 d.f1
theorem DM.ext {w w' : World} {d : Dv} {s : Ds} {zp : List (Zo × Sl)} (h : DM w d s zp) (k : Ext w w') : DM w' d s zp := ⟨h.zs, h.zm, h.zc, h.zz.ext k, fun p hp => (h.zb p hp).ext k, h.r0.ext k, h.r1.ext k, h.f0.ext k, h.f1.ext k⟩
theorem DM.go {w w' : World} {d : Dv} {s : Ds} {zp : List (Zo × Sl)} (h : DM w d s zp) (k : Ext w w') : DM w' d s zp := h.ext k
theorem DM.len {w : World} {d : Dv} {s : Ds} {zp : List (Zo × Sl)} (h : DM w d s zp) : d.zs.length = s.Z.m := by rw [← h.zs, List.length_map, h.zm]
theorem DM.get {w : World} {d : Dv} {s : Ds} {zp : List (Zo × Sl)} (h : DM w d s zp) {i : Nat} (hi : i < s.Z.m) : ∃ p, zp[i]? = some p ∧ d.zs[i]? = some p.1 ∧ SlB w p.2 p.1.d := by
  have hi' : i < zp.length := by rw [h.zm]; exact hi
  refine ⟨zp[i], List.getElem?_eq_getElem hi', ?_, h.zb _ (List.getElem_mem hi')⟩
  rw [← h.zs, List.getElem?_map, List.getElem?_eq_getElem hi']; rfl
theorem zp_at {zp : List (Zo × Sl)} {i : Nat} {p : Zo × Sl} (h : zp[i]? = some p) : (catC zpC zp)[(i : Int).toNat * 3 + 0]? = some (.int .i64 p.1.s) ∧ (catC zpC zp)[(i : Int).toNat * 3 + 1]? = some (slV p.2) ∧ (catC zpC zp)[(i : Int).toNat * 3 + 2]? = some (.int .i64 p.1.l) := by
  have hS := Seg.cat (f := zpC) (s := 3) zpC_length h
  have e : ∀ k, k < 3 → (catC zpC zp)[i * 3 + k]? = (zpC p)[k]? := fun k hk => by
    rw [← hS.2.2, List.getElem?_take, if_pos hk, List.getElem?_drop]
  rw [Int.toNat_natCast]
  exact ⟨e 0 om_, e 1 om_, e 2 om_⟩
theorem DM.sz {w : World} {d : Dv} {s : Ds} {zp : List (Zo × Sl)} (h : DM w d s zp) : (catC zpC zp).length = s.Z.m * 3 := by rw [catC_length zpC_length, h.zm]
theorem zp_one (zp : List (Zo × Sl)) : ∀ u ∈ catC zpC zp, u.oneCell' = true := by
  intro v hv
  simp only [catC, List.mem_flatMap] at hv
  obtain ⟨p, _, hv⟩ := hv
  simp only [zpC, List.mem_cons, List.not_mem_nil, or_false] at hv
  rcases hv with rfl | rfl | rfl <;> rfl
/-! ### a device in memory of a call's own -/
abbrev ByT : TypeId := 5
abbrev ZoT : TypeId := 48
abbrev DeT : TypeId := 29
abbrev EroT : TypeId := 30
def OwB (N : Nat) (w : World) (s : Sl) (xs : List Int) : Prop := w.ownsRow N ByT 1 (slV s) xs.length (xs.map (.int .u8))
theorem OwB.slB {N : Nat} {w : World} {s : Sl} {xs : List Int} (h : OwB N w s xs) : SlB w s xs := by
  have h' : w.ownsRow N ByT 1 (.slice s.A s.m s.c) xs.length (xs.map (.int .u8)) := h
  obtain ⟨A, c, he, _, _⟩ := own_cells h'
  cases s with
  | mk A m c =>
    dsimp only at he h'
    cases he
    exact ⟨rfl, own_cap h', own_rd h'⟩
theorem own_ne {w : World} {base n size g : Nat} {e T : TypeId} {v : Value} {xs cs : List Value} (h : w.ownsRow base e size v n xs) (hB : Blk w g cs T) (hne : e ≠ T) : ∀ g', v.ownBlock = some g' → g' ≠ g := by
  intro g' hg' he
  subst he
  rcases h.2 with ⟨rfl, _⟩ | ⟨g2, cap, cur, rfl, _, hh, _⟩
  · cases hg'
  · simp only [Value.ownBlock, Option.some.injEq] at hg'
    subst hg'
    unfold Blk at hB
    rw [hh] at hB
    simp only [Option.some.injEq, Obj.cells.injEq] at hB
    exact hne hB.2.1
theorem OwB.ext {N : Nat} {w w' : World} {s : Sl} {xs : List Int} (h : OwB N w s xs) (k : Ext w w') : OwB N w' s xs := own_ext h k
theorem OwB.put {N : Nat} {w w' : World} {s : Sl} {xs : List Int} {g : Nat} {cs : List Value} {T : TypeId} (h : OwB N w s xs) (hB : Blk w g cs T) (hne : ByT ≠ T) (k : ExtB g w w') : OwB N w' s xs := own_other k h (own_ne h hB hne)
theorem OwB.of {N M : Nat} {w : World} {A : Option Addr} {m c : Nat} {xs : List Int} (h : w.ownsRow M ByT 1 (.slice A m c) m (xs.map (.int .u8))) (hl : xs.length = m) (hN : N ≤ M) : OwB N w ⟨A, m, c⟩ xs := by
  subst hl; exact own_mono h hN
structure DSt (N : Nat) (w : World) (b : Nat) (d : Dv) (s : Ds) (zp : List (Zo × Sl)) : Prop where
  bd : Blk w b (dvC d s) DeT
  zs : zp.map (·.1) = d.zs
  zr : w.ownsRow N ZoT 3 (slV s.Z) zp.length (catC zpC zp)
  zb : ∀ p ∈ zp, OwB N w p.2 p.1.d
  r0 : OwB N w s.r0 d.r0
  r1 : OwB N w s.r1 d.r1
  f0 : OwB N w s.f0 d.f0
  f1 : OwB N w s.f1 d.f1
theorem row_m {N : Nat} {w : World} {T : TypeId} {k : Nat} {s : Sl} {n : Nat} {cs : List Value} (h : w.ownsRow N T k (slV s) n cs) : s.m = n := by
  have h' : w.ownsRow N T k (.slice s.A s.m s.c) n cs := h
  obtain ⟨A, c, he, _, _⟩ := own_cells h'
  cases s with
  | mk A m c => dsimp only at he; cases he; rfl
theorem DSt.dm {N : Nat} {w : World} {b : Nat} {d : Dv} {s : Ds} {zp : List (Zo × Sl)} (h : DSt N w b d s zp) : DM w d s zp := by
  have hm := row_m h.zr
  have hr : w.ownsRow N ZoT 3 (.slice s.Z.A s.Z.m s.Z.c) zp.length (catC zpC zp) := h.zr
  refine ⟨h.zs, hm.symm, own_cap hr, own_rd hr, fun p hp => (h.zb p hp).slB, h.r0.slB, h.r1.slB, h.f0.slB, h.f1.slB⟩
theorem DSt.ext {N : Nat} {w w' : World} {b : Nat} {d : Dv} {s : Ds} {zp : List (Zo × Sl)} (h : DSt N w b d s zp) (k : Ext w w') : DSt N w' b d s zp :=
  ⟨h.bd.ext k, h.zs, own_ext h.zr k, fun p hp => (h.zb p hp).ext k, h.r0.ext k, h.r1.ext k, h.f0.ext k, h.f1.ext k⟩
theorem DSt.mono {N M : Nat} {w : World} {b : Nat} {d : Dv} {s : Ds} {zp : List (Zo × Sl)} (h : DSt N w b d s zp) (k : M ≤ N) : DSt M w b d s zp :=
  ⟨h.bd, h.zs, own_mono h.zr k, fun p hp => own_mono (h.zb p hp) k, own_mono h.r0 k, own_mono h.r1 k, own_mono h.f0 k, own_mono h.f1 k⟩
/-- A device whose rows are a call's own. -/
structure DRw (N : Nat) (w : World) (d : Dv) (s : Ds) (zp : List (Zo × Sl)) : Prop where
  zs : zp.map (·.1) = d.zs
  zr : w.ownsRow N ZoT 3 (slV s.Z) zp.length (catC zpC zp)
  zb : ∀ p ∈ zp, OwB N w p.2 p.1.d
  r0 : OwB N w s.r0 d.r0
  r1 : OwB N w s.r1 d.r1
  f0 : OwB N w s.f0 d.f0
  f1 : OwB N w s.f1 d.f1
theorem DSt.dr {N : Nat} {w : World} {b : Nat} {d : Dv} {s : Ds} {zp : List (Zo × Sl)} (h : DSt N w b d s zp) : DRw N w d s zp := ⟨h.zs, h.zr, h.zb, h.r0, h.r1, h.f0, h.f1⟩
theorem DRw.dm {N : Nat} {w : World} {d : Dv} {s : Ds} {zp : List (Zo × Sl)} (h : DRw N w d s zp) : DM w d s zp := by
  have hm := row_m h.zr
  have hr : w.ownsRow N ZoT 3 (.slice s.Z.A s.Z.m s.Z.c) zp.length (catC zpC zp) := h.zr
  refine ⟨h.zs, hm.symm, own_cap hr, own_rd hr, fun p hp => (h.zb p hp).slB, h.r0.slB, h.r1.slB, h.f0.slB, h.f1.slB⟩
theorem DRw.mono {N M : Nat} {w : World} {d : Dv} {s : Ds} {zp : List (Zo × Sl)} (h : DRw N w d s zp) (k : M ≤ N) : DRw M w d s zp :=
  ⟨h.zs, own_mono h.zr k, fun p hp => own_mono (h.zb p hp) k, own_mono h.r0 k, own_mono h.r1 k, own_mono h.f0 k, own_mono h.f1 k⟩
theorem DRw.ext {N : Nat} {w w' : World} {d : Dv} {s : Ds} {zp : List (Zo × Sl)} (h : DRw N w d s zp) (k : Ext w w') : DRw N w' d s zp :=
  ⟨h.zs, own_ext h.zr k, fun p hp => (h.zb p hp).ext k, h.r0.ext k, h.r1.ext k, h.f0.ext k, h.f1.ext k⟩
theorem DRw.other {N : Nat} {w w' : World} {g : Nat} {d : Dv} {s : Ds} {zp : List (Zo × Sl)} {cs : List Value} {T : TypeId} (h : DRw N w d s zp) (hB : Blk w g cs T) (k : ExtB g w w') (n1 : ByT ≠ T) (n2 : ZoT ≠ T) : DRw N w' d s zp :=
  ⟨h.zs, own_other k h.zr (own_ne h.zr hB n2), fun p hp => (h.zb p hp).put hB n1 k, h.r0.put hB n1 k, h.r1.put hB n1 k, h.f0.put hB n1 k, h.f1.put hB n1 k⟩
/-- The device's own cells turn. -/
theorem DSt.dev {N : Nat} {w w' : World} {b : Nat} {d d' : Dv} {s s' : Ds} {zp : List (Zo × Sl)} (h : DSt N w b d s zp) (k : ExtB b w w') (hB : Blk w' b (dvC d' s') DeT) (hz : s'.Z = s.Z) (hzs : d'.zs = d.zs)
    (r0 : OwB N w s'.r0 d'.r0) (r1 : OwB N w s'.r1 d'.r1) (f0 : OwB N w s'.f0 d'.f0) (f1 : OwB N w s'.f1 d'.f1) : DSt N w' b d' s' zp := by
  have n1 : ByT ≠ DeT := by decide
  have n2 : ZoT ≠ DeT := by decide
  refine ⟨hB, h.zs.trans hzs.symm, ?_, fun p hp => (h.zb p hp).put h.bd n1 k, r0.put h.bd n1 k, r1.put h.bd n1 k, f0.put h.bd n1 k, f1.put h.bd n1 k⟩
  rw [hz]
  exact own_other k h.zr (own_ne h.zr h.bd n2)
/-- Another block turns. -/
theorem DSt.other {N : Nat} {w w' : World} {b g : Nat} {d : Dv} {s : Ds} {zp : List (Zo × Sl)} {cs : List Value} {T : TypeId} (h : DSt N w b d s zp) (hB : Blk w g cs T) (k : ExtB g w w') (hb : b ≠ g) (n1 : ByT ≠ T) (n2 : ZoT ≠ T) : DSt N w' b d s zp :=
  ⟨h.bd.extB k hb, h.zs, own_other k h.zr (own_ne h.zr hB n2), fun p hp => (h.zb p hp).put hB n1 k, h.r0.put hB n1 k, h.r1.put hB n1 k, h.f0.put hB n1 k, h.f1.put hB n1 k⟩
/-- The row of the zones, opened. -/
theorem row_open {N : Nat} {w : World} {T : TypeId} {k : Nat} {s : Sl} {n : Nat} {cs : List Value} (h : w.ownsRow N T k (slV s) n cs) (hn : 0 < n) : ∃ g rest, s.A = some ⟨g, 0, none⟩ ∧ N ≤ g ∧ Blk w g (cs ++ rest) T := by
  rcases h.2 with ⟨_, h0⟩ | ⟨g, cap, cur, hv, hb, hg, h1, h2, h3, h4⟩
  · omega
  · have hv' : Value.slice s.A s.m s.c = .slice (some ⟨g, 0, none⟩) n cap := hv
    simp only [Value.slice.injEq] at hv'
    refine ⟨g, cur.toList.drop (n * k), hv'.1, hb, ?_⟩
    unfold Blk
    rw [← h4, List.take_append_drop]
    exact hg
theorem row_put {N : Nat} {w w' : World} {T : TypeId} {k : Nat} {s : Sl} {n g : Nat} {cs cs' rest : List Value} (h : w.ownsRow N T k (slV s) n cs) (hA : s.A = some ⟨g, 0, none⟩) (hB : Blk w g (cs ++ rest) T) (hB' : Blk w' g (cs' ++ rest) T) (hl : cs'.length = cs.length) : w'.ownsRow N T k (slV s) n cs' := by
  obtain ⟨hl0, h2⟩ := h
  refine ⟨hl.trans hl0, ?_⟩
  rcases h2 with ⟨hv, h0⟩ | ⟨g', cap, cur, hv, hb, hg, h1, h2, h3, h4⟩
  · have hv' : Value.slice s.A s.m s.c = .slice none 0 0 := hv
    simp only [Value.slice.injEq] at hv'
    rw [hA] at hv'
    cases hv'.1
  · right
    have hv' : Value.slice s.A s.m s.c = .slice (some ⟨g', 0, none⟩) n cap := hv
    simp only [Value.slice.injEq] at hv'
    have e1 := hv'.1
    rw [hA] at e1
    simp only [Option.some.injEq, Addr.mk.injEq, and_true] at e1
    subst e1
    have hB2 : w.heap[g]? = some (.cells (cs ++ rest).toArray T (0, 0)) := hB
    rw [hg] at hB2
    simp only [Option.some.injEq, Obj.cells.injEq, and_true] at hB2
    refine ⟨g, cap, (cs' ++ rest).toArray, hv, hb, hB', h1, h2, ?_, ?_⟩
    · have : cur.size = (cs ++ rest).length := by rw [hB2]; simp
      rw [← h3, this, List.size_toArray, List.length_append, List.length_append, hl]
    · show (cs' ++ rest).take (n * k) = cs'
      rw [← hl0, ← hl, List.take_left]
/-- A zone turns. -/
theorem DSt.zone {N : Nat} {w w' : World} {b g : Nat} {d : Dv} {s : Ds} {zp : List (Zo × Sl)} {rest : List Value} (h : DSt N w b d s zp) (hA : s.Z.A = some ⟨g, 0, none⟩) (hB : Blk w g (catC zpC zp ++ rest) ZoT) (k : ExtB g w w') {i : Nat} {p : Zo × Sl} (hi : i < zp.length) (hB' : Blk w' g (catC zpC (zp.set i p) ++ rest) ZoT) (hp : OwB N w p.2 p.1.d) : DSt N w' b { d with zs := d.zs.set i p.1 } s (zp.set i p) := by
  have n1 : ByT ≠ ZoT := by decide
  have n2 : DeT ≠ ZoT := by decide
  have hbg : b ≠ g := by
    intro e
    subst e
    have h1 : w.heap[b]? = some (.cells (dvC d s).toArray DeT (0, 0)) := h.bd
    have h2 : w.heap[b]? = some (.cells (catC zpC zp ++ rest).toArray ZoT (0, 0)) := hB
    rw [h1] at h2
    simp only [Option.some.injEq, Obj.cells.injEq] at h2
    exact n2 h2.2.1
  refine ⟨h.bd.extB k hbg, ?_, ?_, ?_, h.r0.put hB n1 k, h.r1.put hB n1 k, h.f0.put hB n1 k, h.f1.put hB n1 k⟩
  · rw [List.map_set, h.zs]
  · rw [List.length_set]
    exact row_put h.zr hA hB hB' (by rw [catC_length zpC_length, catC_length zpC_length, List.length_set])
  · intro q hq
    rcases List.mem_or_eq_of_mem_set hq with hq | rfl
    · exact (h.zb q hq).put hB n1 k
    · exact hp.put hB n1 k
theorem Put.appR {cs vs cs' rest : List Value} {i : Nat} (h : Put cs i vs cs') : Put (cs ++ rest) i vs (cs' ++ rest) := by
  obtain ⟨h1, h2⟩ := h
  refine ⟨by rw [List.length_append]; omega, ?_⟩
  rw [List.take_append_of_le_length om_, List.drop_append_of_le_length h1, ← h2, List.append_assoc, List.append_assoc, List.append_assoc]
theorem Put.zp {zp : List (Zo × Sl)} {rest : List Value} {i : Nat} (p : Zo × Sl) (hi : i < zp.length) : Put (catC zpC zp ++ rest) (0 + i * 3) (zpC p) (catC zpC (zp.set i p) ++ rest) := by
  rw [Nat.zero_add]
  exact (Put.cat zpC_length p hi).appR
/-- Below N nothing turns, but what P names, at most. -/
structure BelowE (N : Nat) (P : Nat → Prop) (w w' : World) : Prop where
  os : w'.os = w.os
  tape : w'.tape = w.tape
  output : w'.output = w.output
  size : w.heap.size ≤ w'.heap.size
  block : ∀ k, k < N → ¬ P k → w'.heap[k]? = w.heap[k]?
theorem BelowE.refl (N : Nat) (P : Nat → Prop) (w : World) : BelowE N P w w := ⟨rfl, rfl, rfl, Nat.le_refl _, fun _ _ _ => rfl⟩
theorem BelowE.then {N : Nat} {P : Nat → Prop} {a b c : World} (h : BelowE N P a b) (k : BelowE N P b c) : BelowE N P a c :=
  ⟨k.os.trans h.os, k.tape.trans h.tape, k.output.trans h.output, Nat.le_trans h.size k.size, fun i hi hn => (k.block i hi hn).trans (h.block i hi hn)⟩
theorem BelowE.ext {N : Nat} {P : Nat → Prop} {a b c : World} (h : BelowE N P a b) (k : Ext b c) (hN : N ≤ a.heap.size) : BelowE N P a c :=
  h.then ⟨k.os, k.tape, k.output, k.size, fun i hi _ => k.block i (Nat.lt_of_lt_of_le hi (Nat.le_trans hN h.size))⟩
theorem BelowE.extB {N : Nat} {P : Nat → Prop} {g : Nat} {a b c : World} (h : BelowE N P a b) (k : ExtB g b c) (hN : N ≤ a.heap.size) (hg : N ≤ g ∨ P g) : BelowE N P a c :=
  h.then ⟨k.os, k.tape, k.output, k.size, fun i hi hn => k.block i (Nat.lt_of_lt_of_le hi (Nat.le_trans hN h.size)) (by
    intro e2; cases e2
    rcases hg with hg | hg
    · omega
    · exact hn hg)⟩
theorem BelowE.mono {N N' : Nat} {P P' : Nat → Prop} {a b : World} (h : BelowE N P a b) (hN : N' ≤ N) (hP : ∀ k, k < N' → P k → P' k) : BelowE N' P' a b :=
  ⟨h.os, h.tape, h.output, h.size, fun i hi hn => h.block i om_ (fun hp => hn (hP i hi hp))⟩
theorem BelowE.of {N : Nat} {P : Nat → Prop} {a b : World} (h : Ext a b) (hN : N ≤ a.heap.size) : BelowE N P a b := (BelowE.refl N P a).ext h hN
theorem BelowE.toExt {N : Nat} {P : Nat → Prop} {a b : World} (h : BelowE N P a b) (hN : a.heap.size ≤ N) (hP : ∀ k, k < a.heap.size → ¬ P k) : Ext a b :=
  ⟨h.os, h.tape, h.output, h.size, fun i hi => h.block i om_ (hP i hi)⟩
theorem BelowE.blk {N : Nat} {P : Nat → Prop} {a b : World} {g : Nat} {cs : List Value} {T : TypeId} (h : BelowE N P a b) (hB : Blk a g cs T) (hg : g < N) (hP : ¬ P g) : Blk b g cs T := (h.block g hg hP).trans hB
end Go.Proofs.Ytemfngomfiimfaa.K
