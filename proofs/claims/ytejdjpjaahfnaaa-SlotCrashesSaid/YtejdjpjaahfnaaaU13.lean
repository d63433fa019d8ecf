/- Chapter 14 (slot): a device of a turn, whichever root sector; behind a crash. Seat-free. -/
import Derived.Test.YtejdjpjaahfnaaaLA
import Derived.Test.YtejdjpjaahfnaaaH10
set_option linter.unusedVariables false
set_option linter.unusedSimpArgs false
set_option maxHeartbeats 4000000
set_option maxRecDepth 20000
namespace Go.Proofs.Ytejdjpjaahfnaaa.K
open Go.RowKit
attribute [local irreducible] strEq strOfNums Calls WL WC WQ WX Code.wp wpList bodyPost
theorem seg3 {cs : List Value} {k : Nat} {a b c : Value} (h0 : cs[k]? = some a) (h1 : cs[k + 1]? = some b) (h2 : cs[k + 2]? = some c) : ∀ j v, ([a, b, c] : List Value)[j]? = some v → cs[k + j]? = some v := by
  intro j v hj
  match j, hj with
  | 0, hj => cases hj; exact h0
  | 1, hj => cases hj; exact h1
  | 2, hj => cases hj; exact h2
/-- What lies at an address of a block. -/
theorem cell_at {w : World} {g : Nat} {cs : List Value} {T : TypeId} {ad : Addr} {j : Nat} {v : Value} (hB : Blk w g cs T) (he : ad.block = g) (h : w.cell? (ad.add j) = some v) : cs[ad.off + j]? = some v := by
  have hB' : w.heap[g]? = some (.cells cs.toArray T (0, 0)) := hB
  have e1 : (ad.add j).block = g := by unfold Addr.add; split <;> exact he
  have e2 : (ad.add j).off = ad.off + j := by unfold Addr.add; split <;> simp_all
  unfold World.cell? at h
  rw [e1, hB'] at h
  simp only at h
  split at h
  · cases h
  · rw [e2] at h; simpa using h
/-- Bytes, and commands, stay where a device's block turns. -/
theorem Cells.keepU {w4 wS w' : World} {A : Option Addr} {xs : List Int} {g : Nat} {d : Dv} {s : Ds} {T : TypeId} (k : ExtB g wS w') (h : Cells w4 A (xs.map (.int .u8))) (hB : Blk w4 g (dvC d s) T) (e : Ext w4 wS) : Cells w' A (xs.map (.int .u8)) := by
  have h := h.ext e
  have hB := hB.ext e
  rcases xs with _ | ⟨x, r⟩
  · exact .inl rfl
  · refine Cells.extB h k (fun ad hA he => ?_)
    rcases h with h | ⟨ad', hA', h⟩
    · cases h
    · rw [hA] at hA'
      cases hA'
      have h0 := cell_at hB he (h 0 (.int .u8 x) rfl)
      have hm := List.mem_of_getElem? h0
      simp only [dvC, slV, List.mem_cons, List.not_mem_nil, or_false] at hm
      rcases hm with hm | hm | hm | hm | hm | hm | hm | hm | hm | hm <;> cases hm
theorem Cells.keepC {w4 wS w' : World} {A B : Option Addr} {x y : Int} {m c : Nat} {r : List Value} {g : Nat} {d : Dv} {s : Ds} {T : TypeId} (k : ExtB g wS w') (h : Cells w4 A (.int .i64 x :: .int .i64 y :: .slice B m c :: r)) (hB : Blk w4 g (dvC d s) T) (e : Ext w4 wS) : Cells w' A (.int .i64 x :: .int .i64 y :: .slice B m c :: r) := by
  have h := h.ext e
  have hB := hB.ext e
  refine Cells.extB h k (fun ad hA he => ?_)
  rcases h with h | ⟨ad', hA', h⟩
  · cases h
  · rw [hA] at hA'
    cases hA'
    have h0 := cell_at hB he (h 0 _ rfl)
    have h1 := cell_at hB he (h 1 _ rfl)
    have h2 := cell_at hB he (h 2 _ rfl)
    generalize ad.off = o at h0 h1 h2
    match o, h0, h1, h2 with
    | 0, h0, h1, h2 => simp [dvC, slV] at h1
    | 1, h0, h1, h2 => simp [dvC, slV] at h0
    | 2, h0, h1, h2 => simp [dvC, slV] at h0
    | 3, h0, h1, h2 => simp [dvC, slV] at h0
    | 4, h0, h1, h2 => simp [dvC, slV] at h0
    | 5, h0, h1, h2 => simp [dvC, slV] at h0
    | 6, h0, h1, h2 => simp [dvC, slV] at h0
    | 7, h0, h1, h2 => simp [dvC, slV] at h2
    | 8, h0, h1, h2 => simp [dvC, slV] at h2
    | o + 9, h0, h1, h2 => simp [dvC, slV] at h1
/-- A device of one empty zone: x in the one root sector, y in the other one. -/
def dvS (t : Bool) (x y f g : List Int) (de : Int) : Dv := match t with
  | false => dvA x y f g de
  | true => dvA y x g f de
def rt0 (t : Bool) (x y : List Int) : List Int := match t with
  | false => x
  | true => y
def rt1 (t : Bool) (x y : List Int) : List Int := match t with
  | false => y
  | true => x
theorem Okk.sw {a b f g : List Int} {de : Int} (h : Okk a b f g de) : Okk b a g f de := ⟨h.b, h.a, h.g, h.f, h.e⟩
theorem devS_open {N : Nat} {w : World} {t : Bool} {x y f g : List Int} {de : Int} {s : Ds} {zp : List (Zo × Sl)} (h : DRw N w (dvS t x y f g de) s zp) (hx : x.length = 128) (hy : y.length = 128) :
    ∃ ZA Zc A0 c0 A1 c1 g0 g1, s = ⟨⟨ZA, 1, Zc⟩, ⟨A0, 128, c0⟩, ⟨A1, 128, c1⟩, g0, g1⟩ ∧ (128 ≤ c0 ∧ c0 ≤ 9223372036854775807) ∧ (128 ≤ c1 ∧ c1 ≤ 9223372036854775807) ∧ Cells w A0 ((rt0 t x y).map (.int .u8)) ∧ Cells w A1 ((rt1 t x y).map (.int .u8)) := by
  have hM := h.dm
  have q0 := hM.r0
  have q1 := hM.r1
  have l := hM.len
  obtain ⟨⟨ZA, Zm, Zc⟩, ⟨A0, m0, c0⟩, ⟨A1, m1, c1⟩, g0, g1⟩ := s
  obtain ⟨l0, b0, y0⟩ := q0
  obtain ⟨l1, b1, y1⟩ := q1
  dsimp only at l l0 b0 y0 l1 b1 y1
  cases t
  · obtain rfl : m0 = 128 := l0.symm.trans hx
    obtain rfl : m1 = 128 := l1.symm.trans hy
    obtain rfl : Zm = 1 := l.symm
    exact ⟨ZA, Zc, A0, c0, A1, c1, g0, g1, rfl, b0, b1, y0, y1⟩
  · obtain rfl : m0 = 128 := l0.symm.trans hy
    obtain rfl : m1 = 128 := l1.symm.trans hx
    obtain rfl : Zm = 1 := l.symm
    exact ⟨ZA, Zc, A0, c0, A1, c1, g0, g1, rfl, b0, b1, y0, y1⟩
/-- The one root sector, the other one, and a flush. -/
theorem devS_own_calls {s : Int} {t : Bool} (hst : (s = 0 ∧ t = false) ∨ (s = 1 ∧ t = true)) {x y f g : List Int} {de : Int} (h : Okk x y f g de) (A : Option Addr) (c : Nat) (bs : List Int) (w : World) (sd : Ds) (zp : List (Zo × Sl)) (hM : DM w (dvS t x y f g de) sd zp) (hl : bs.length = 128) (hc : 128 ≤ c ∧ c ≤ 9223372036854775807) (hC : Cells w A (bs.map (.int .u8))) :
    Calls Try.prog 26 #[.agg (dvC (dvS t x y f g de) sd).toArray, .agg #[.int .i64 5, .int .i64 s, .slice A 128 c]] w fun e w' => ∃ s2 zp2, e = .returned (.tuple #[.agg (dvC (dvS t x y bs g (de + 1)) s2).toArray, .int .i64 0]) ∧ DRw w.heap.size w' (dvS t x y bs g (de + 1)) s2 zp2 ∧ Ext w w' := by
  rcases hst with ⟨rfl, rfl⟩ | ⟨rfl, rfl⟩
  · exact devA_R0_calls h A c bs w sd zp hM hl hc hC
  · exact devA_R1_calls h.sw A c bs w sd zp hM hl hc hC
theorem devS_oth_calls {s : Int} {t : Bool} (hst : (s = 0 ∧ t = false) ∨ (s = 1 ∧ t = true)) {x y f g : List Int} {de : Int} (h : Okk x y f g de) (A : Option Addr) (c : Nat) (bs : List Int) (w : World) (sd : Ds) (zp : List (Zo × Sl)) (hM : DM w (dvS t x y f g de) sd zp) (hl : bs.length = 128) (hc : 128 ≤ c ∧ c ≤ 9223372036854775807) (hC : Cells w A (bs.map (.int .u8))) :
    Calls Try.prog 26 #[.agg (dvC (dvS t x y f g de) sd).toArray, .agg #[.int .i64 5, .int .i64 (1 - s), .slice A 128 c]] w fun e w' => ∃ s2 zp2, e = .returned (.tuple #[.agg (dvC (dvS t x y f bs (de + 1)) s2).toArray, .int .i64 0]) ∧ DRw w.heap.size w' (dvS t x y f bs (de + 1)) s2 zp2 ∧ Ext w w' := by
  rcases hst with ⟨rfl, rfl⟩ | ⟨rfl, rfl⟩
  · exact devA_R1_calls h A c bs w sd zp hM hl hc hC
  · exact devA_R0_calls h.sw A c bs w sd zp hM hl hc hC
theorem devS_F_calls {t : Bool} {x y f g : List Int} {de : Int} (h : Okk x y f g de) (n : Int) (A : Option Addr) (m c : Nat) (w : World) (sd : Ds) (zp : List (Zo × Sl)) (hM : DM w (dvS t x y f g de) sd zp) :
    Calls Try.prog 26 #[.agg (dvC (dvS t x y f g de) sd).toArray, .agg #[.int .i64 4, .int .i64 n, .slice A m c]] w fun e w' => ∃ s2 zp2, e = .returned (.tuple #[.agg (dvC (dvS t (neI f x) (neI g y) [] [] (de + 1)) s2).toArray, .int .i64 0]) ∧ DRw w.heap.size w' (dvS t (neI f x) (neI g y) [] [] (de + 1)) s2 zp2 ∧ Ext w w' := by
  cases t
  · exact devA_F_calls h n A m c w sd zp hM
  · exact devA_F_calls h.sw n A m c w sd zp hM
theorem zo0_cr : crZ zo0 8 0 = zo0 := by
  have h : OkZ zo0 8 := by decide
  unfold crZ
  rw [if_neg (fun k => k h), if_neg (by decide)]
  rfl
theorem devA_cr {a b f g : List Int} {de : Int} : ∀ z ∈ (dvA a b f g de).zs, crZ z (dvA a b f g de).sz 0 = z := by
  intro z hz
  obtain rfl : z = zo0 := by simpa [dvA] using hz
  exact zo0_cr
theorem devS_C_calls {t : Bool} {x y f g : List Int} {de : Int} (h : Okk x y f g de) (b0 b1 : Bool) (w : World) (sd : Ds) (zp : List (Zo × Sl)) (hM : DM w (dvS t x y f g de) sd zp) :
    Calls Try.prog 28 #[.agg (dvC (dvS t x y f g de) sd).toArray, .slice none 0 0, .agg #[.bool b0, .bool b1]] w fun e w' => ∃ s2 zp2, e = .returned (.agg (dvC (dvS t (crI f x (bif t then b1 else b0)) (crI g y (bif t then b0 else b1)) [] [] de) s2).toArray) ∧ DRw w.heap.size w' (dvS t (crI f x (bif t then b1 else b0)) (crI g y (bif t then b0 else b1)) [] [] de) s2 zp2 ∧ Ext w w' := by
  cases t
  · exact dev_Crash_calls b0 b1 w (dvA x y f g de) sd zp h.w h.go.1 devA_cr hM
  · exact dev_Crash_calls b0 b1 w (dvA y x g f de) sd zp h.sw.w h.sw.go.1 devA_cr hM
/-- The devices of a turn, behind so many commands. -/
def twS (t : Bool) (Wo Wn Z : List Int) : Nat → Dv
  | 0 => dvS t Wo Z [] [] 3
  | 1 => dvS t Wo Z [] Wn 4
  | 2 => dvS t Wo Wn [] [] 5
  | 3 => dvS t Wo Wn Z [] 6
  | _ => dvS t Z Wn [] [] 7
abbrev tuC (s : Int) (B1 B2 B3 B4 : Option Addr) (c1 c2 c3 c4 : Nat) : List Value := [.int .i64 5, .int .i64 (1 - s), .slice B1 128 c1, .int .i64 4, .int .i64 0, .slice B3 0 c3, .int .i64 5, .int .i64 s, .slice B2 128 c2, .int .i64 4, .int .i64 0, .slice B4 0 c4]
abbrev Byt (a : List Int) : Prop := a.length = 128 ∧ ∀ x ∈ a, 0 ≤ x ∧ x < 256
theorem twS_round {s : Int} {t : Bool} (hst : (s = 0 ∧ t = false) ∨ (s = 1 ∧ t = true)) {Wo Wn Z : List Int} (ho : Byt Wo) (hn : Byt Wn) (hZ : Byt Z) {i : Nat} (hi : i < 4) {B1 B2 : Option Addr} (B3 B4 : Option Addr) {c1 c2 : Nat} (c3 c4 : Nat) (h1 : 128 ≤ c1 ∧ c1 ≤ 9223372036854775807) (h2 : 128 ≤ c2 ∧ c2 ≤ 9223372036854775807) :
    ∃ cv : Cv, (∀ j v, (cvC cv)[j]? = some v → (tuC s B1 B2 B3 B4 c1 c2 c3 c4)[(i : Int).toNat * 3 + j]? = some v) ∧ ∀ w sd zd, DM w (twS t Wo Wn Z i) sd zd → Cells w B1 (Wn.map (.int .u8)) → Cells w B2 (Z.map (.int .u8)) →
      Calls Try.prog 26 #[.agg (dvC (twS t Wo Wn Z i) sd).toArray, .agg (cvC cv).toArray] w fun e w' => ∃ s2 z2, e = .returned (.tuple #[.agg (dvC (twS t Wo Wn Z (i + 1)) s2).toArray, .int .i64 0]) ∧ DRw w.heap.size w' (twS t Wo Wn Z (i + 1)) s2 z2 ∧ Ext w w' := by
  match i, hi with
  | 0, _ => exact ⟨⟨5, 1 - s, B1, 128, c1⟩, seg3 rfl rfl rfl, fun w sd zd hM hC hD => devS_oth_calls hst ⟨ho, hZ, nil_ok, nil_ok, by decide⟩ B1 c1 Wn w sd zd hM hn.1 h1 hC⟩
  | 1, _ =>
    have h := fun w sd zd hM => devS_F_calls (t := t) (x := Wo) (y := Z) (f := []) (g := Wn) (de := 4) ⟨ho, hZ, nil_ok, full_ok hn, by decide⟩ 0 B3 0 c3 w sd zd hM
    rw [neI_nil, neI_full hn.1] at h
    exact ⟨⟨4, 0, B3, 0, c3⟩, seg3 rfl rfl rfl, fun w sd zd hM hC hD => h w sd zd hM⟩
  | 2, _ => exact ⟨⟨5, s, B2, 128, c2⟩, seg3 rfl rfl rfl, fun w sd zd hM hC hD => devS_own_calls hst ⟨ho, hn, nil_ok, nil_ok, by decide⟩ B2 c2 Z w sd zd hM hZ.1 h2 hD⟩
  | 3, _ =>
    have h := fun w sd zd hM => devS_F_calls (t := t) (x := Wo) (y := Wn) (f := Z) (g := []) (de := 6) ⟨ho, hn, full_ok hZ, nil_ok, by decide⟩ 0 B4 0 c4 w sd zd hM
    rw [neI_nil, neI_full hZ.1] at h
    exact ⟨⟨4, 0, B4, 0, c4⟩, seg3 rfl rfl rfl, fun w sd zd hM hC hD => h w sd zd hM⟩
/-- The devices of a turn's end. -/
def cwS (t : Bool) (X Y Z : List Int) (de : Int) : Nat → Dv
  | 0 => dvS t X Y [] [] de
  | 1 => dvS t X Y Z [] (de + 1)
  | _ => dvS t Z Y [] [] (de + 1 + 1)
abbrev erC (s : Int) (B2 B4 : Option Addr) (c2 c4 : Nat) : List Value := [.int .i64 5, .int .i64 s, .slice B2 128 c2, .int .i64 4, .int .i64 0, .slice B4 0 c4]
theorem cwS_round {s : Int} {t : Bool} (hst : (s = 0 ∧ t = false) ∨ (s = 1 ∧ t = true)) {X Y Z : List Int} {de : Int} (hX : Byt X) (hY : Byt Y) (hZ : Byt Z) (hd : 0 ≤ de ∧ de ≤ 100) {i : Nat} (hi : i < 2) {B2 : Option Addr} (B4 : Option Addr) {c2 : Nat} (c4 : Nat) (h2 : 128 ≤ c2 ∧ c2 ≤ 9223372036854775807) :
    ∃ cv : Cv, (∀ j v, (cvC cv)[j]? = some v → (erC s B2 B4 c2 c4)[(i : Int).toNat * 3 + j]? = some v) ∧ ∀ w sd zd, DM w (cwS t X Y Z de i) sd zd → Cells w B2 (Z.map (.int .u8)) →
      Calls Try.prog 26 #[.agg (dvC (cwS t X Y Z de i) sd).toArray, .agg (cvC cv).toArray] w fun e w' => ∃ s2 z2, e = .returned (.tuple #[.agg (dvC (cwS t X Y Z de (i + 1)) s2).toArray, .int .i64 0]) ∧ DRw w.heap.size w' (cwS t X Y Z de (i + 1)) s2 z2 ∧ Ext w w' := by
  match i, hi with
  | 0, _ => exact ⟨⟨5, s, B2, 128, c2⟩, seg3 rfl rfl rfl, fun w sd zd hM hD => devS_own_calls hst ⟨hX, hY, nil_ok, nil_ok, by omega⟩ B2 c2 Z w sd zd hM hZ.1 h2 hD⟩
  | 1, _ =>
    have h := fun w sd zd hM => devS_F_calls (t := t) (x := X) (y := Y) (f := Z) (g := []) (de := de + 1) ⟨hX, hY, full_ok hZ, nil_ok, by omega⟩ 0 B4 0 c4 w sd zd hM
    rw [neI_nil, neI_full hZ.1] at h
    exact ⟨⟨4, 0, B4, 0, c4⟩, seg3 rfl rfl rfl, fun w sd zd hM hD => h w sd zd hM⟩
/-- Behind a crash: what holds, and what ends the turn. -/
structure Crs (a b : Rc) (s : Int) (t : Bool) (k : Nat) (X Y X2 : List Int) (r : Rc) (at' : Int) (m : Nat) : Prop where
  q : (k ≤ 1 ∧ r = a ∧ at' = s) ∨ (1 ≤ k ∧ r = b ∧ at' = 1 - s)
  c : slR (rt0 t X Y) (rt1 t X Y) = r ∧ slN (rt0 t X Y) (rt1 t X Y) = at' ∧ slE (rt0 t X Y) (rt1 t X Y) = 0
  l : (m = 0 ∧ X2 = X ∧ cloS (rt0 t X Y) (rt1 t X Y) = []) ∨ (m = 2 ∧ X2 = z128 ∧ cloS (rt0 t X Y) (rt1 t X Y) = erL s)
  d : slR (rt0 t X2 Y) (rt1 t X2 Y) = r ∧ slN (rt0 t X2 Y) (rt1 t X2 Y) = at' ∧ slE (rt0 t X2 Y) (rt1 t X2 Y) = 0
  e : cloS (rt0 t X2 Y) (rt1 t X2 Y) = []
  z : (at' = s ∧ Y = z128) ∨ (at' = 1 - s ∧ X2 = z128)
  x : Byt X ∧ Byt Y ∧ Byt X2
theorem er_z128 : erased z128 = true := decide_eq_true rfl
/-- A record in the one sector, none in the other one. -/
theorem one_rec {r : Rc} {s : Int} {t : Bool} (hst : (s = 0 ∧ t = false) ∨ (s = 1 ∧ t = true)) (h : OkR r) (hr : RcW r) :
    (slR (rt0 t (wrA r) z128) (rt1 t (wrA r) z128) = r ∧ slN (rt0 t (wrA r) z128) (rt1 t (wrA r) z128) = s ∧ slE (rt0 t (wrA r) z128) (rt1 t (wrA r) z128) = 0) ∧ cloS (rt0 t (wrA r) z128) (rt1 t (wrA r) z128) = [] := by
  have hR := okRd_wrA h hr
  have hT := toR_wrA h hr
  rcases hst with ⟨rfl, rfl⟩ | ⟨rfl, rfl⟩
  · have hn : ¬ Sec (wrA r) z128 := fun k => okRd_z128 k.1
    have e := sl_1 hR hn
    rw [hT] at e
    refine ⟨e, if_neg fun k => ?_⟩
    have h1 : cloO (wrA r) z128 = z128 := if_neg hn
    have k2 : erased (cloO (wrA r) z128) = false := k.2
    rw [h1, er_z128] at k2
    cases k2
  · have hp : Sec z128 (wrA r) := ⟨hR, .inl okRd_z128⟩
    have e := sl_2 hp
    rw [hT] at e
    refine ⟨e, if_neg fun k => ?_⟩
    have h1 : cloO z128 (wrA r) = z128 := if_pos hp
    have k2 : erased (cloO z128 (wrA r)) = false := k.2
    rw [h1, er_z128] at k2
    cases k2
theorem er_wrA {r : Rc} (h : OkR r) (hr : RcW r) : erased (wrA r) = false := by
  have hR := okRd_wrA h hr
  unfold erased
  refine decide_eq_false fun e => ?_
  exact okRd_z128 (by rw [show z128 = wrA r from e.symm]; exact hR)
/-- A record in both of them. -/
theorem two_rec {a b : Rc} {s : Int} {t : Bool} (hst : (s = 0 ∧ t = false) ∨ (s = 1 ∧ t = true)) (hA : OkR a) (ha : RcW a) (hB : OkR b) (hb : RcW b) (hE : a.ep < b.ep) :
    (slR (rt0 t (wrA a) (wrA b)) (rt1 t (wrA a) (wrA b)) = b ∧ slN (rt0 t (wrA a) (wrA b)) (rt1 t (wrA a) (wrA b)) = 1 - s ∧ slE (rt0 t (wrA a) (wrA b)) (rt1 t (wrA a) (wrA b)) = 0) ∧ cloS (rt0 t (wrA a) (wrA b)) (rt1 t (wrA a) (wrA b)) = erL s := by
  have hT := toR_wrA hB hb
  rcases hst with ⟨rfl, rfl⟩ | ⟨rfl, rfl⟩
  · have hp : Sec (wrA a) (wrA b) := (sec_wrA hA hB ha hb).2 hE
    have e := sl_2 hp
    rw [hT] at e
    refine ⟨e, ?_⟩
    have h1 : cloO (wrA a) (wrA b) = wrA a := if_pos hp
    have h2 : cloS (wrA a) (wrA b) = erL (1 - slN (wrA a) (wrA b)) := if_pos ⟨e.2.2, by rw [h1]; exact er_wrA hA ha⟩
    rw [e.2.1] at h2
    exact h2
  · have hn : ¬ Sec (wrA b) (wrA a) := fun k => by have := (sec_wrA hB hA hb ha).1 k; omega
    have e := sl_1 (okRd_wrA hB hb) hn
    rw [hT] at e
    refine ⟨e, ?_⟩
    have h1 : cloO (wrA b) (wrA a) = wrA a := if_neg hn
    have h2 : cloS (wrA b) (wrA a) = erL (1 - slN (wrA b) (wrA a)) := if_pos ⟨e.2.2, by rw [h1]; exact er_wrA hA ha⟩
    rw [e.2.1] at h2
    exact h2
theorem rt_sw {t : Bool} {x y : List Int} : rt0 (!t) y x = rt0 t x y ∧ rt1 (!t) y x = rt1 t x y := by cases t <;> exact ⟨rfl, rfl⟩
theorem one_rec2 {r : Rc} {s : Int} {t : Bool} (hst : (s = 0 ∧ t = false) ∨ (s = 1 ∧ t = true)) (h : OkR r) (hr : RcW r) :
    (slR (rt0 t z128 (wrA r)) (rt1 t z128 (wrA r)) = r ∧ slN (rt0 t z128 (wrA r)) (rt1 t z128 (wrA r)) = 1 - s ∧ slE (rt0 t z128 (wrA r)) (rt1 t z128 (wrA r)) = 0) ∧ cloS (rt0 t z128 (wrA r)) (rt1 t z128 (wrA r)) = [] := by
  have k := one_rec (s := 1 - s) (t := !t) (hst.elim (fun h => .inr ⟨by omega, by rw [h.2]; rfl⟩) (fun h => .inl ⟨by omega, by rw [h.2]; rfl⟩)) h hr
  rw [rt_sw.1, rt_sw.2] at k
  exact k
theorem twS_crash {a b : Rc} {s : Int} {t : Bool} (hst : (s = 0 ∧ t = false) ∨ (s = 1 ∧ t = true)) (hA : OkR a) (ha : RcW a) (hB : OkR b) (hb : RcW b) (hE : a.ep < b.ep) {k : Nat} (hk : k ≤ 4) (b0 b1 : Bool) :
    ∃ X Y X2 r at' m de, Crs a b s t k X Y X2 r at' m ∧ (0 ≤ de ∧ de ≤ 100) ∧ ∀ w sd zp, DM w (twS t (wrA a) (wrA b) z128 k) sd zp →
      Calls Try.prog 28 #[.agg (dvC (twS t (wrA a) (wrA b) z128 k) sd).toArray, .slice none 0 0, .agg #[.bool b0, .bool b1]] w fun e w' => ∃ ZA Zc A0 c0 A1 c1 g0 g1 zp2, e = .returned (.agg (dvC (dvS t X Y [] [] de) ⟨⟨ZA, 1, Zc⟩, ⟨A0, 128, c0⟩, ⟨A1, 128, c1⟩, g0, g1⟩).toArray) ∧ DRw w.heap.size w' (dvS t X Y [] [] de) ⟨⟨ZA, 1, Zc⟩, ⟨A0, 128, c0⟩, ⟨A1, 128, c1⟩, g0, g1⟩ zp2 ∧ ((128 ≤ c0 ∧ c0 ≤ 9223372036854775807) ∧ (128 ≤ c1 ∧ c1 ≤ 9223372036854775807)) ∧ Cells w' A0 ((rt0 t X Y).map (.int .u8)) ∧ Cells w' A1 ((rt1 t X Y).map (.int .u8)) ∧ Ext w w' := by
  have oa : Byt (wrA a) := ⟨wrA_length ha, wrA_bytes hA ha⟩
  have ob : Byt (wrA b) := ⟨wrA_length hb, wrA_bytes hB hb⟩
  have oz : Byt z128 := z128_ok
  have r1 := one_rec hst hA ha
  have r2 := one_rec2 hst hB hb
  have r3 := two_rec hst hA ha hB hb hE
  have kA : ∀ k, k ≤ 1 → Crs a b s t k (wrA a) z128 (wrA a) a s 0 := fun k hk => ⟨.inl ⟨hk, rfl, rfl⟩, r1.1, .inl ⟨rfl, rfl, r1.2⟩, r1.1, r1.2, .inl ⟨rfl, rfl⟩, oa, oz, oa⟩
  have kB : ∀ k, 1 ≤ k → Crs a b s t k (wrA a) (wrA b) z128 b (1 - s) 2 := fun k hk => ⟨.inr ⟨hk, rfl, rfl⟩, r3.1, .inr ⟨rfl, rfl, r3.2⟩, r2.1, r2.2, .inr ⟨rfl, rfl⟩, oa, ob, oz⟩
  have kC : ∀ k, 1 ≤ k → Crs a b s t k z128 (wrA b) z128 b (1 - s) 0 := fun k hk => ⟨.inr ⟨hk, rfl, rfl⟩, r2.1, .inl ⟨rfl, rfl, r2.2⟩, r2.1, r2.2, .inr ⟨rfl, rfl⟩, oz, ob, oz⟩
  have go : ∀ {x y f g : List Int} {de : Int} (X Y : List Int), Okk x y f g de → Byt X → Byt Y → crI f x (bif t then b1 else b0) = X → crI g y (bif t then b0 else b1) = Y → ∀ w sd zp, DM w (dvS t x y f g de) sd zp →
      Calls Try.prog 28 #[.agg (dvC (dvS t x y f g de) sd).toArray, .slice none 0 0, .agg #[.bool b0, .bool b1]] w fun e w' => ∃ ZA Zc A0 c0 A1 c1 g0 g1 zp2, e = .returned (.agg (dvC (dvS t X Y [] [] de) ⟨⟨ZA, 1, Zc⟩, ⟨A0, 128, c0⟩, ⟨A1, 128, c1⟩, g0, g1⟩).toArray) ∧ DRw w.heap.size w' (dvS t X Y [] [] de) ⟨⟨ZA, 1, Zc⟩, ⟨A0, 128, c0⟩, ⟨A1, 128, c1⟩, g0, g1⟩ zp2 ∧ ((128 ≤ c0 ∧ c0 ≤ 9223372036854775807) ∧ (128 ≤ c1 ∧ c1 ≤ 9223372036854775807)) ∧ Cells w' A0 ((rt0 t X Y).map (.int .u8)) ∧ Cells w' A1 ((rt1 t X Y).map (.int .u8)) ∧ Ext w w' := by
    intro x y f g de X Y hO hX hY e1 e2 w sd zp hM
    refine (devS_C_calls hO b0 b1 w sd zp hM).mono fun e w' h1 => ?_
    obtain ⟨s2, zp2, rfl, h2, h3⟩ := h1
    rw [e1, e2] at h2 ⊢
    obtain ⟨ZA, Zc, A0, c0, A1, c1, g0, g1, rfl, h4, h5, h6, h7⟩ := devS_open h2 hX.1 hY.1
    exact ⟨ZA, Zc, A0, c0, A1, c1, g0, g1, zp2, rfl, h2, ⟨h4, h5⟩, h6, h7, h3⟩
  have cn : ∀ (r : List Int) (b : Bool), crI [] r b = r := fun r b => crI_0 rfl
  match k, hk with
  | 0, _ => exact ⟨_, _, _, _, _, _, 3, kA 0 om_, by decide, go _ _ ⟨oa, oz, nil_ok, nil_ok, by decide⟩ oa oz (cn _ _) (cn _ _)⟩
  | 1, _ =>
    rcases hb' : (bif t then b0 else b1) with _ | _
    · exact ⟨_, _, _, _, _, _, 4, kA 1 om_, by decide, go _ _ ⟨oa, oz, nil_ok, full_ok ob, by decide⟩ oa oz (cn _ _) (by rw [hb']; exact crI_f)⟩
    · exact ⟨_, _, _, _, _, _, 4, kB 1 om_, by decide, go _ _ ⟨oa, oz, nil_ok, full_ok ob, by decide⟩ oa ob (cn _ _) (by rw [hb']; exact crI_t (by rw [ob.1]; decide))⟩
  | 2, _ => exact ⟨_, _, _, _, _, _, 5, kB 2 om_, by decide, go _ _ ⟨oa, ob, nil_ok, nil_ok, by decide⟩ oa ob (cn _ _) (cn _ _)⟩
  | 3, _ =>
    rcases hb' : (bif t then b1 else b0) with _ | _
    · exact ⟨_, _, _, _, _, _, 6, kB 3 om_, by decide, go _ _ ⟨oa, ob, full_ok oz, nil_ok, by decide⟩ oa ob (by rw [hb']; exact crI_f) (cn _ _)⟩
    · exact ⟨_, _, _, _, _, _, 6, kC 3 om_, by decide, go _ _ ⟨oa, ob, full_ok oz, nil_ok, by decide⟩ oz ob (by rw [hb']; exact crI_t (by rw [oz.1]; decide)) (cn _ _)⟩
  | 4, _ => exact ⟨_, _, _, _, _, _, 7, kC 4 om_, by decide, go _ _ ⟨oz, ob, nil_ok, nil_ok, by decide⟩ oz ob (cn _ _) (cn _ _)⟩
end Go.Proofs.Ytejdjpjaahfnaaa.K
