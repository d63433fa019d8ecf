/- Chapter 16 (log): bytes are appended, on a device that goes on, and has an empty zone. Seat-free. -/
import Derived.Test.YtemfngomfiimfaaL3
set_option linter.unusedVariables false
set_option linter.unusedSimpArgs false
set_option maxHeartbeats 4000000
set_option maxRecDepth 20000
namespace Go.Proofs.Ytemfngomfiimfaa.K
open Go.RowKit
attribute [local irreducible] strEq strOfNums Calls WL WC WQ WX Code.wp wpList bodyPost
theorem opT_set (zs : List Zo) (j : Nat) (y z : Zo) (hj : zs[j]? = some y) : ∀ i, (i ≤ j → opT (zs.set j z) i = opT zs i) ∧ (j < i → opT (zs.set j z) i + (if y.s = 1 then 1 else 0) = opT zs i + (if z.s = 1 then 1 else 0))
  | 0 => ⟨fun _ => rfl, fun h => absurd h om_⟩
  | i + 1 => by
    obtain ⟨h1, h2⟩ := opT_set zs j y z hj i
    have hjl : j < zs.length := (List.getElem?_eq_some_iff.1 hj).1
    rw [opT_step, opT_step]
    refine ⟨fun h => ?_, fun h => ?_⟩
    · rw [h1 om_, List.getElem?_set_ne om_]
    · rcases Nat.lt_or_ge j i with h3 | h3
      · have := h2 h3
        rw [List.getElem?_set_ne om_]
        omega
      · obtain rfl : i = j := by omega
        rw [h1 (Nat.le_refl _), List.getElem?_set_self hjl, hj]
        simp only [Option.map_some, Option.some.injEq]
        omega
theorem opD_put {d : Dv} {j : Nat} {y : Zo} (z : Zo) (hj : d.zs[j]? = some y) : opD (putZ d j z) + (if y.s = 1 then 1 else 0) = opD d + (if z.s = 1 then 1 else 0) := by
  have h := (opT_set d.zs j y z hj d.zs.length).2 (List.getElem?_eq_some_iff.1 hj).1
  have e : opD (putZ d j z) = opT (d.zs.set j z) (d.zs.set j z).length := rfl
  rw [e, List.length_set]
  exact h
theorem mem_put {d : Dv} {j : Nat} {z x : Zo} (h : x ∈ (putZ d j z).zs) : x ∈ d.zs ∨ x = z := List.mem_or_eq_of_mem_set h
theorem DvW.put {d : Dv} (h : DvW d) {j : Nat} {z : Zo} (hz : Zst z) : DvW (putZ d j z) :=
  ⟨fun x hx => (mem_put hx).elim (h.zw x) (fun e => e ▸ hz), h.r0, h.r1, h.f0, h.f1, by have := h.zl; show (d.zs.set j z).length ≤ _; rw [List.length_set]; exact this, h.sb, h.lb, h.fb, h.db⟩
theorem OkD.put {d : Dv} (h : OkD d) {j : Nat} {z : Zo} (hz : OkZ z d.sz) : OkD (putZ d j z) :=
  ⟨fun x hx => (mem_put hx).elim (h.1 x) (fun e => e ▸ hz), h.2.1, h.2.2.1, by have := h.2.2.2.1; show 0 < (d.zs.set j z).length ∧ (d.zs.set j z).length ≤ 64; rw [List.length_set]; exact this, h.2.2.2.2⟩
theorem Go1.step {d : Dv} (h : Go1 d) (hd : d.de ≤ 999999) {j : Nat} {z : Zo} (hz : OkZ z d.sz) : Go1 (putZ (inc d) j z) :=
  ⟨OkD.put (d := inc d) h.1 hz, h.2.1, h.2.2.1, h.2.2.2.1, by have := h.2.2.2.2; show 0 ≤ d.de + 1 ∧ d.de + 1 ≤ _; omega⟩
theorem fi_ok {y : Zo} {n : Int} (h : OkZ y n) (hs : y.s = 1) : fiE y = 0 ∧ fiZ y = ⟨2, y.d, y.l⟩ ∧ OkZ (fiZ y) n := by
  have e : fiE y = 0 := if_pos (.inr hs)
  have e2 : fiZ y = ⟨2, y.d, y.l⟩ := if_pos e
  refine ⟨e, e2, ?_⟩
  rw [e2]
  unfold OkZ at *
  dsimp only
  omega
theorem ap_ok {z : Zo} {st n : Int} {bs : List Int} (h : OkZ z n) (hs : st = 0 ∨ st = 1) (hf : Fits z st bs.length n) (hb : 1 ≤ bs.length) : appE z n bs.length = 0 ∧ appZ z n bs = ⟨stZ (z.d.length + bs.length) n, z.d ++ bs, z.l⟩ ∧ OkZ (appZ z n bs) n := by
  obtain ⟨f1, f2⟩ := hf
  have e : appE z n bs.length = 0 := by
    unfold appE
    rw [if_neg (fun k => k.elim (fun k => k h) om_), if_neg om_]
  have e2 : appZ z n bs = ⟨stZ (z.d.length + bs.length) n, z.d ++ bs, z.l⟩ := if_pos e
  refine ⟨e, e2, ?_⟩
  rw [e2]
  unfold OkZ stZ at *
  dsimp only
  rw [List.length_append]
  rw [if_neg om_]
  split <;> omega
/-- A device behind an append. -/
def AppD (d : Dv) (bs : List Int) (d2 : Dv) : Prop :=
  (∃ (i : Nat) (z : Zo), d.zs[i]? = some z ∧ Fits z 1 bs.length d.sz ∧ d2 = putZ (inc d) i (appZ z d.sz bs)) ∨
  (∃ (i : Nat) (z : Zo), d.zs[i]? = some z ∧ Fits z 0 bs.length d.sz ∧ (∀ z ∈ d.zs, ¬ Fits z 1 bs.length d.sz) ∧ opD d < 4 ∧ d2 = putZ (inc d) i (appZ z d.sz bs)) ∨
  (∃ (i : Nat) (z : Zo) (j : Nat) (y : Zo), d.zs[i]? = some z ∧ Fits z 0 bs.length d.sz ∧ (∀ z ∈ d.zs, ¬ Fits z 1 bs.length d.sz) ∧ d.zs[j]? = some y ∧ y.s = 1 ∧ d2 = putZ (inc (putZ (inc d) j (fiZ y))) i (appZ z d.sz bs))
/-- The commands of an append, each by itself. -/
theorem append_rounds {d : Dv} {b : Sl} {bs : List Int} {w : World} {i m : Nat} {z : Zo} {cs : List Value} (hW : DvW d) (hG : Go1 d) (hb : SlB w b bs) (hn : 1 ≤ bs.length) (hbs : bs.length ≤ 1000000) (hde : d.de ≤ 999990) (hop : opD d ≤ 4) (hp : Placed d bs.length i z m cs) :
    m ≤ 1 ∧ cs.length = m * 3 ∧ (∀ u ∈ cs, u.oneCell' = true) ∧ ∃ ds : Nat → Dv, ds 0 = d ∧ AppD d bs (ds (m + 1)) ∧ ∀ k, k < m + 1 → ∃ (ck cn : Int) (cb : Sl), (∀ (t : Nat) (v : Value), (cmV ck cn cb)[t]? = some v → (cs ++ cmV 1 i b)[(k : Int).toNat * 3 + t]? = some v) ∧
      ∀ w1 sd zd, Ext w w1 → DM w1 (ds k) sd zd → Calls Try.prog 15 #[.agg (dvC (ds k) sd).toArray, .agg (cmV ck cn cb).toArray] w1 fun e w' => ∃ s2 z2, e = .returned (.tuple #[.agg (dvC (ds (k + 1)) s2).toArray, .int .i64 0]) ∧ DRw w1.heap.size w' (ds (k + 1)) s2 z2 ∧ Ext w1 w' := by
  obtain ⟨hz, hc⟩ := hp
  have hzO := hG.1.1 z (List.mem_of_getElem? hz)
  have one : ∀ (st : Int) (h : st = 0 ∨ st = 1) (hf : Fits z st bs.length d.sz) (h4 : z.s = 0 → opD d < 4), ∀ k : Nat, k < 0 + 1 → ∃ (ck cn : Int) (cb : Sl), (∀ (t : Nat) (v : Value), (cmV ck cn cb)[t]? = some v → ([] ++ cmV 1 i b)[(k : Int).toNat * 3 + t]? = some v) ∧
      ∀ w1 sd zd, Ext w w1 → DM w1 ((fun k => if k = 0 then d else putZ (inc d) i (appZ z d.sz bs)) k) sd zd → Calls Try.prog 15 #[.agg (dvC ((fun k => if k = 0 then d else putZ (inc d) i (appZ z d.sz bs)) k) sd).toArray, .agg (cmV ck cn cb).toArray] w1 fun e w' => ∃ s2 z2, e = .returned (.tuple #[.agg (dvC ((fun k => if k = 0 then d else putZ (inc d) i (appZ z d.sz bs)) (k + 1)) s2).toArray, .int .i64 0]) ∧ DRw w1.heap.size w' ((fun k => if k = 0 then d else putZ (inc d) i (appZ z d.sz bs)) (k + 1)) s2 z2 ∧ Ext w1 w' := by
    intro st h hf h4 k hk
    obtain rfl : k = 0 := by omega
    obtain ⟨e1, e2, e3⟩ := ap_ok hzO h hf hn
    exact ⟨1, i, b, fun t v h => by simpa using h, fun w1 sd zd hx hM => dev_DoA_calls i b bs w1 d sd zd z hW hG hM (hb.ext hx) hbs hz e1 h4⟩
  rcases hc with ⟨rfl, rfl, hf⟩ | ⟨rfl, rfl, hf, hno, h4⟩ | ⟨rfl, hf, hno, j, y, hy, hy1, rfl⟩
  · exact ⟨by omega, rfl, fun u hu => absurd hu (by simp), fun k => if k = 0 then d else putZ (inc d) i (appZ z d.sz bs), rfl, .inl ⟨i, z, hz, hf, rfl⟩, one 1 (.inr rfl) hf (fun h => by have := hf.1; omega)⟩
  · exact ⟨by omega, rfl, fun u hu => absurd hu (by simp), fun k => if k = 0 then d else putZ (inc d) i (appZ z d.sz bs), rfl, .inr (.inl ⟨i, z, hz, hf, hno, h4, rfl⟩), one 0 (.inl rfl) hf (fun _ => h4)⟩
  · have hyO := hG.1.1 y (List.mem_of_getElem? hy)
    have hyW := hW.zw y (List.mem_of_getElem? hy)
    obtain ⟨f1, f2, f3⟩ := fi_ok hyO hy1
    obtain ⟨e1, e2, e3⟩ := ap_ok hzO (.inl rfl) hf hn
    have hne : j ≠ i := by
      rintro rfl
      rw [hy] at hz
      cases hz
      have := hf.1
      omega
    have hfW : Zst (fiZ y) := by rw [f2]; exact ⟨hyW.bytes, hyW.small, by dsimp only; omega, hyW.lb⟩
    have hW1 : DvW (putZ (inc d) j (fiZ y)) := (hW.inc hG.2.2.2.2).put hfW
    have hG1 : Go1 (putZ (inc d) j (fiZ y)) := hG.step om_ f3
    have hz1 : (putZ (inc d) j (fiZ y)).zs[i]? = some z := by
      show (d.zs.set j (fiZ y))[i]? = some z
      rw [List.getElem?_set_ne hne]; exact hz
    have ho1 : opD (putZ (inc d) j (fiZ y)) < 4 := by
      have h := opD_put (d := inc d) (fiZ y) hy
      rw [if_pos hy1, if_neg (by rw [f2]; dsimp only; omega)] at h
      have e : opD (inc d) = opD d := rfl
      omega
    refine ⟨by omega, rfl, fun u hu => ?_, fun k => if k = 0 then d else if k = 1 then putZ (inc d) j (fiZ y) else putZ (inc (putZ (inc d) j (fiZ y))) i (appZ z d.sz bs), rfl, .inr (.inr ⟨i, z, j, y, hz, hf, hno, hy, hy1, rfl⟩), fun k hk => ?_⟩
    · simp only [List.mem_cons, List.not_mem_nil, or_false] at hu
      rcases hu with rfl | rfl | rfl <;> rfl
    · rcases (show k = 0 ∨ k = 1 by omega) with rfl | rfl
      · refine ⟨3, j, ⟨none, 0, 0⟩, fun t v h => ?_, fun w1 sd zd hx hM => dev_DoN_calls j ⟨none, 0, 0⟩ w1 d sd zd y hW hG hM hy f1⟩
        have ht : t < 3 := (List.getElem?_eq_some_iff.1 h).1
        rw [show ((0 : Nat) : Int).toNat * 3 + t = t by simp, List.getElem?_append_left ht]
        exact h
      · refine ⟨1, i, b, fun t v h => ?_, fun w1 sd zd hx hM => dev_DoA_calls i b bs w1 (putZ (inc d) j (fiZ y)) sd zd z hW1 hG1 hM (hb.ext hx) hbs hz1 e1 (fun _ => ho1)⟩
        rw [show ((1 : Nat) : Int).toNat * 3 + t = 3 + t by simp, List.getElem?_append_right (by simp)]
        simpa using h
end Go.Proofs.Ytemfngomfiimfaa.K
