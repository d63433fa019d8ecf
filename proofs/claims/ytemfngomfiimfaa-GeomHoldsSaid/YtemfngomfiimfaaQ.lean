/- Openers for arguments of all kinds: what an argument that can be read is. Seat-free. -/
import Derived.Test.YtemfngomfiimfaaA
import Derived.Test.YtemfngomfiimfaaO
import Derived.ChangeArms
import Derived.Deep.Slices
set_option linter.unusedVariables false
set_option linter.unusedSimpArgs false
namespace Go.Proofs.Ytemfngomfiimfaa.K
open Go.RowKit Go.ChangeShapes Go.WideShapes Go.ChangeAt Go.ChangeMaps Go.Deep
class Opn (P : Program) (t : TypeId) (s : outParam Nat) (R : outParam (World → List Value → Prop)) : Prop where
  cells : P.cellsOf t = s
  out : ∀ {H : Type} {enc : TypeId × Value → H} {w : World} {base : Nat} {held : Bool} {fuel : Nat} {cs : List Value} {x : DataW H × List MemPlace}, DataW.trod enc P w base (fun _ => true) held fuel t cs = some x → R w cs
def RInt (k : IntKind) (_ : World) (cs : List Value) : Prop := ∃ m, cs = [.int k m] ∧ (Lit.int k m).wf = true
def RBool (_ : World) (cs : List Value) : Prop := ∃ b, cs = [.bool b]
def RArr (n s : Nat) (R : World → List Value → Prop) (w : World) (cs : List Value) : Prop := cs.length = n * s ∧ ∀ i, i < n → R w ((cs.drop (i * s)).take s)
def RFs : List (Nat × Nat × (World → List Value → Prop)) → World → List Value → Prop
  | [], _, _ => True
  | (o, s, R) :: r, w, cs => R w ((cs.drop o).take s) ∧ RFs r w cs
def RStr (s : Nat) (L : List (Nat × Nat × (World → List Value → Prop))) (w : World) (cs : List Value) : Prop := cs.length = s ∧ RFs L w cs
def RSl (s : Nat) (R : World → List Value → Prop) (w : World) (cs : List Value) : Prop :=
  ∃ A len cap zs, cs = [.slice A len cap] ∧ len ≤ cap ∧ cap ≤ 9223372036854775807 ∧ zs.length = len * s ∧ Cells w A zs ∧ ∀ i, i < len → R w ((zs.drop (i * s)).take s)
variable {P : Program}
theorem opn_int {t : TypeId} {k : IntKind} (hc : P.cellsOf t = 1) (ht : P.underlying t = some (.int k)) : Opn P t 1 (RInt k) :=
  ⟨hc, fun h => by obtain ⟨n, h1, _, h2⟩ := DataW.trod_int ht h; exact ⟨n, h1, h2⟩⟩
theorem opn_bool {t : TypeId} (hc : P.cellsOf t = 1) (ht : P.underlying t = some .bool) : Opn P t 1 RBool :=
  ⟨hc, fun h => by obtain ⟨b, h1, _⟩ := DataW.trod_bool ht h; exact ⟨b, h1⟩⟩
theorem opn_arr {t e n s se : Nat} {R : World → List Value → Prop} (hc : P.cellsOf t = s) (ht : P.underlying t = some (.array n e)) [he : Opn P e se R] (hs : s = n * se) : Opn P t s (RArr n se R) :=
  ⟨hc, fun h => by
    obtain ⟨xs, m, _, _, hl, hxl, hel⟩ := DataW.trod_array ht h
    rw [hc] at hl
    refine ⟨by omega, fun i hi => ?_⟩
    have h1 := hel i hi
    rw [he.cells, List.getElem?_eq_getElem (by omega)] at h1
    exact he.out h1⟩
inductive OpnL (P : Program) : List (Nat × TypeId) → List (Nat × Nat × (World → List Value → Prop)) → Prop
  | nil : OpnL P [] []
  | cons {o t s : Nat} {R : World → List Value → Prop} {l : List (Nat × TypeId)} {L : List (Nat × Nat × (World → List Value → Prop))} (h : Opn P t s R) : OpnL P l L → OpnL P ((o, t) :: l) ((o, s, R) :: L)
theorem opn_str {t s : Nat} {l : List (Nat × TypeId)} {L : List (Nat × Nat × (World → List Value → Prop))} (hc : P.cellsOf t = s) (ht : (match P.underlying t with | some (.struct fs) => some (fs.toList.map fun f => (f.offset, f.type)) | _ => none) = some l) (hL : OpnL P l L) : Opn P t s (RStr s L) :=
  ⟨hc, fun {H enc w base held fuel cs x} h => by
    cases hu : P.underlying t with
    | none => rw [hu] at ht; cases ht
    | some d =>
      rw [hu] at ht
      cases d with
      | struct fs =>
        simp only [Option.some.injEq] at ht
        obtain ⟨xs, m, _, _, hl, hxl, hel⟩ := DataW.trod_struct hu h
        rw [hc] at hl
        refine ⟨hl, ?_⟩
        have key : ∀ (q : List Field) (k : Nat) (l : List (Nat × TypeId)) (L : List (Nat × Nat × (World → List Value → Prop))), (∀ i, q[i]? = fs[k + i]?) → q.map (fun f => (f.offset, f.type)) = l → OpnL P l L → RFs L w cs := by
          intro q
          induction q with
          | nil =>
            intro k l L _ hm hL
            subst hm
            cases hL
            exact True.intro
          | cons f q ih =>
            intro k l L hq hm hL
            subst hm
            cases hL with
            | cons hO hL' =>
              refine ⟨?_, ih (k + 1) _ _ (fun i => by have := hq (i + 1); simpa [Nat.add_assoc, Nat.add_comm 1 i] using this) rfl hL'⟩
              have h1 : fs[k]? = some f := by simpa using (hq 0).symm
              have h2 := hel k f h1
              have hk : k < xs.length := by rw [hxl]; exact (Array.getElem?_eq_some_iff.1 h1).1
              rw [hO.cells, List.getElem?_eq_getElem hk] at h2
              exact hO.out h2
        exact key fs.toList 0 l L (by simp) ht hL
      | _ => cases ht⟩
theorem opn_sl {t e se : Nat} {R : World → List Value → Prop} (hc : P.cellsOf t = 1) (ht : P.underlying t = some (.slice e)) [he : Opn P e se R] : Opn P t 1 (RSl se R) :=
  ⟨hc, fun {H enc w base held fuel cs x} h => by
    rcases open_slice ht h with ⟨rfl, _⟩ | ⟨a, len, cap, m, n, D, Pl, rfl, hb, hl, hm, hmm, _, hel⟩
    · exact ⟨none, 0, 0, [], rfl, Nat.le_refl _, by decide, by simp, .inl rfl, fun i hi => absurd hi (by omega)⟩
    · have hmc : m = cap := by simpa using hmm
      subst hmc
      have hex : ∀ i, ∃ cs' : List Value, i < len → cs'.length = se ∧ (∀ j, j < se → w.cell? (a.add (i * se + j)) = cs'[j]?) ∧ R w cs' := by
        intro i
        by_cases hi : i < len
        · obtain ⟨cs', h1, h2⟩ := hel i (by omega)
          rw [he.cells] at h1
          obtain ⟨_, h4, h5⟩ := World.cells?_some h1
          refine ⟨cs', fun _ => ⟨h4, fun j hj => ?_, he.out h2⟩⟩
          rw [← h5 j hj, add_add]
        · exact ⟨[], fun h => absurd h hi⟩
      obtain ⟨f, hf⟩ := Classical.axiomOfChoice hex
      have hseg : ∀ k, k ≤ len → ((List.range k).flatMap f).length = k * se := by
        intro k
        induction k with
        | zero => intro _; simp
        | succ k ih =>
          intro hk
          rw [List.range_succ, List.flatMap_append, List.length_append, ih (by omega)]
          simp only [List.flatMap_cons, List.flatMap_nil, List.append_nil]
          rw [(hf k (by omega)).1, Nat.add_mul]; omega
      have hget : ∀ k, k ≤ len → ∀ i, i < k → (((List.range k).flatMap f).drop (i * se)).take se = f i := by
        intro k
        induction k with
        | zero => intro _ i hi; omega
        | succ k ih =>
          intro hk i hi
          rw [List.range_succ, List.flatMap_append]
          simp only [List.flatMap_cons, List.flatMap_nil, List.append_nil]
          have hlk := hseg k (by omega)
          rcases Nat.lt_or_ge i k with h1 | h1
          · have h2 : i * se + se ≤ k * se := by rw [← Nat.succ_mul]; exact Nat.mul_le_mul_right _ h1
            rw [List.drop_append_of_le_length (by omega), List.take_append_of_le_length (by rw [List.length_drop]; omega)]
            exact ih (by omega) i h1
          · have : i = k := by omega
            subst this
            rw [List.drop_append, List.drop_of_length_le (by omega), hlk, Nat.sub_self, List.drop_zero, List.nil_append]
            exact List.take_of_length_le (by rw [(hf i (by omega)).1]; exact Nat.le_refl _)
      refine ⟨some a, len, m, (List.range len).flatMap f, rfl, hl, by unfold maxLen at hm; omega, hseg len (Nat.le_refl _), .inr ⟨a, rfl, fun j v hv => ?_⟩, fun i hi => by rw [hget len (Nat.le_refl _) i hi]; exact (hf i hi).2.2⟩
      have hlen := hseg len (Nat.le_refl _)
      have hj : j < len * se := by
        rcases Nat.lt_or_ge j (len * se) with h1 | h1
        · exact h1
        · rw [List.getElem?_eq_none (by omega)] at hv; cases hv
      have hse : 0 < se := by rcases Nat.eq_zero_or_pos se with e | e; (subst e; omega); exact e
      have hi : j / se < len := Nat.div_lt_of_lt_mul (by rw [Nat.mul_comm]; exact hj)
      have h1 := (hf _ hi).2.1 (j % se) (Nat.mod_lt _ hse)
      rw [show j / se * se + j % se = j by rw [Nat.mul_comm]; exact Nat.div_add_mod j se] at h1
      rw [h1, ← hget len (Nat.le_refl _) _ hi, List.getElem?_take, if_pos (Nat.mod_lt _ hse), List.getElem?_drop, show j / se * se + j % se = j by rw [Nat.mul_comm]; exact Nat.div_add_mod j se, hv]⟩

/-! ### what these are in plain words -/
theorem rarr_ints {n : Nat} {k : IntKind} {w : World} {cs : List Value} (h : RArr n 1 (RInt k) w cs) : ∃ xs : List Int, cs = xs.map (.int k) ∧ xs.length = n ∧ ∀ x ∈ xs, (Lit.int k x).wf = true := by
  obtain ⟨hl, h⟩ := h
  have : ∀ (n : Nat) (cs : List Value), cs.length = n → (∀ i, i < n → RInt k w ((cs.drop i).take 1)) → ∃ xs : List Int, cs = xs.map (.int k) ∧ xs.length = n ∧ ∀ x ∈ xs, (Lit.int k x).wf = true := by
    intro n
    induction n with
    | zero => intro cs hl _; exact ⟨[], by simpa using hl, rfl, fun x hx => by cases hx⟩
    | succ n ih =>
      intro cs hl h
      cases cs with
      | nil => simp at hl
      | cons c r =>
        obtain ⟨xs, e1, e2, e3⟩ := ih r (by simpa using hl) (fun i hi => by have := h (i + 1) (by omega); simpa using this)
        obtain ⟨m, hm, hw⟩ := h 0 (by omega)
        simp at hm
        exact ⟨m :: xs, by simp [hm, e1], by simp [e2], fun x hx => by
          rcases List.mem_cons.1 hx with rfl | hx
          · exact hw
          · exact e3 x hx⟩
  exact this n cs (by omega) (fun i hi => by have := h i hi; rwa [Nat.mul_one] at this)
theorem rarr_bools {n : Nat} {w : World} {cs : List Value} (h : RArr n 1 RBool w cs) : ∃ xs : List Bool, cs = xs.map .bool ∧ xs.length = n := by
  obtain ⟨hl, h⟩ := h
  have : ∀ (n : Nat) (cs : List Value), cs.length = n → (∀ i, i < n → RBool w ((cs.drop i).take 1)) → ∃ xs : List Bool, cs = xs.map .bool ∧ xs.length = n := by
    intro n
    induction n with
    | zero => intro cs hl _; exact ⟨[], by simpa using hl, rfl⟩
    | succ n ih =>
      intro cs hl h
      cases cs with
      | nil => simp at hl
      | cons c r =>
        obtain ⟨xs, e1, e2⟩ := ih r (by simpa using hl) (fun i hi => by have := h (i + 1) (by omega); simpa using this)
        obtain ⟨m, hm⟩ := h 0 (by omega)
        simp at hm
        exact ⟨m :: xs, by simp [hm, e1], by simp [e2]⟩
  exact this n cs (by omega) (fun i hi => by have := h i hi; rwa [Nat.mul_one] at this)
/-- Rows of parts, each of a kind. -/
theorem rarr_cat {α : Type} {n s : Nat} {R : World → List Value → Prop} {f : α → List Value} {w : World} {cs : List Value} (hR : ∀ cs, R w cs → ∃ a, cs = f a) (h : RArr n s R w cs) : ∃ xs : List α, cs = catC f xs ∧ xs.length = n := by
  obtain ⟨hl, h⟩ := h
  have : ∀ (n : Nat) (cs : List Value), cs.length = n * s → (∀ i, i < n → R w ((cs.drop (i * s)).take s)) → ∃ xs : List α, cs = catC f xs ∧ xs.length = n := by
    intro n
    induction n with
    | zero => intro cs hl _; exact ⟨[], by simpa [catC] using hl, rfl⟩
    | succ n ih =>
      intro cs hl h
      obtain ⟨a, ha⟩ := hR _ (h 0 (by omega))
      obtain ⟨xs, e1, e2⟩ := ih (cs.drop s) (by rw [List.length_drop, hl, Nat.add_mul]; omega) (fun i hi => by
        have := h (i + 1) (by omega)
        rw [List.drop_drop]
        rwa [Nat.add_mul, Nat.one_mul, Nat.add_comm] at this)
      refine ⟨a :: xs, ?_, by simp [e2]⟩
      rw [catC_cons, ← e1, ← ha, Nat.zero_mul, List.drop_zero, List.take_append_drop]
  exact this n cs hl h
theorem okWide_arrS {t n e s : Nat} {r : Reach} {b0 : Nat} {w : World} {v : Value} (ht : P.underlying t = some (.array n e)) (hc : P.cellsOf t = s) (h : Value.okWide P w r b0 t v) : ∃ cs : List Value, v = .agg cs.toArray ∧ cs.length = s := by
  unfold Value.okWide at h
  rw [ht] at h
  obtain ⟨cs, rfl, h2, _⟩ := h
  exact ⟨cs.toList, by simp, by simpa [hc] using h2⟩
theorem okWide_strS {t s : Nat} {r : Reach} {b0 : Nat} {w : World} {v : Value} (ht : (match P.underlying t with | some (.struct _) => true | _ => false) = true) (hc : P.cellsOf t = s) (h : Value.okWide P w r b0 t v) : ∃ cs : List Value, v = .agg cs.toArray ∧ cs.length = s := by
  unfold Value.okWide at h
  cases hu : P.underlying t with
  | none => rw [hu] at ht; cases ht
  | some d =>
    rw [hu] at ht h
    cases d with
    | struct fs =>
      obtain ⟨cs, rfl, h2, _⟩ := h
      exact ⟨cs.toList, by simp, by simpa [hc] using h2⟩
    | _ => cases ht
theorem opened_agg {H : Type} {enc : TypeId × Value → H} {w : World} {base : Nat} {held : Bool} {t s : TypeId} {R : World → List Value → Prop} [ho : Opn P t s R] {cs : List Value} {d : DataW H} {p : List MemPlace} (h : DataW.Trod enc P w base (fun _ => true) held t (.agg cs.toArray) d p) : R w cs := by
  obtain ⟨fuel, hf⟩ := h
  have := ho.out hf
  simpa [Value.cells] using this
theorem opened_one {H : Type} {enc : TypeId × Value → H} {w : World} {base : Nat} {held : Bool} {t s : TypeId} {R : World → List Value → Prop} [ho : Opn P t s R] {A : Option Addr} {m c : Nat} {d : DataW H} {p : List MemPlace} (h : DataW.Trod enc P w base (fun _ => true) held t (.slice A m c) d p) : R w [.slice A m c] := by
  obtain ⟨fuel, hf⟩ := h
  have := ho.out hf
  simpa [Value.cells] using this
theorem u8_lt {x : Int} (h : (Lit.int .u8 x).wf = true) : 0 ≤ x ∧ x < 256 := by
  simp [Lit.wf, IntKind.min, IntKind.max, IntKind.signed, IntKind.bits] at h
  omega
end Go.Proofs.Ytemfngomfiimfaa.K
