/- Chapter 14 (slot): slices of structs: literals, appends; commands in memory. Seat-free. -/
import Derived.Test.YtemfngomfiimfaaW
set_option linter.unusedVariables false
set_option linter.unusedSimpArgs false
namespace Go.Proofs.Ytemfngomfiimfaa.K
open Go.RowKit
theorem flat_length {s : Nat} : ∀ {vs : List (List Value)}, (∀ v ∈ vs, v.length = s) → vs.flatten.length = vs.length * s
  | [], _ => by simp
  | v :: r, h => by rw [List.flatten_cons, List.length_append, h v (by simp), flat_length (fun u hu => h u (by simp [hu])), List.length_cons, Nat.add_mul]; omega
theorem WL_isLit {P : Program} {ops : Array Oper} {Q : Exit → Act → World → Prop} {n : Nat} {E : Env} {w : World} {l : List Oper} {d : Nat} {ty : TypeId} {pos : String} {aft : Array Edge} {g : Option (Nat × Bool)} {t : TypeId} {m : Nat} {parts : Array (Nat × Operand)}
    (h : WL P ops Q (⟨some d, .buildSlice t m parts, ty, pos, aft, g⟩ :: l) n E w) : WL P ops Q (⟨some d, .buildSlice t m parts, ty, pos, aft, g⟩ :: l) n E w := h
theorem WL_isMake {P : Program} {ops : Array Oper} {Q : Exit → Act → World → Prop} {n : Nat} {E : Env} {w : World} {l : List Oper} {d : Nat} {ty : TypeId} {pos : String} {aft : Array Edge} {g : Option (Nat × Bool)} {t : TypeId} {x y : Operand}
    (h : WL P ops Q (⟨some d, .makeSlice t x y, ty, pos, aft, g⟩ :: l) n E w) : WL P ops Q (⟨some d, .makeSlice t x y, ty, pos, aft, g⟩ :: l) n E w := h
/-- The parts of a literal, one behind the other, each a struct. -/
def litA (E : Env) (s : Nat) : Nat → List (Nat × Operand) → Option (List (List Value))
  | _, [] => some []
  | k, (i, x) :: r => bif Nat.beq i k then (match evE E x, litA E s (k + 1) r with
    | some v, some l => bif Nat.beq v.cells.toList.length s then some (v.cells.toList :: l) else none
    | _, _ => none) else none
theorem litA_fill {E : Env} {s : Nat} : ∀ {parts : List (Nat × Operand)} {k : Nat} {vs : List (List Value)}, litA E s k parts = some vs → ∃ ps, evP E parts = some ps ∧ vs.length = parts.length ∧ (∀ v ∈ vs, v.length = s) ∧ ∀ pre rest : List Value, pre.length = k * s → rest.length = parts.length * s → fillL s (pre ++ rest) ps = some (pre ++ vs.flatten) := by
  intro parts
  induction parts with
  | nil =>
    intro k vs h
    simp [litA] at h; subst h
    exact ⟨[], rfl, rfl, fun v hv => by simp at hv, fun pre rest _ hr => by simp at hr; subst hr; simp [fillL]⟩
  | cons p r ih =>
    intro k vs h
    obtain ⟨i, x⟩ := p
    unfold litA at h
    cases hb : Nat.beq i k with
    | false => rw [hb] at h; cases h
    | true =>
      rw [hb] at h
      simp only [cond_true] at h
      have := Nat.eq_of_beq_eq_true hb
      subst this
      split at h
      · rename_i v l h1 h2
        cases hp : Nat.beq v.cells.toList.length s with
        | false => rw [hp] at h; cases h
        | true =>
          rw [hp] at h
          simp only [cond_true, Option.some.injEq] at h
          subst h
          have hl := Nat.eq_of_beq_eq_true hp
          obtain ⟨ps, hps, hlen, hall, hf⟩ := ih h2
          refine ⟨(i, v) :: ps, by simp [evP, h1, hps], by simp [hlen], ?_, fun pre rest hpre hr => ?_⟩
          · intro u hu
            rcases List.mem_cons.1 hu with rfl | hu
            · exact hl
            · exact hall u hu
          · have e2 : (rest.take s).length = s := by rw [List.length_take, hr, List.length_cons, Nat.add_mul]; omega
            have h3 := hf (pre ++ v.cells.toList) (rest.drop s) (by rw [List.length_append, hpre, hl, Nat.add_mul]; omega) (by rw [List.length_drop, hr, List.length_cons, Nat.add_mul]; omega)
            have hsz : v.cells.size = s := by rw [← Array.length_toList]; exact hl
            unfold fillL
            have hc : ¬ (v.cells.size ≠ s ∨ i * s + s > (pre ++ rest).length) := by
              rw [hsz, List.length_append, hpre, hr, List.length_cons, Nat.add_mul]; omega
            rw [if_neg hc]
            have e : (pre ++ rest).take (i * s) ++ v.cells.toList ++ (pre ++ rest).drop (i * s + s) = (pre ++ v.cells.toList) ++ rest.drop s := by
              rw [List.take_left' hpre, ← hpre, List.drop_append]
              simp
            rw [e, h3]
            simp
      · cases h
section
variable {P : Program} {ops : Array Oper} {Q : Exit → Act → World → Prop} {n : Nat} {E : Env} {w : World} {l : List Oper}
variable {dd : Option Tmp} {d : Nat} {ty : TypeId} {pos : String} {aft : Array Edge} {g : Option (Nat × Bool)}
/-- A literal of structs. -/
theorem WL_litA {t e s b m : Nat} [hT : TSlice P t e s b] {zs : List Value} [hz : TZero P e (.agg zs.toArray)] {parts : Array (Nat × Operand)} {vs : List (List Value)} {cs : List Value} (hdn : Nat.ble (d + 1) n = true) (hw : wants ops E g = some true) (hp : litA E s 0 parts.toList = some vs) (hc : vs.flatten = cs) (hm : Nat.beq parts.toList.length m = true) (hs : Nat.blt 0 s = true) (hm0 : Nat.blt 0 m = true) (hm1 : Nat.ble (m * s) 16777216 = true)
    (h : ∀ b' w', w.heap.size ≤ b' → b' < w'.heap.size → Ext w w' → Blk w' b' cs e → w'.ownsRow w.heap.size e s (.slice (some ⟨b', 0, none⟩) m m) m cs → Cells w' (some ⟨b', 0, none⟩) cs → WL P ops Q l n ((d, .slice (some ⟨b', 0, none⟩) m m) :: E) w') :
    WL P ops Q (⟨some d, .buildSlice t m parts, ty, pos, aft, g⟩ :: l) n E w := by
  obtain ⟨ps, hps, hlen, hall, hf⟩ := litA_fill hp
  have hm' := Nat.eq_of_beq_eq_true hm
  have h9 : 1 ≤ m := by simpa [Nat.blt] using hm0
  have h8 : 1 ≤ s := by simpa [Nat.blt] using hs
  have h1 : m * s ≤ 16777216 := Nat.le_of_ble_eq_true hm1
  have hcl : cs.length = m * s := by
    rw [← hc, ← hm', ← hlen]; exact flat_length hall
  have hf' := hf [] (((Array.range (m * s)).map ((Value.agg zs.toArray).cells[· % (Value.agg zs.toArray).cells.size]!)).toList) (by simp) (by simp [hm'])
  simp only [List.nil_append, hc] at hf'
  refine WL_lit (cs := cs) hdn hw hps hf' hcl h1 (Nat.mul_pos h9 h8) (fun b' w' k1 k2 k3 k4 k5 => h b' w' k1 k2 k3 k4 k5 k4.cells0)
theorem WL_buildA2 {T len e s : Nat} [hA : TArr P T len e s] {z : List Value} [hz : TZc P T z] {parts : Array (Nat × Operand)} {ps : List (Nat × Value)} {cs : List Value} (hdn : Nat.ble (d + 1) n = true) (hw : wants ops E g = some true) (hp : evP E parts.toList = some ps) (hf : fillL s z ps = some cs)
    (h : WL P ops Q l n ((d, .agg cs.toArray) :: E) w) : WL P ops Q (⟨some d, .build T parts, ty, pos, aft, g⟩ :: l) n E w := WL_buildA hdn hw hf hp h
/-- append(v, x...) of structs, v a row of the call's own, known at an elder world. -/
theorem WL_appS {t e s b : Nat} [hT : TSlice P t e s b] {zs : List Value} [hz : TZero P e (.agg zs.toArray)] {x y : Operand} {wk : World} {base : Nat} {v : Value} {m : Nat} {xs ns : List Value} {A : Option Addr} {k c : Nat}
    (hdn : Nat.ble (d + 1) n = true) (hw : wants ops E g = some true) (hx : evE E x = some v) (hy : evE E y = some (.slice A k c)) (hzs : Nat.beq zs.length s = true) (hs : Nat.blt 0 s = true) (hown : wk.ownsRow base e s v m xs) (hk : KeepO base wk.heap.size 0 0 wk w) (hbase : base ≤ w.heap.size)
    (hc : Cells w A ns) (hl : ns.length = k * s) (h1 : ∀ u ∈ ns, u.oneCell' = true) (h63 : m + k ≤ 4611686018427387904) (hbytes : (m + k) * b ≤ 140737488355328)
    (h : ∀ A' c' w', ExtR base wk.heap.size 0 0 w w' → w.heap.size ≤ w'.heap.size → w'.ownsRow base e s (.slice A' (m + k) c') (m + k) (xs ++ ns) → Cells w' A' (xs ++ ns) → OwnGap (.slice A' (m + k) c') wk.heap.size w.heap.size → WL P ops Q l n ((d, .slice A' (m + k) c') :: E) w') :
    WL P ops Q (⟨some d, .call { callee := .builtin .append, args := #[x, y], argTypes := #[t, t] }, ty, pos, aft, g⟩ :: l) n E w := by
  have hlt := fun g hg => own_lt hown g hg
  refine WL_append hdn hw hx hy (by show zs.toArray.size = s; rw [List.size_toArray]; exact Nat.eq_of_beq_eq_true hzs) (Nat.le_of_ble_eq_true hs) (hk _ _ _ _ _ _ hown (fun g hg => .inl (hlt g hg))) hbase hl hc h1 h63 hbytes (fun v' w' ho hg hgap => ?_)
  obtain ⟨A', c', rfl, _, _⟩ := own_cells ho
  exact h A' c' w' ⟨_, fun x hx => .inl ⟨(hlt x hx).1, (hlt x hx).2⟩, hg⟩ hg.size ho (own_rd ho) (fun x hx => by
    rcases hgap with hgap | ⟨b', hb', hle⟩
    · rw [hgap] at hx; exact .inl (hlt x hx).2
    · rw [hb'] at hx; cases hx; exact .inr hle)
end
section
variable {P : Program} {Q : Exit → Act → World → Prop} {n : Nat} {E : Env} {w : World}
/-- Results: one out of memory, two as they are. -/
theorem WQ_bodyCTT {fn : Func} {R : Ending → World → Prop} {t u u2 : Tmp} {T : TypeId} {s : Nat} [TAgg P T] [TSize P T s] {b : Nat} {cs : List Value} {T' : TypeId} {v' v2 : Value} {e : Exit} (he : e = .ret ∨ e = .normal) (hr : fn.results = #[.cell t T, .tmp u, .tmp u2]) (hv : lk E t = some (.pointer (some ⟨b, 0, none⟩))) (hv' : lk E u = some v') (hv2 : lk E u2 = some v2)
    (hb : Blk w b cs T') (hl : cs.length = s) (h : R (.returned (.tuple #[.agg cs.toArray, v', v2])) w) : WQ (bodyPost P fn R) e n E w := by
  intro a ha
  have h' : a.defers = [] ∧ ∃ v, (results fn a.tmps).run P w = .ok v w ∧ R (.returned v) w := by
    refine ⟨ha.2.1, _, ?_, h⟩
    have k1 := ha.2.2 t _ hv
    have k2 := ha.2.2 u _ hv'
    have k3 := ha.2.2 u2 _ hv2
    rw [Array.getD_eq_getD_getElem?] at k1 k2 k3
    simp only [results, hr]
    simp [Sem.run_bind, Result.andThen, k1, k2, k3, asAddr, run_loadVar_agg (P := P) (T := T) hl hb]
  rcases he with rfl | rfl <;> exact h'
end
end Go.Proofs.Ytemfngomfiimfaa.K
