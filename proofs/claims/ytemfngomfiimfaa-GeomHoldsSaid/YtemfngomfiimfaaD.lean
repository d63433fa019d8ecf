/- A region that draws its order: each operation is proved by itself, out of what its own forerunners left; whatever order is drawn. Seat-free. -/
import Derived.Test.YtemfngomfiimfaaM
import Derived.Orders
set_option linter.unusedVariables false
set_option linter.unusedSimpArgs false
namespace Go.Proofs.Ytemfngomfiimfaa.K
open Go.RowKit

/-- Does operation j wait for operation i? -/
def waitsB (ops : Array Oper) (j i : Nat) : Bool := match ops[j]? with
  | some o => o.after.any (fun e => Nat.beq e.on i && Region.binds .any e)
  | none => false
/-- What operation i may read in slot t: a forerunner's value (x j, where none is told); or what was there, if whoever writes it waits for i. -/
def lkR (ops : Array Oper) (E0 : Env) (vals : List (Option Value)) (x : Nat → Value) (i t : Nat) : List Nat → Option Value
  | [] => lk E0 t
  | j :: r => match (ops[j]?).bind (·.dst) with
    | some d => bif Nat.beq d t then (bif waitsB ops i j then some (((vals[j]?).join).getD (x j)) else bif waitsB ops j i || Nat.beq i j then lk E0 t else none) else lkR ops E0 vals x i t r
    | none => lkR ops E0 vals x i t r
def AllV (f : Nat → Option Value) : Env → Prop
  | [] => True
  | (t, v) :: r => f t = some v ∧ AllV f r
/-- The marks that must stand: each writes a slot of its own, waits for elder ones alone, and by edges that bind. -/
def drawOk (n : Nat) (ops : Array Oper) : Bool :=
  (List.range ops.size).all fun i => match ops[i]? with
    | some o => (match o.dst with | some d => Nat.ble (d + 1) n | none => true) && o.after.all (fun e => !Region.binds .any e || Nat.blt e.on i) && (List.range i).all (fun j => match (ops[j]?).bind (·.dst), o.dst with | some d, some d' => !Nat.beq d d' | _, _ => true)
    | none => false

section
variable {P : Program} {ops : Array Oper} {Q : Exit → Act → World → Prop} {n : Nat}

/-- What operation i leaves: its value, if that is told, and what is told besides. -/
def Left_ (vals : List (Option Value)) (Ψ : Nat → Value → World → Prop) (i : Nat) (x : Value) (w : World) : Prop := (∀ v, vals[i]? = some (some v) → x = v) ∧ Ψ i x w

/-- One operation's own duty. -/
def Duty (P : Program) (ops : Array Oper) (Q : Exit → Act → World → Prop) (n : Nat) (E0 : Env) (w0 : World) (R : World → World → Prop) (Pre : Nat → World → Prop) (Rel : Nat → World → World → Prop) (vals : List (Option Value)) (Ψ : Nat → Value → World → Prop) (i : Nat) : Prop :=
  ∀ a w, a.tmps.size = n → a.defers = [] → R w0 w → Pre i w →
    (∀ j, waitsB ops i j = true → ∀ oj, ops[j]? = some oj → Left_ vals Ψ j (match oj.dst with | some d => a.tmps.getD d undef | none => undef) w) →
    (∀ t v, lk E0 t = some v → (∀ (j : Nat) (oj : Oper), ops[j]? = some oj → oj.dst = some t → waitsB ops j i = true ∨ i = j) → a.tmps.getD t undef = v) →
    wpOp P ops Q i (fun a' w' => ∃ o v, ops[i]? = some o ∧ a' = a.put o.dst v ∧ Left_ vals Ψ i (match o.dst with | some _ => v | none => undef) w' ∧ Rel i w w') a w

structure RInv (ops : Array Oper) (n : Nat) (E0 : Env) (w0 : World) (R : World → World → Prop) (Pre : Nat → World → Prop) (vals : List (Option Value)) (Ψ : Nat → Value → World → Prop) (listed : Array Bool) (a : Act) (w : World) : Prop where
  size : a.tmps.size = n
  defers : a.defers = []
  rel : R w0 w
  pre : ∀ j, listed[j]? = some false → Pre j w
  len : listed.size = ops.size
  left : ∀ (j : Nat) (oj : Oper), ops[j]? = some oj → listed[j]? = some true → Left_ vals Ψ j (match oj.dst with | some d => a.tmps.getD d undef | none => undef) w
  old : ∀ t v, lk E0 t = some v → (∀ (j : Nat) (oj : Oper), ops[j]? = some oj → oj.dst = some t → listed[j]? = some false) → a.tmps.getD t undef = v
  down : ∀ j i, listed[j]? = some true → waitsB ops j i = true → listed[i]? = some true

theorem drawOk_spec (h : drawOk n ops = true) : ∀ (i : Nat) (o : Oper), ops[i]? = some o → (∀ d, o.dst = some d → d < n) ∧ (∀ e ∈ o.after, Region.binds .any e = true → e.on < i) ∧ ∀ (j : Nat) (oj : Oper) (d : Nat), ops[j]? = some oj → j ≠ i → oj.dst = some d → o.dst = some d → False := by
  have key : ∀ (i : Nat) (o : Oper), ops[i]? = some o → (∀ d, o.dst = some d → d < n) ∧ (∀ e ∈ o.after, Region.binds .any e = true → e.on < i) ∧ ∀ (j : Nat) (oj : Oper) (d : Nat), ops[j]? = some oj → j < i → oj.dst = some d → o.dst = some d → False := by
    intro i o ho
    have hi : i < ops.size := (Array.getElem?_eq_some_iff.1 ho).1
    unfold drawOk at h
    rw [List.all_eq_true] at h
    have h1 := h i (List.mem_range.2 hi)
    simp only [ho, Bool.and_eq_true] at h1
    refine ⟨fun d hd => ?_, fun e he => ?_, fun j oj d hj hji hd hd' => ?_⟩
    · have h2 := h1.1.1
      rw [hd] at h2
      exact Nat.le_of_ble_eq_true h2
    · have h2 := h1.1.2
      rw [Array.all_eq_true_iff_forall_mem] at h2
      have h3 := h2 e he
      intro hb
      simp [hb, Nat.blt] at h3
      omega
    · have h2 := h1.2
      rw [List.all_eq_true] at h2
      have h3 := h2 j (List.mem_range.2 hji)
      simp [hj, hd, hd'] at h3
  intro i o ho
  refine ⟨(key i o ho).1, (key i o ho).2.1, fun j oj d hj hne hd hd' => ?_⟩
  rcases Nat.lt_or_ge j i with hlt | hge
  · exact (key i o ho).2.2 j oj d hj hlt hd hd'
  · exact (key j oj hj).2.2 i o d ho (by omega) hd' hd

theorem waitsB_spec {j i : Nat} : waitsB ops j i = true ↔ ∃ o, ops[j]? = some o ∧ ∃ e ∈ o.after, e.on = i ∧ Region.binds .any e = true := by
  unfold waitsB
  cases h : ops[j]? with
  | none => simp
  | some o =>
    simp only [Array.any_eq_true, Bool.and_eq_true, Nat.beq_eq_true_eq, Option.some.injEq, exists_eq_left']
    constructor
    · rintro ⟨k, hk, he, hb⟩; exact ⟨_, Array.getElem_mem hk, Nat.eq_of_beq_eq_true he, hb⟩
    · rintro ⟨e, he, hi, hb⟩
      obtain ⟨k, hk, rfl⟩ := Array.mem_iff_getElem.1 he
      exact ⟨k, hk, by rw [hi]; exact Nat.beq_refl i, hb⟩

theorem count_set : ∀ (l : List Bool) (i : Nat), l[i]? = some false → (l.set i true).count false < l.count false := by
  intro l
  induction l with
  | nil => intro i h; cases h
  | cons b r ih =>
    intro i h
    cases i with
    | zero => simp at h; subst h; simp
    | succ i =>
      have := ih i (by simpa using h)
      simp only [List.set_cons_succ, List.count_cons]
      omega
theorem region_any {id : Nat} {E0 : Env} {w : World} (R : World → World → Prop) (hR0 : ∀ w, R w w) (hRt : ∀ a b c, R a b → R b c → R a c) (Pre : Nat → World → Prop) (Rel : Nat → World → World → Prop) (hP0 : ∀ i, i < ops.size → Pre i w.drew) (hRel : ∀ i w w', Rel i w w' → R w w') (hP : ∀ i j w w', i ≠ j → Pre i w → Rel j w w' → Pre i w') (vals : List (Option Value)) (Ψ : Nat → Value → World → Prop)
    (hm : P.follows .mixedOrders = true) (hok : drawOk n ops = true)
    (hst : ∀ i j x w w', i ≠ j → Ψ i x w → Rel j w w' → Ψ i x w')
    (hduty : ∀ i, i < ops.size → Duty P ops Q n E0 w.drew R Pre Rel vals Ψ i)
    (hend : ∀ a w', a.tmps.size = n → a.defers = [] → R w.drew w' → (∀ (j : Nat) (oj : Oper), ops[j]? = some oj → Left_ vals Ψ j (match oj.dst with | some d => a.tmps.getD d undef | none => undef) w') →
      (∀ t v, lk E0 t = some v → (∀ (j : Nat) (oj : Oper), ops[j]? = some oj → oj.dst ≠ some t) → a.tmps.getD t undef = v) → Q .normal a w') :
    WC P Q (.region id ops true) n E0 w := by
  intro a ha
  have hspec := drawOk_spec hok
  have fin : ∀ (listed : Array Bool) (a : Act) (w' : World), RInv ops n E0 w.drew R Pre vals Ψ listed a w' → Region.ready .any ops listed = [] → Q .normal a w' := by
    intro listed a w' hI hr
    have hall : ∀ i, i < ops.size → listed[i]? = some true := by
      intro i
      induction i using Nat.strongRecOn with
      | _ i ih =>
        intro hi
        have hlt : i < listed.size := by rw [hI.len]; exact hi
        cases hli : listed[i] with
        | true => rw [Array.getElem?_eq_getElem hlt, hli]
        | false =>
          exfalso
          have ho : ops[i]? = some ops[i] := Array.getElem?_eq_getElem hi
          have hmem : i ∈ Region.ready .any ops listed := by
            rw [mem_ready]
            refine ⟨by simp [Array.getD_eq_getD_getElem?, Array.getElem?_eq_getElem hlt, hli], ops[i], ho, ?_⟩
            intro e he hb_
            have h1 := (hspec i _ ho).2.1 e he hb_
            have h2 := ih e.on h1 (by omega)
            simp [Array.getD_eq_getD_getElem?, h2]
          rw [hr] at hmem
          cases hmem
    refine hend a w' hI.size hI.defers hI.rel (fun j oj hj => hI.left j oj hj (hall j (Array.getElem?_eq_some_iff.1 hj).1)) (fun t v hv hno => hI.old t v hv (fun j oj hj hd => absurd hd (hno j oj hj)))
  have main : ∀ (fuel : Nat) (listed : Array Bool) (a : Act) (w' : World), RInv ops n E0 w.drew R Pre vals Ψ listed a w' → (fuel = 0 → Region.ready .any ops listed = []) → (∀ k, k ≤ fuel → True) → (listed.toList.count false ≤ fuel) → wpAny P .any ops Q fuel listed a w' := by
    intro fuel
    induction fuel with
    | zero => intro listed a w' hI h0 _ _; exact ⟨h0 rfl, fin listed a w' hI (h0 rfl)⟩
    | succ fuel ih =>
      intro listed a w' hI _ _ hcount
      refine ⟨fin listed a w' hI, fun i hi => ?_⟩
      obtain ⟨hun, o, ho, hafter⟩ := mem_ready.1 hi
      have hilt : i < ops.size := (Array.getElem?_eq_some_iff.1 ho).1
      have hil : i < listed.size := by rw [hI.len]; exact hilt
      have hif : listed[i]? = some false := by
        rw [Array.getElem?_eq_getElem hil]
        cases hli : listed[i] with
        | false => rfl
        | true => simp [Array.getD_eq_getD_getElem?, Array.getElem?_eq_getElem hil, hli] at hun
      have hdeps : ∀ j, waitsB ops i j = true → listed[j]? = some true := by
        intro j hj
        obtain ⟨o', ho', e, he, rfl, hbind⟩ := waitsB_spec.1 hj
        rw [ho] at ho'; cases ho'
        have h2 := (hspec i o ho).2.1 e he hbind
        have h1 := hafter e he hbind
        have hel : e.on < listed.size := by rw [hI.len]; omega
        rw [Array.getElem?_eq_getElem hel]
        simp [Array.getD_eq_getD_getElem?, Array.getElem?_eq_getElem hel] at h1
        rw [h1]
      refine wpOp_mono ?_ (hduty i hilt a w' hI.size hI.defers hI.rel (hI.pre i hif) (fun j hj oj hoj => hI.left j oj hoj (hdeps j hj)) (fun t v hv hw => hI.old t v hv (fun j oj hj hd => ?_)))
      · rintro a' w'' ⟨o', v, ho', rfl, hleft, hrel⟩
        rw [ho] at ho'; cases ho'
        refine ih _ _ _ ⟨?_, ?_, hRt _ _ _ hI.rel (hRel _ _ _ hrel), fun j hj => ?pre, by simp [hI.len], ?_, ?_, ?_⟩ ?_ (fun _ _ => trivial) ?_
        case pre =>
          by_cases hji : i = j
          · subst hji
            rw [Array.getElem?_setIfInBounds_self_of_lt hil] at hj; cases hj
          · rw [Array.getElem?_setIfInBounds_ne hji] at hj
            exact hP _ _ _ _ (fun e => hji e.symm) (hI.pre j hj) hrel
        · cases hd : o.dst <;> simp [Act.put, hI.size]
        · cases hd : o.dst <;> simp [Act.put, hI.defers]
        · intro j oj hj hjl
          by_cases hji : j = i
          · subst hji
            rw [ho] at hj; cases hj
            cases hd : o.dst with
            | none => rw [hd] at hleft; exact hleft
            | some d =>
              rw [hd] at hleft
              have hdn := (hspec _ _ ho).1 d hd
              have e1 : (a.put (some d) v).tmps.getD d undef = v := by simp [Act.put, Array.getD_eq_getD_getElem?, hI.size, hdn]
              show Left_ vals Ψ _ ((a.put (some d) v).tmps.getD d undef) w''
              rw [e1]; exact hleft
          · have hjl' : listed[j]? = some true := by rwa [Array.getElem?_setIfInBounds_ne (Ne.symm hji)] at hjl
            have h1 := hI.left j oj hj hjl'
            cases hdj : oj.dst with
            | none => rw [hdj] at h1; exact ⟨h1.1, hst _ _ _ _ _ hji h1.2 hrel⟩
            | some dj =>
              rw [hdj] at h1
              have e1 : (a.put o.dst v).tmps.getD dj undef = a.tmps.getD dj undef := by
                cases hd : o.dst with
                | none => rfl
                | some d =>
                  have hne : d ≠ dj := fun e => (hspec _ _ ho).2.2 j oj dj hj hji hdj (e ▸ hd)
                  simp [Act.put, Array.getD_eq_getD_getElem?, Array.getElem?_setIfInBounds_ne hne]
              show Left_ vals Ψ _ ((a.put o.dst v).tmps.getD dj undef) w''
              rw [e1]; exact ⟨h1.1, hst _ _ _ _ _ hji h1.2 hrel⟩
        · intro t u hu hno
          have e1 : (a.put o.dst v).tmps.getD t undef = a.tmps.getD t undef := by
            cases hd : o.dst with
            | none => rfl
            | some d =>
              have hne : d ≠ t := fun e => by
                have := hno i o ho (by rw [hd, e])
                rw [Array.getElem?_setIfInBounds_self_of_lt hil] at this
                cases this
              simp [Act.put, Array.getD_eq_getD_getElem?, Array.getElem?_setIfInBounds_ne hne]
          rw [e1]
          refine hI.old t u hu (fun j oj hj hd => ?_)
          have h1 := hno j oj hj hd
          by_cases hji : i = j
          · subst hji; exact hif
          · rwa [Array.getElem?_setIfInBounds_ne hji] at h1
        · intro j k hj hjk
          by_cases hki : i = k
          · subst hki; exact Array.getElem?_setIfInBounds_self_of_lt hil
          · rw [Array.getElem?_setIfInBounds_ne hki]
            by_cases hji : i = j
            · subst hji; exact hdeps k hjk
            · rw [Array.getElem?_setIfInBounds_ne hji] at hj
              exact hI.down j k hj hjk
        · intro e0
          have hc : (listed.setIfInBounds i true).toList.count false < listed.toList.count false := by
            rw [Array.toList_setIfInBounds]
            exact count_set listed.toList i (by rw [Array.getElem?_toList]; exact hif)
          have hzero : (listed.setIfInBounds i true).toList.count false = 0 := by omega
          refine List.eq_nil_iff_forall_not_mem.2 (fun k hk => ?_)
          obtain ⟨h1, o', ho', _⟩ := mem_ready.1 hk
          have hkl : k < (listed.setIfInBounds i true).size := by simp [hI.len]; exact (Array.getElem?_eq_some_iff.1 ho').1
          have h2 : (listed.setIfInBounds i true)[k] = false := by simpa [Array.getD_eq_getD_getElem?, Array.getElem?_eq_getElem hkl] using h1
          have h3 : false ∈ (listed.setIfInBounds i true).toList := by rw [← h2]; exact Array.getElem_mem_toList hkl
          exact absurd (List.count_pos_iff.2 h3) (by omega)
        · have hc : (listed.setIfInBounds i true).toList.count false < listed.toList.count false := by
            rw [Array.toList_setIfInBounds]
            exact count_set listed.toList i (by rw [Array.getElem?_toList]; exact hif)
          omega
      · rcases hw j oj hj hd with h1 | h1
        · have hjl : j < listed.size := by rw [hI.len]; exact (Array.getElem?_eq_some_iff.1 hj).1
          cases hlj : listed[j] with
          | false => rw [Array.getElem?_eq_getElem hjl, hlj]
          | true =>
            have := hI.down j i (by rw [Array.getElem?_eq_getElem hjl, hlj]) h1
            rw [hif] at this; cases this
        · subst h1; exact hif
  refine wp_region_any hm (main ops.size _ a w.drew ?_ ?_ (fun _ _ => trivial) ?_)
  · refine ⟨ha.1, ha.2.1, hR0 _, fun j hj => hP0 j ?_, by simp, ?_, fun t v hv _ => ha.2.2 t v hv, ?_⟩
    · have := (Array.getElem?_eq_some_iff.1 hj).1
      simpa using this
    · intro j oj hj hl
      have hjl := (Array.getElem?_eq_some_iff.1 hj).1
      rw [Array.getElem?_replicate] at hl
      simp [hjl] at hl
    · intro j i hl _
      rw [Array.getElem?_replicate] at hl
      split at hl <;> cases hl
  · intro h0
    refine List.eq_nil_iff_forall_not_mem.2 (fun k hk => ?_)
    obtain ⟨_, o', ho', _⟩ := mem_ready.1 hk
    have := (Array.getElem?_eq_some_iff.1 ho').1
    omega
  · simp [List.count_replicate]

theorem lkR_spec {E0 : Env} {vals : List (Option Value)} {x : Nat → Value} {i : Nat} {a : Act} {w : World} {Ψ : Nat → Value → World → Prop} (hok : drawOk n ops = true)
    (hx : ∀ j oj d, ops[j]? = some oj → oj.dst = some d → x j = a.tmps.getD d undef)
    (hdep : ∀ j, waitsB ops i j = true → ∀ oj, ops[j]? = some oj → Left_ vals Ψ j (match oj.dst with | some d => a.tmps.getD d undef | none => undef) w)
    (hold : ∀ t v, lk E0 t = some v → (∀ (j : Nat) (oj : Oper), ops[j]? = some oj → oj.dst = some t → waitsB ops j i = true ∨ i = j) → a.tmps.getD t undef = v) {t : Nat} {v : Value} :
    ∀ l : List Nat, (∀ j, j < ops.size → j ∉ l → ∀ oj, ops[j]? = some oj → oj.dst ≠ some t) → lkR ops E0 vals x i t l = some v → a.tmps.getD t undef = v := by
  intro l
  induction l with
  | nil =>
    intro hn h
    exact hold t v h (fun j oj hj hd => absurd hd (hn j (Array.getElem?_eq_some_iff.1 hj).1 (by simp) oj hj))
  | cons j r ih =>
    intro hn h
    unfold lkR at h
    cases hj : ops[j]? with
    | none =>
      simp only [hj, Option.bind_none] at h
      exact ih (fun k hk hkr ok hok' hd => hn k hk (by
        intro hm
        rcases List.mem_cons.1 hm with e | e
        · subst e; rw [hj] at hok'; cases hok'
        · exact hkr e) ok hok' hd) h
    | some oj =>
      simp only [hj, Option.bind_some] at h
      cases hd : oj.dst with
      | none =>
        simp only [hd] at h
        exact ih (fun k hk hkr ok hok' hd' => hn k hk (by
          intro hm
          rcases List.mem_cons.1 hm with e | e
          · subst e; rw [hj] at hok'; cases hok'; rw [hd] at hd'; cases hd'
          · exact hkr e) ok hok' hd') h
      | some d =>
        simp only [hd] at h
        cases hb : Nat.beq d t with
        | false =>
          rw [hb] at h
          simp only [cond_false] at h
          exact ih (fun k hk hkr ok hok' hd' => hn k hk (by
            intro hm
            rcases List.mem_cons.1 hm with e | e
            · subst e; rw [hj] at hok'; cases hok'; rw [hd] at hd'; simp only [Option.some.injEq] at hd'; subst hd'; rw [Nat.beq_refl] at hb; cases hb
            · exact hkr e) ok hok' hd') h
        | true =>
          rw [hb] at h
          simp only [cond_true] at h
          have hdt := Nat.eq_of_beq_eq_true hb
          subst hdt
          cases hwj : waitsB ops i j with
          | true =>
            rw [hwj] at h
            simp only [cond_true, Option.some.injEq] at h
            have h1 := hdep j hwj oj hj
            rw [hd] at h1
            have h2 := hx j oj d hj hd
            rw [← h]
            cases hv : (vals[j]?).join with
            | none => simp [h2]
            | some u =>
              have : vals[j]? = some (some u) := by
                cases hq : vals[j]? with
                | none => rw [hq] at hv; cases hv
                | some q => rw [hq] at hv; simp at hv; rw [hv]
              simpa using h1.1 u this
          | false =>
            rw [hwj] at h
            simp only [cond_false] at h
            cases hw2 : (waitsB ops j i || Nat.beq i j) with
            | false => rw [hw2] at h; cases h
            | true =>
              rw [hw2] at h
              simp only [cond_true] at h
              refine hold d v h (fun k ok hk hdk => ?_)
              have hkj : k = j := by
                rcases Nat.lt_or_ge k ops.size with _ | hge
                · by_cases e : k = j
                  · exact e
                  · exact absurd hdk (fun hdk => (drawOk_spec hok j oj hj).2.2 k ok d hk e hdk hd)
                · rw [Array.getElem?_eq_none hge] at hk; cases hk
              subst hkj
              rcases Bool.or_eq_true_iff.1 hw2 with h3 | h3
              · exact .inl h3
              · exact .inr (Nat.eq_of_beq_eq_true h3)

/-- What is asked of one operation, walked alone. -/
def DQ (ops : Array Oper) (vals : List (Option Value)) (Ψ : Nat → Value → World → Prop) (Rel : Nat → World → World → Prop) (i : Nat) (w : World) : Exit → Act → World → Prop :=
  fun e a' w' => e = .normal ∧ a'.defers = [] ∧ (∀ o, ops[i]? = some o → Left_ vals Ψ i (match o.dst with | some d => a'.tmps.getD d undef | none => undef) w') ∧ Rel i w w'
theorem wp_alone {o : Oper} {a : Act} {w : World} {K : Act → World → Prop} {Q' : Exit → Act → World → Prop} (hp : ∀ ch a w, ¬ Q' (.panic ch) a w) (hl : ¬ LetsOut Q') (hK : ∀ a w, K a w → a.defers = [])
    (h : o.wp P a w K Q') : o.wp P a w (fun a' w' => K a' w' ∧ ∃ v, a' = a.put o.dst v) Q := by
  unfold Oper.wp at *
  generalize (execOp a.eval o).run P w = r at *
  cases r with
  | ok x w' =>
    cases x with
    | value v => exact ⟨h, v, rfl⟩
    | skip => exact ⟨h, undef, rfl⟩
    | defer dd =>
      exfalso
      have := hK _ _ h
      cases hd : o.dst <;> simp [Act.put, hd] at this
    | enter f args =>
      refine Calls.mono h (fun e w'' he => ?_)
      cases e with
      | returned v => exact ⟨he, v, rfl⟩
      | panicked ch => exact absurd he (hp _ _ _)
      | outgrown => exact absurd he hl
    | row row args => exact Rows.mono h (fun v w'' he => ⟨he, v, rfl⟩)
    | _ => exact h.elim
  | halt x w' =>
    cases x with
    | panic v => exact absurd h (hp _ _ _)
    | _ => exact h.elim
theorem duty_of {E0 : Env} {w0 : World} {R : World → World → Prop} {Pre : Nat → World → Prop} {Rel : Nat → World → World → Prop} {vals : List (Option Value)} {Ψ : Nat → Value → World → Prop} {i : Nat} {o : Oper} (hok : drawOk n ops = true) (ho : ops[i]? = some o) (E' : (Nat → Value) → Env)
    (hE' : ∀ x, AllV (fun t => lkR ops E0 vals x i t (List.range ops.size)) (E' x))
    (h : ∀ (x : Nat → Value) (w : World), R w0 w → Pre i w → (∀ j, waitsB ops i j = true → ∀ oj d, ops[j]? = some oj → oj.dst = some d → Left_ vals Ψ j (x j) w) → (∀ j, waitsB ops i j = true → ∀ oj, ops[j]? = some oj → oj.dst = none → Ψ j undef w) →
      WL P ops (DQ ops vals Ψ Rel i w) [o] n (E' x) w) : Duty P ops Q n E0 w0 R Pre Rel vals Ψ i := by
  intro a w hs hdf hR hPre hdep hold
  have hx : ∃ x : Nat → Value, ∀ j oj d, ops[j]? = some oj → oj.dst = some d → x j = a.tmps.getD d undef :=
    ⟨fun j => match (ops[j]?).bind (·.dst) with | some d => a.tmps.getD d undef | none => undef, fun j oj d hj hd => by simp [hj, hd]⟩
  obtain ⟨x, hx⟩ := hx
  have hA : Agr n (E' x) a := by
    refine ⟨hs, hdf, fun t v hv => ?_⟩
    have hmem : ∀ (E : Env), AllV (fun t => lkR ops E0 vals x i t (List.range ops.size)) E → lk E t = some v → lkR ops E0 vals x i t (List.range ops.size) = some v := by
      intro E
      induction E with
      | nil => intro _ h; cases h
      | cons p r ih =>
        intro hA h
        obtain ⟨q, u⟩ := p
        unfold lk at h
        cases hb : Nat.beq q t with
        | true => rw [hb] at h; simp only [cond_true] at h; have := Nat.eq_of_beq_eq_true hb; subst this; exact hA.1.trans h
        | false => rw [hb] at h; exact ih hA.2 h
    exact lkR_spec hok hx hdep hold (List.range ops.size) (fun j hj hn => absurd (List.mem_range.2 hj) hn) (hmem _ (hE' x) hv)
  have h1 := h x w hR hPre (fun j hj oj d hoj hd => by have := hdep j hj oj hoj; rw [hd] at this; rw [hx j oj d hoj hd]; exact this) (fun j hj oj hoj hd => by have := hdep j hj oj hoj; rw [hd] at this; exact this.2) a hA
  have hp : ∀ ch a' w', ¬ DQ ops vals Ψ Rel i w (.panic ch) a' w' := fun ch a' w' hq => by cases hq.1
  have hl : ¬ LetsOut (DQ ops vals Ψ Rel i w) := fun ⟨_, _, hq⟩ => by cases hq.1
  unfold wpOp
  simp only [ho]
  unfold wpList at h1
  split at h1
  · rename_i hw
    rw [if_pos hw]
    rcases h1 with h1 | h1
    · left
      refine Oper.wp_mono (fun a' w' hh => ?_) (wp_alone (K := fun a w' => DQ ops vals Ψ Rel i w .normal a w') hp hl (fun a' w' hq => hq.2.1) h1)
      obtain ⟨hq, v, rfl⟩ := hh
      have h2 := hq.2.2.1 o ho
      refine ⟨o, v, rfl, rfl, ?_, hq.2.2.2⟩
      cases hd : o.dst with
      | none => rw [hd] at h2; exact h2
      | some d =>
        rw [hd] at h2
        have hdn := (drawOk_spec hok i o ho).1 d hd
        have e1 : (a.put (some d) v).tmps.getD d undef = v := by simp [Act.put, Array.getD_eq_getD_getElem?, hs, hdn]
        have h3 : Left_ vals Ψ i ((a.put (some d) v).tmps.getD d undef) w' := h2
        rw [e1] at h3; exact h3
    · exact absurd h1.2 hl
  · rename_i hw
    rw [if_neg hw]
    have h2 := h1.2.2.1 o ho
    refine ⟨o, undef, rfl, rfl, ?_, h1.2.2.2⟩
    cases hd : o.dst with
    | none => rw [hd] at h2; exact h2
    | some d =>
      rw [hd] at h2
      have hdn := (drawOk_spec hok i o ho).1 d hd
      have e1 : (a.put (some d) undef).tmps.getD d undef = undef := by simp [Act.put, Array.getD_eq_getD_getElem?, hs, hdn]
      have h3 : Left_ vals Ψ i ((a.put (some d) undef).tmps.getD d undef) w := h2
      rw [e1] at h3; exact h3
/-- The value is told. -/
theorem duty_val {E : Env} {vals : List (Option Value)} {Ψ : Nat → Value → World → Prop} {Rel : Nat → World → World → Prop} {i : Nat} {w w' : World} {o : Oper} {d : Nat} {v : Value} (ho : ops[i]? = some o) (hd : o.dst = some d) (hl : lk E d = some v) (hv : vals[i]? = some (some v)) (hΨ : Ψ i v w') (hR : Rel i w w') :
    WQ (DQ ops vals Ψ Rel i w) .normal n E w' := by
  intro a ha
  refine ⟨rfl, ha.2.1, fun o' ho' => ?_, hR⟩
  rw [ho] at ho'; cases ho'
  rw [hd]
  show Left_ vals Ψ i (a.tmps.getD d undef) w'
  rw [ha.2.2 d v hl]
  exact ⟨fun u hu => by rw [hv] at hu; simpa using hu, hΨ⟩
theorem duty_unk {E : Env} {vals : List (Option Value)} {Ψ : Nat → Value → World → Prop} {Rel : Nat → World → World → Prop} {i : Nat} {w w' : World} {o : Oper} {d : Nat} {v : Value} (ho : ops[i]? = some o) (hd : o.dst = some d) (hl : lk E d = some v) (hv : vals[i]? = some none) (hΨ : Ψ i v w') (hR : Rel i w w') :
    WQ (DQ ops vals Ψ Rel i w) .normal n E w' := by
  intro a ha
  refine ⟨rfl, ha.2.1, fun o' ho' => ?_, hR⟩
  rw [ho] at ho'; cases ho'
  rw [hd]
  show Left_ vals Ψ i (a.tmps.getD d undef) w'
  rw [ha.2.2 d v hl]
  exact ⟨fun u hu => by (rw [hv] at hu; cases hu), hΨ⟩
theorem duty_unit {E : Env} {vals : List (Option Value)} {Ψ : Nat → Value → World → Prop} {Rel : Nat → World → World → Prop} {i : Nat} {w w' : World} {o : Oper} (ho : ops[i]? = some o) (hd : o.dst = none) (hv : vals[i]? = some none) (hΨ : Ψ i undef w') (hR : Rel i w w') :
    WQ (DQ ops vals Ψ Rel i w) .normal n E w' := by
  intro a ha
  refine ⟨rfl, ha.2.1, fun o' ho' => ?_, hR⟩
  rw [ho] at ho'; cases ho'
  rw [hd]
  exact ⟨fun u hu => by (rw [hv] at hu; cases hu), hΨ⟩
end
end Go.Proofs.Ytemfngomfiimfaa.K
