/- The frame of our own walk: an environment of slots in the place of the whole frame; one rule an operation. Seat-free text: 'Ytemfngomfiimfaa' is the seat's name. -/
import Derived.WalkKit
import Derived.KernelRfl
import Derived.Below
import Derived.OwnWalk
import Derived.Laws.MakeOwn
import Derived.Laws.OwnMore
import Derived.Laws.BytesArg
import Derived.Deep.LoopGhost
import Derived.Deep.QuietTactic
import Derived.Lib.ConvBytes
set_option linter.unusedVariables false
set_option linter.unusedSimpArgs false
namespace Go.Proofs.Ytemfngomfiimfaa.K
open Go.RowKit

abbrev Env := List (Nat × Value)
def lk : Env → Nat → Option Value
  | [], _ => none
  | (k, v) :: r, t => bif Nat.beq k t then some v else lk r t

def Agr (n : Nat) (E : Env) (a : Act) : Prop := a.tmps.size = n ∧ a.defers = [] ∧ ∀ t v, lk E t = some v → a.tmps.getD t undef = v

def evE (E : Env) : Operand → Option Value
  | .tmp t => lk E t
  | .const v => some v
  | .global g => some (.pointer (some ⟨g, 0, none⟩))
  | .func f => some (.func (.func f) #[] #[])

theorem evE_eval {n : Nat} {E : Env} {a : Act} (h : Agr n E a) {x : Operand} {v : Value} (hx : evE E x = some v) : a.eval x = v := by
  cases x with
  | tmp t => exact h.2.2 t v hx
  | const u => simpa [evE, Act.eval] using hx
  | global g => simpa [evE, Act.eval] using hx
  | func f => simpa [evE, Act.eval] using hx

def evL (E : Env) : List Operand → Option (List Value)
  | [] => some []
  | x :: r => match evE E x, evL E r with
    | some v, some l => some (v :: l)
    | _, _ => none

theorem evL_eval {n : Nat} {E : Env} {a : Act} (h : Agr n E a) : ∀ {xs : List Operand} {vs : List Value}, evL E xs = some vs → xs.map a.eval = vs := by
  intro xs
  induction xs with
  | nil => intro vs hv; simp [evL] at hv; simp [← hv]
  | cons x r ih =>
    intro vs hv
    unfold evL at hv
    split at hv
    · rename_i v l h1 h2
      simp only [Option.some.injEq] at hv
      subst hv
      rw [List.map_cons, evE_eval h h1, ih h2]
    · cases hv

theorem Agr.put {n : Nat} {E : Env} {a : Act} (h : Agr n E a) {d : Nat} (hd : d < n) (v : Value) : Agr n ((d, v) :: E) (a.put (some d) v) := by
  refine ⟨by simp [Act.put, h.1], h.2.1, fun t u hu => ?_⟩
  unfold lk at hu
  by_cases e : d = t
  · subst e
    have : Nat.beq d d = true := Nat.beq_refl d
    rw [this] at hu
    simp only [cond_true, Option.some.injEq] at hu
    subst hu
    simp [Act.put, Array.getD_eq_getD_getElem?, h.1, hd]
  · have : Nat.beq d t = false := by
      cases hb : Nat.beq d t
      · rfl
      · exact absurd (Nat.eq_of_beq_eq_true hb) e
    rw [this] at hu
    simp only [cond_false] at hu
    have := h.2.2 t u hu
    simp only [Act.put, Array.getD_eq_getD_getElem?] at this ⊢
    rw [Array.getElem?_setIfInBounds_ne e]
    exact this

/-- A region's operation, by its number. -/
def nthO : List Oper → Nat → Option Oper
  | [], _ => none
  | o :: _, 0 => some o
  | _ :: r, i + 1 => nthO r i
theorem nthO_eq : ∀ (l : List Oper) (i : Nat), nthO l i = l[i]?
  | [], i => by simp [nthO]
  | x :: r, 0 => by simp [nthO]
  | x :: r, i + 1 => by simp [nthO, nthO_eq r i]
theorem nthO_get {ops : Array Oper} {i : Nat} {o : Oper} (h : nthO ops.toList i = some o) : ops[i]? = some o := by rw [nthO_eq, Array.getElem?_toList] at h; exact h
/-- Whether a guarded operation is wanted, as far as the environment tells. -/
def wants (ops : Array Oper) (E : Env) : Option (Nat × Bool) → Option Bool
  | none => some true
  | some (j, b) => match nthO ops.toList j with
    | some o => match o.dst with
      | some d => match lk E d with
        | some (.bool c) => some (c == b)
        | some (.tuple _) => some false
        | _ => none
      | none => none
    | none => none

theorem wants_spec {n : Nat} {ops : Array Oper} {E : Env} {a : Act} (h : Agr n E a) {o : Oper} {r : Bool} (hw : wants ops E o.guard = some r) :
    Region.wanted o (yielded ops a.tmps) = r := by
  unfold Region.wanted
  cases hg : o.guard with
  | none => rw [hg] at hw; simpa [wants] using hw
  | some p =>
    obtain ⟨j, b⟩ := p
    rw [hg] at hw
    unfold wants at hw
    simp only at hw ⊢
    rw [nthO_eq, Array.getElem?_toList] at hw
    cases ho : ops[j]? with
    | none => rw [ho] at hw; cases hw
    | some o' =>
      rw [ho] at hw
      simp only at hw
      cases hd : o'.dst with
      | none => rw [hd] at hw; cases hw
      | some d =>
        rw [hd] at hw
        simp only at hw
        cases hl : lk E d with
        | none => rw [hl] at hw; cases hw
        | some v =>
          rw [hl] at hw
          have hv := h.2.2 d v hl
          rw [Array.getD_eq_getD_getElem?] at hv
          unfold yielded
          simp only [ho, hd, Option.bind_some]
          cases hq : a.tmps[d]? with
          | none =>
            rw [hq] at hv
            simp only [Option.getD_none] at hv
            subst hv
            simp only [undef] at hw
            simpa using hw
          | some u =>
            rw [hq] at hv
            simp only [Option.getD_some] at hv
            subst hv
            cases u <;> simp_all

def WL (P : Program) (ops : Array Oper) (Q : Exit → Act → World → Prop) (l : List Oper) (n : Nat) (E : Env) (w : World) : Prop := ∀ a, Agr n E a → wpList P ops Q l a w
def WC (P : Program) (Q : Exit → Act → World → Prop) (c : Code) (n : Nat) (E : Env) (w : World) : Prop := ∀ a, Agr n E a → c.wp P Q a w
def WQ (Q : Exit → Act → World → Prop) (e : Exit) (n : Nat) (E : Env) (w : World) : Prop := ∀ a, Agr n E a → Q e a w

section code
variable {P : Program} {Q : Exit → Act → World → Prop} {n : Nat} {E : Env} {w : World}

theorem WC_seq {x y : Code} (h : ∀ K : Act → World → Prop, (∀ n E w, WC P Q y n E w → ∀ a, Agr n E a → K a w) → WC P (Exit.then K Q) x n E w) : WC P Q (.seq x y) n E w :=
  fun a ha => wp_seq (h _ (fun _ _ _ hy a ha => hy a ha) a ha)
theorem WQ_then {K : Act → World → Prop} {y : Code} (hK : ∀ n E w, WC P Q y n E w → ∀ a, Agr n E a → K a w) {Q' : Exit → Act → World → Prop} (h : WC P Q y n E w) : WQ (Exit.then K Q') .normal n E w :=
  fun a ha => hK n E w h a ha
theorem WQ_then_ret {K : Act → World → Prop} (h : WQ Q .ret n E w) : WQ (Exit.then K Q) .ret n E w := fun a ha => h a ha
theorem WQ_then_exit {K : Act → World → Prop} {id : Nat} (h : WQ Q (.exit id) n E w) : WQ (Exit.then K Q) (.exit id) n E w := fun a ha => h a ha
theorem WC_skip (h : WQ Q .normal n E w) : WC P Q .skip n E w := fun a ha => wp_skip (h a ha)
theorem WC_ret (h : WQ Q .ret n E w) : WC P Q .ret n E w := fun a ha => wp_ret (h a ha)
theorem WC_exit {id : Nat} (h : WQ Q (.exit id) n E w) : WC P Q (.exit id) n E w := fun a ha => wp_exit (h a ha)
theorem WC_block {id : Nat} {c : Code} (h : WC P (Exit.inBlock id Q) c n E w) : WC P Q (.block id c) n E w := fun a ha => wp_block (h a ha)
theorem WQ_inBlock_exit {id : Nat} (h : WQ Q .normal n E w) : WQ (Exit.inBlock id Q) (.exit id) n E w := fun a ha => by
  show (if id = id then Q .normal a w else Q (.exit id) a w)
  rw [if_pos rfl]; exact h a ha
theorem WQ_inBlock_other {id id' : Nat} (hne : Nat.beq id' id = false) (h : WQ Q (.exit id') n E w) : WQ (Exit.inBlock id Q) (.exit id') n E w := fun a ha => by
  show (if id' = id then Q .normal a w else Q (.exit id') a w)
  rw [if_neg (fun e => by subst e; rw [Nat.beq_refl] at hne; cases hne)]; exact h a ha
theorem WQ_inBlock_normal {id : Nat} (h : WQ Q .normal n E w) : WQ (Exit.inBlock id Q) .normal n E w := fun a ha => h a ha
theorem WQ_inBlock_ret {id : Nat} (h : WQ Q .ret n E w) : WQ (Exit.inBlock id Q) .ret n E w := fun a ha => h a ha

theorem WC_cond_true {c : Operand} {x y : Code} (hc : evE E c = some (.bool true)) (h : WC P Q x n E w) : WC P Q (.cond c x y) n E w :=
  fun a ha => wp_cond_true (evE_eval ha hc) (h a ha)
theorem WC_cond_false {c : Operand} {x y : Code} (hc : evE E c = some (.bool false)) (h : WC P Q y n E w) : WC P Q (.cond c x y) n E w :=
  fun a ha => wp_cond_false (evE_eval ha hc) (h a ha)
theorem WC_cond {c : Operand} {x y : Code} {b : Bool} (hc : evE E c = some (.bool b)) (ht : b = true → WC P Q x n E w) (hf : b = false → WC P Q y n E w) : WC P Q (.cond c x y) n E w :=
  fun a ha => wp_cond_split (evE_eval ha hc) (fun e => ht e a ha) (fun e => hf e a ha)

theorem WC_region {id : Nat} {l : List Oper} (h : WL P l.toArray Q l n E w) : WC P Q (.region id l.toArray false) n E w :=
  fun a ha => wp_region_lit (h a ha)

/-- A loop: X: what a round's head is told by; its environment and what holds are functions of it; a number falls. -/
theorem WC_loop {X : Type} {c : Code} (Inv : X → World → Prop) (Ef : X → Env) (μ : X → Nat) (x0 : X) (h0 : Inv x0 w) (hE : ∀ t v, lk (Ef x0) t = some v → lk E t = some v)
    (round : ∀ x w, Inv x w → ∀ K : Act → World → Prop, (∀ x' n' E' w', n' = n → Inv x' w' → (∀ t v, lk (Ef x') t = some v → lk E' t = some v) → μ x' < μ x → ∀ a, Agr n' E' a → K a w') → WC P (Exit.then K Q) c n (Ef x) w) :
    WC P Q (.loop c) n E w := by
  intro a ha
  refine wp_loop_ghost (fun k a w => ∃ x, μ x = k ∧ Inv x w ∧ Agr n (Ef x) a) (μ x0) ⟨x0, rfl, h0, ha.1, ha.2.1, fun t v hv => ha.2.2 t v (hE t v hv)⟩ ?_
  rintro k a w ⟨x, rfl, hI, hA⟩
  refine round x w hI _ ?_ a hA
  rintro x' n' E' w' rfl hI' hE' hm a' ha'
  exact ⟨μ x', hm, x', rfl, hI', ha'.1, ha'.2.1, fun t v hv => ha'.2.2 t v (hE' t v hv)⟩
theorem WQ_again {X : Type} {K : Act → World → Prop} {Inv : X → World → Prop} {Ef : X → Env} {μ : X → Nat} {x : X}
    (hK : ∀ x' n' E' w', n' = n → Inv x' w' → (∀ t v, lk (Ef x') t = some v → lk E' t = some v) → μ x' < μ x → ∀ a, Agr n' E' a → K a w') {Q' : Exit → Act → World → Prop}
    (x' : X) (hI : Inv x' w) (hE : ∀ t v, lk (Ef x') t = some v → lk E t = some v) (hm : μ x' < μ x) : WQ (Exit.then K Q') .normal n E w :=
  fun a ha => hK x' n E w rfl hI hE hm a ha

/-- Entering a function. -/
theorem calls_W {f : FuncId} {fn : Func} {c : Code} {args : List Value} {R : Ending → World → Prop}
    (hf : P.funcs[f]? = some fn) (hb : fn.body = some c) (m : Nat) (hm : args.length + (fn.ntmps - args.length) = m)
    (h : WC P (bodyPost P fn R) c m ((List.range' 0 args.length).zip args) w) : Calls P f args.toArray w R := by
  refine calls_of_wp hf hb (h _ ?_)
  refine ⟨by simp; omega, rfl, fun t v hv => ?_⟩
  have key : ∀ (l : List Value) (s t : Nat) (v : Value), lk ((List.range' s l.length).zip l) t = some v → s ≤ t ∧ l[t - s]? = some v := by
    intro l
    induction l with
    | nil => intro s t v h; simp [lk] at h
    | cons x r ih =>
      intro s t v h
      simp only [List.length_cons, List.range'_succ, List.zip_cons_cons, lk] at h
      cases hb : Nat.beq s t with
      | true =>
        rw [hb] at h
        have := Nat.eq_of_beq_eq_true hb
        subst this
        simpa using h
      | false =>
        rw [hb] at h
        obtain ⟨h1, h2⟩ := ih (s + 1) t v h
        refine ⟨by omega, ?_⟩
        rw [show t - s = (t - (s + 1)) + 1 by omega]
        simpa using h2
  obtain ⟨_, h2⟩ := key args 0 t v hv
  have hlt : t < args.length := by
    rcases Nat.lt_or_ge t args.length with h | h
    · exact h
    · rw [Nat.sub_zero, List.getElem?_eq_none (by omega)] at h2; cases h2
  simp only [Array.getD_eq_getD_getElem?]
  rw [Array.getElem?_append_left (by simpa using hlt)]
  simp only [Nat.sub_zero] at h2
  simp [h2]

theorem WQ_body1 {fn : Func} {R : Ending → World → Prop} {t : Tmp} {v : Value} {e : Exit} (he : e = .ret ∨ e = .normal) (hr : fn.results = #[.tmp t]) (hv : lk E t = some v) (h : R (.returned v) w) : WQ (bodyPost P fn R) e n E w := by
  intro a ha
  have h' : a.defers = [] ∧ ∃ v, (results fn a.tmps).run P w = .ok v w ∧ R (.returned v) w :=
    ⟨ha.2.1, v, by rw [results_tmp hr, ha.2.2 t v hv], h⟩
  rcases he with rfl | rfl <;> exact h'
theorem WQ_body2 {fn : Func} {R : Ending → World → Prop} {t u : Tmp} {v v' : Value} {e : Exit} (he : e = .ret ∨ e = .normal) (hr : fn.results = #[.tmp t, .tmp u]) (hv : lk E t = some v) (hv' : lk E u = some v') (h : R (.returned (.tuple #[v, v'])) w) : WQ (bodyPost P fn R) e n E w := by
  intro a ha
  have h' : a.defers = [] ∧ ∃ v, (results fn a.tmps).run P w = .ok v w ∧ R (.returned v) w :=
    ⟨ha.2.1, _, by rw [results_tmp2 hr, ha.2.2 t v hv, ha.2.2 u v' hv'], h⟩
  rcases he with rfl | rfl <;> exact h'
theorem WQ_body0 {fn : Func} {R : Ending → World → Prop} {e : Exit} (he : e = .ret ∨ e = .normal) (hr : fn.results = #[]) (h : R (.returned (.tuple #[])) w) : WQ (bodyPost P fn R) e n E w := by
  intro a ha
  have h' : a.defers = [] ∧ ∃ v, (results fn a.tmps).run P w = .ok v w ∧ R (.returned v) w :=
    ⟨ha.2.1, _, results_none hr _ _ _, h⟩
  rcases he with rfl | rfl <;> exact h'
end code

section ops
variable {P : Program} {ops : Array Oper} {Q : Exit → Act → World → Prop} {n : Nat} {E : Env} {w : World} {l : List Oper}

theorem WL_nil (h : WQ Q .normal n E w) : WL P ops Q [] n E w := fun a ha => wpList_nil (h a ha)

theorem WL_off {o : Oper} {d : Nat} (hd : o.dst = some d) (hdn : Nat.ble (d + 1) n = true) (hw : wants ops E o.guard = some false) (h : WL P ops Q l n ((d, undef) :: E) w) : WL P ops Q (o :: l) n E w := by
  intro a ha
  refine wpList_skip (wants_spec ha hw) ?_
  rw [hd]
  exact h _ (ha.put (Nat.le_of_ble_eq_true hdn) _)
theorem WL_off_none {o : Oper} (hd : o.dst = none) (hw : wants ops E o.guard = some false) (h : WL P ops Q l n E w) : WL P ops Q (o :: l) n E w := by
  intro a ha
  refine wpList_skip (wants_spec ha hw) ?_
  rw [hd]
  exact h _ ha

/-- A guard that is not decided yet: both ways. -/
theorem WL_guard {o : Oper} {j : Nat} {b : Bool} {o' : Oper} {d : Nat} {c : Bool} (hg : o.guard = some (j, b)) (ho : nthO ops.toList j = some o') (hd : o'.dst = some d) (hl : lk E d = some (.bool c))
    (ht : c = true → WL P ops Q (o :: l) n ((d, .bool true) :: E) w) (hf : c = false → WL P ops Q (o :: l) n ((d, .bool false) :: E) w) : WL P ops Q (o :: l) n E w := by
  intro a ha
  have hsub : ∀ c', c = c' → Agr n ((d, .bool c') :: E) a := fun c' e => ⟨ha.1, ha.2.1, fun t v hv => by
    unfold lk at hv
    cases hb : Nat.beq d t with
    | true =>
      rw [hb] at hv
      have := Nat.eq_of_beq_eq_true hb
      subst this; subst e
      simp only [cond_true, Option.some.injEq] at hv
      rw [← hv]; exact ha.2.2 _ _ hl
    | false => rw [hb] at hv; exact ha.2.2 t v hv⟩
  cases hc : c with
  | true => exact ht hc a (hsub _ hc)
  | false => exact hf hc a (hsub _ hc)

/-- A slot's value, spelled otherwise. -/
theorem WL_slot {d : Nat} {v v' : Value} (hl : lk E d = some v) (hv : v = v') (h : WL P ops Q l n ((d, v') :: E) w) : WL P ops Q l n E w := by
  intro a ha
  refine h a ⟨ha.1, ha.2.1, fun t u hu => ?_⟩
  unfold lk at hu
  cases hb : Nat.beq d t with
  | true =>
    rw [hb] at hu
    have := Nat.eq_of_beq_eq_true hb
    subst this
    simp only [cond_true, Option.some.injEq] at hu
    rw [← hu, ← hv]; exact ha.2.2 _ _ hl
  | false => rw [hb] at hu; exact ha.2.2 t u hu
theorem WC_slot {c : Code} {d : Nat} {v v' : Value} (hl : lk E d = some v) (hv : v = v') (h : WC P Q c n ((d, v') :: E) w) : WC P Q c n E w := by
  intro a ha
  refine h a ⟨ha.1, ha.2.1, fun t u hu => ?_⟩
  unfold lk at hu
  cases hb : Nat.beq d t with
  | true =>
    rw [hb] at hu
    have := Nat.eq_of_beq_eq_true hb
    subst this
    simp only [cond_true, Option.some.injEq] at hu
    rw [← hu, ← hv]; exact ha.2.2 _ _ hl
  | false => rw [hb] at hu; exact ha.2.2 t u hu
/-- A smaller environment, typed anew. -/
theorem WC_env {c : Code} {E' : Env} (hE : ∀ t v, lk E' t = some v → lk E t = some v) (h : WC P Q c n E' w) : WC P Q c n E w :=
  fun a ha => h a ⟨ha.1, ha.2.1, fun t v hv => ha.2.2 t v (hE t v hv)⟩

/-- An operation that gives a value. -/
theorem WL_val {o : Oper} {d : Nat} (hd : o.dst = some d) (hdn : Nat.ble (d + 1) n = true) (hw : wants ops E o.guard = some true) (v : Value) (w' : World)
    (hx : ∀ a, Agr n E a → (execOp a.eval o).run P w = .ok (.value v) w') (h : WL P ops Q l n ((d, v) :: E) w') : WL P ops Q (o :: l) n E w := by
  intro a ha
  refine wpList_step fun K hK => ?_
  rw [if_pos (wants_spec ha hw)]
  unfold Oper.wp
  rw [hx a ha, Oper.upon_value, hd]
  exact hK _ _ (h _ (ha.put (Nat.le_of_ble_eq_true hdn) _))
theorem WL_unit {o : Oper} (hd : o.dst = none) (hw : wants ops E o.guard = some true) (w' : World)
    (hx : ∀ a, Agr n E a → (execOp a.eval o).run P w = .ok .skip w') (h : WL P ops Q l n E w') : WL P ops Q (o :: l) n E w := by
  intro a ha
  refine wpList_step fun K hK => ?_
  rw [if_pos (wants_spec ha hw)]
  unfold Oper.wp
  rw [hx a ha, Oper.upon_skip, hd]
  exact hK _ _ (h _ ha)
theorem WL_valD {o : Oper} (hd : o.dst = none) (hw : wants ops E o.guard = some true) (v : Value) (w' : World)
    (hx : ∀ a, Agr n E a → (execOp a.eval o).run P w = .ok (.value v) w') (h : WL P ops Q l n E w') : WL P ops Q (o :: l) n E w := by
  intro a ha
  refine wpList_step fun K hK => ?_
  rw [if_pos (wants_spec ha hw)]
  unfold Oper.wp
  rw [hx a ha, Oper.upon_value, hd]
  exact hK _ _ (h _ ha)

def nthV : List Value → Nat → Option Value
  | [], _ => none
  | x :: _, 0 => some x
  | _ :: r, i + 1 => nthV r i
theorem nthV_eq : ∀ (l : List Value) (i : Nat), nthV l i = l[i]?
  | [], i => by simp [nthV]
  | x :: r, 0 => by simp [nthV]
  | x :: r, i + 1 => by simp [nthV, nthV_eq r i]
/-- What an operation that touches no memory and cannot fail gives. -/
def pureOp (E : Env) : Op → Option Value
  | .move x => evE E x
  | .assign x => evE E x
  | .pick c x y => match evE E c with
    | some (.bool true) => evE E x
    | some (.bool false) => evE E y
    | _ => none
  | .binOp op _ x y _ => match evE E x, evE E y with
    | some (.int k a), some (.int k' b) => bif decide (k = k') then
        (match op with
        | .add => some (.int k (k.wrap (a + b)))
        | .sub => some (.int k (k.wrap (a - b)))
        | .mul => some (.int k (k.wrap (a * b)))
        | .eql => some (.bool (a == b))
        | .neq => some (.bool (a != b))
        | .lss => some (.bool (a < b))
        | .leq => some (.bool (a ≤ b))
        | .gtr => some (.bool (a > b))
        | .geq => some (.bool (a ≥ b))
        | _ => none)
      else none
    | _, _ => none
  | .unOp .not _ x => match evE E x with
    | some (.bool b) => some (.bool !b)
    | _ => none
  | .extract t i => match evE E t with
    | some (.tuple vs) => nthV vs.toList i
    | _ => none
  | .makeFunc fn first captured => match evL E first.toList, evL E captured.toList with
    | some a, some b => some (.func fn a.toArray b.toArray)
    | _, _ => none
  | _ => none

theorem pureOp_run {n : Nat} {E : Env} {a : Act} (h : Agr n E a) {o : Oper} {v : Value} (hp : pureOp E o.op = some v) (w : World) : (execOp a.eval o).run P w = .ok (.value v) w := by
  obtain ⟨dst, op, type, pos, after, guard⟩ := o
  simp only at hp
  unfold pureOp at hp
  unfold execOp
  split at hp <;> simp only
  · rw [evE_eval h hp]; rfl
  · rw [evE_eval h hp]; rfl
  · rename_i c x y
    split at hp
    · rename_i hc; rw [evE_eval h hc, evE_eval h hp]; rfl
    · rename_i hc; rw [evE_eval h hc, evE_eval h hp]; rfl
    · cases hp
  · rename_i op t x y t'
    split at hp
    · rename_i k a' k' b' hx hy
      rw [evE_eval h hx, evE_eval h hy]
      cases hk : decide (k = k') with
      | false => rw [hk] at hp; cases hp
      | true =>
        rw [hk] at hp
        have hk' := of_decide_eq_true hk
        subst hk'
        simp only [cond_true] at hp
        cases op <;> simp only [Option.some.injEq] at hp <;> (first | cases hp) <;> first | rfl | (simp [eqGuard, binOp, Op.intArith, Op.intCmp])
    · cases hp
  · rename_i t x
    split at hp
    · rename_i b hx; simp only [Option.some.injEq] at hp; subst hp; rw [evE_eval h hx]; rfl
    · cases hp
  · rename_i t i
    split at hp
    · rename_i vs hx
      rw [nthV_eq, Array.getElem?_toList] at hp
      rw [evE_eval h hx]; simp [Instr.extract, hp]
    · cases hp
  · rename_i fn first captured
    split at hp
    · rename_i x y hx hy
      simp only [Option.some.injEq] at hp
      subst hp
      have e1 : first.map a.eval = x.toArray := by
        apply Array.toList_inj.1
        rw [Array.toList_map, evL_eval h hx]
      have e2 : captured.map a.eval = y.toArray := by
        apply Array.toList_inj.1
        rw [Array.toList_map, evL_eval h hy]
      rw [e1, e2]; rfl
    · cases hp
  · cases hp

theorem WL_pure {o : Oper} {d : Nat} {v : Value} (hd : o.dst = some d) (hdn : Nat.ble (d + 1) n = true) (hw : wants ops E o.guard = some true) (hp : pureOp E o.op = some v)
    (h : WL P ops Q l n ((d, v) :: E) w) : WL P ops Q (o :: l) n E w :=
  WL_val hd hdn hw v w (fun a ha => pureOp_run ha hp w) h
end ops
end Go.Proofs.Ytemfngomfiimfaa.K
