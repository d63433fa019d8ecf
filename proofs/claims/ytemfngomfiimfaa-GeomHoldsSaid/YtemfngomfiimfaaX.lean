/- A region that draws its order, where what acts on memory comes in one order whatever is drawn, and what only reads is told: one walk, the readers as early as may be. Seat-free. -/
import Derived.Test.YtemfngomfiimfaaS
import Derived.Still
set_option linter.unusedVariables false
set_option linter.unusedSimpArgs false
namespace Go.Proofs.Ytemfngomfiimfaa.K
open Go.RowKit

def NoQ : Exit → Act → World → Prop := fun _ _ _ => False
section
variable {P : Program} {ops : Array Oper}
theorem wp_NoQ {o : Oper} {a : Act} {w : World} {K : Act → World → Prop} {Q : Exit → Act → World → Prop} (h : o.wp P a w K NoQ) : o.wp P a w K Q := by
  unfold Oper.wp at *
  generalize (execOp a.eval o).run P w = r at *
  cases r with
  | ok x w' =>
    cases x <;> simp only [Oper.upon] at h ⊢ <;> first
      | exact h
      | (refine Calls.mono h (fun e w'' he => ?_)
         cases e with
         | returned v => exact he
         | panicked ch => exact he.elim
         | outgrown => exact he.elim (fun _ hh => hh.elim (fun _ hk => hk.elim)))
  | halt x w' => cases x <;> simp only [Oper.upon] at h ⊢ <;> first | exact h | exact h.elim
theorem wpOp_NoQ {i : Nat} {a : Act} {w : World} {K : Act → World → Prop} {Q : Exit → Act → World → Prop} (h : wpOp P ops NoQ i K a w) : wpOp P ops Q i K a w := by
  unfold wpOp at *
  split
  · rename_i ho; simp only [ho] at h; exact h
  · rename_i o ho
    simp only [ho] at h
    split
    · rename_i hw
      simp only [hw, if_true] at h
      rcases h with h | h
      · exact .inl (wp_NoQ h)
      · obtain ⟨_, _, _, hh⟩ := h; exact hh.elim
    · rename_i hw; simp only [hw] at h; exact h

/-- In every world of the class it yields v and leaves the world alone; or it is passed over. -/
def Tells (P : Program) (ops : Array Oper) (C : World → Prop) (o : Oper) (a : Act) (v : Value) : Prop :=
  (Region.wanted o (yielded ops a.tmps) = true ∧ ∀ w, C w → (execOp a.eval o).run P w = .ok (.value v) w) ∨ (Region.wanted o (yielded ops a.tmps) = false ∧ v = undef)
theorem Tells.of_same {C : World → Prop} {o : Oper} {v : Value} {a a' : Act} (hy : Tells P ops C o a v) (he : execOp a'.eval o = execOp a.eval o)
    (hw : Region.wanted o (yielded ops a'.tmps) = Region.wanted o (yielded ops a.tmps)) : Tells P ops C o a' v := by
  unfold Tells at *
  rw [he, hw]; exact hy
theorem Tells.wpOp {C : World → Prop} {i : Nat} {o : Oper} {v : Value} {a : Act} (hi : ops[i]? = some o) (hy : Tells P ops C o a v)
    {K : Act → World → Prop} {w : World} {Q : Exit → Act → World → Prop} (hC : C w) (h : K (a.put o.dst v) w) : wpOp P ops Q i K a w := by
  unfold Go.wpOp
  simp only [hi]
  rcases hy with ⟨hw, hv⟩ | ⟨hw, rfl⟩
  · simp only [hw, if_true, Oper.wp, hv w hC, Oper.upon]; exact .inl h
  · simp only [hw, Bool.false_eq_true, if_false]; exact h

/-- The marks: j waits for i, by way of others (F: for each, all its forerunners). -/
def okF (ops : Array Oper) (F : List (List Nat)) : Bool :=
  (List.range ops.size).all fun j => (F.getD j []).all fun i => waitsB ops j i || (F.getD j []).any (fun k => waitsB ops k i && Nat.blt i k && Nat.blt k ops.size)
def Cl (ops : Array Oper) (L : Array Bool) : Prop := ∀ j k, L.getD j false = true → waitsB ops j k = true → L.getD k false = true
theorem Cl.fore {F : List (List Nat)} (hF : okF ops F = true) {L : Array Bool} (h : Cl ops L) (j i : Nat) (hj : j < ops.size) (hi : (F.getD j []).contains i = true) (hl : L.getD j false = true) : L.getD i false = true := by
  have key : ∀ (q i : Nat), ops.size - i = q → (F.getD j []).contains i = true → L.getD i false = true := by
    intro q
    induction q using Nat.strongRecOn with
    | _ q ih =>
      intro i hq hi
      have h1 := hF
      unfold okF at h1
      rw [List.all_eq_true] at h1
      have h2 := h1 j (List.mem_range.2 hj)
      rw [List.all_eq_true] at h2
      have h3 := h2 i (by simpa using hi)
      rcases Bool.or_eq_true_iff.1 h3 with h4 | h4
      · exact h j i hl h4
      · obtain ⟨k, hk, h5⟩ := List.any_eq_true.1 h4
        simp only [Bool.and_eq_true] at h5
        obtain ⟨⟨h6, h7⟩, h8⟩ := h5
        have hik : i < k := by simp [Nat.blt] at h7; omega
        have hks : k < ops.size := by simp [Nat.blt] at h8; omega
        exact h k i (ih (ops.size - k) (by omega) k rfl (by simpa using hk)) h6
  exact key _ i rfl hi
def wpAnyR (P : Program) (ops : Array Oper) (R : Array Bool → World → Prop) (Q : Act → World → Prop) : Nat → Array Bool → Act → World → Prop
  | 0, L, a, w => R L w ∧ Region.ready .any ops L = [] ∧ Q a w
  | fuel + 1, L, a, w => R L w ∧ (Region.ready .any ops L = [] → Q a w) ∧
    ∀ i ∈ Region.ready .any ops L, wpOp P ops NoQ i (wpAnyR P ops R Q fuel (L.setIfInBounds i true)) a w
theorem wpAnyR.rel {R : Array Bool → World → Prop} {Q : Act → World → Prop} {fuel : Nat} {L : Array Bool} {a : Act} {w : World} (h : wpAnyR P ops R Q fuel L a w) : R L w := by
  cases fuel <;> exact h.1
theorem wpAnyR.mono {R R' : Array Bool → World → Prop} {Q : Act → World → Prop} (hR : ∀ L w, R L w → R' L w) : ∀ {fuel : Nat} {L : Array Bool} {a : Act} {w : World}, wpAnyR P ops R Q fuel L a w → wpAnyR P ops R' Q fuel L a w := by
  intro fuel
  induction fuel with
  | zero => intro L a w h; exact ⟨hR _ _ h.1, h.2⟩
  | succ fuel ih => intro L a w h; exact ⟨hR _ _ h.1, h.2.1, fun i hi => wpOp_mono (fun a' w' h' => ih h') (h.2.2 i hi)⟩
theorem wpAnyR.any {R : Array Bool → World → Prop} {Q : Exit → Act → World → Prop} : ∀ {fuel : Nat} {L : Array Bool} {a : Act} {w : World}, wpAnyR P ops R (Q .normal) fuel L a w → wpAny P .any ops Q fuel L a w := by
  intro fuel
  induction fuel with
  | zero => intro L a w h; exact h.2
  | succ fuel ih => intro L a w h; exact ⟨h.2.1, fun i hi => wpOp_NoQ (wpOp_mono (fun a' w' h' => ih h') (h.2.2 i hi))⟩

theorem wpOpC_put {C : World → Prop} {j : Nat} {oi oj : Oper} {v : Value} (hj : ops[j]? = some oj) (hap : oi.apart ops oj = true)
    (hsi : ∀ cs b, oi.op ≠ .select cs b) (hsj : ∀ cs b, oj.op ≠ .select cs b) {K : Act → World → Prop} {a : Act} {w : World}
    (hy : Tells P ops C oi a v) (h : wpOp P ops NoQ j K (a.put oi.dst v) w) :
    wpOp P ops NoQ j (fun a' w' => Tells P ops C oi a' v ∧ K (a'.put oi.dst v) w') a w := by
  obtain ⟨h1, h2, h3⟩ := Oper.apart_spec hap
  have keep : ∀ (a : Act), Tells P ops C oi a v → ∀ u, Tells P ops C oi (a.put oj.dst u) v := fun a hy u =>
    hy.of_same (execOp_put oi hsi a oj.dst u h3) (wanted_put oi a oj.dst u h3)
  have keepD : ∀ d, Tells P ops C oi { a with defers := d :: a.defers } v := fun d => hy.of_same rfl rfl
  unfold wpOp at *
  simp only [hj] at *
  rw [wanted_put oj a oi.dst v h1] at h
  split
  · rename_i hw
    simp only [hw, if_true] at h
    rcases h with h | ⟨_, _, _, hh⟩
    case inr => exact hh.elim
    refine .inl ?_
    unfold Oper.wp at *
    rw [execOp_put oj hsj a oi.dst v h1] at h
    generalize (execOp a.eval oj).run P w = r at *
    cases r with
    | ok n w' =>
      cases n <;> simp only [Oper.upon] at h ⊢
      case value u => exact ⟨keep a hy u, by rw [← Act.put_comm a v u h2]; exact h⟩
      case skip => exact ⟨keep a hy _, by rw [← Act.put_comm a v undef h2]; exact h⟩
      case defer d =>
        refine ⟨keep _ (keepD d) _, ?_⟩
        rw [← Act.put_comm _ v undef h2, ← Act.put_defers]
        exact h
      case enter f args =>
        refine Calls.mono h fun e w'' he => ?_
        cases e with
        | returned u => exact ⟨keep a hy u, by rw [← Act.put_comm a v u h2]; exact he⟩
        | panicked c => exact he.elim
        | outgrown => exact he
      case row row args => exact Rows.mono h fun u w'' he => ⟨keep a hy u, by rw [← Act.put_comm a v u h2]; exact he⟩
    | halt x w' =>
      cases x <;> simp only [Oper.upon] at h ⊢
      case panic u => exact h.elim
  · rename_i hw
    simp only [hw] at h
    exact ⟨keep a hy _, by rw [← Act.put_comm a v undef h2]; exact h⟩

theorem ready_un {i : Nat} {L : Array Bool} (h : i ∈ Region.ready .any ops L) : L.getD i false = false ∧ i < ops.size ∧ (i < L.size) := by
  obtain ⟨h0, o, ho, _⟩ := mem_ready.1 h
  have hlt : i < L.size := by
    rcases Nat.lt_or_ge i L.size with h' | h'
    · exact h'
    · rw [Array.getD_eq_getD_getElem?, Array.getElem?_eq_none h'] at h0; cases h0
  refine ⟨?_, (Array.getElem?_eq_some_iff.1 ho).1, hlt⟩
  rw [Array.getD_eq_getD_getElem?, Array.getElem?_eq_getElem hlt] at h0 ⊢
  simpa using h0
theorem Cl.add {L : Array Bool} (h : Cl ops L) {i : Nat} (hi : i ∈ Region.ready .any ops L) : Cl ops (L.setIfInBounds i true) := by
  intro j k hj hw
  by_cases hji : i = j
  · subst hji
    obtain ⟨_, o, ho, hall⟩ := mem_ready.1 hi
    obtain ⟨o', ho', e, he, rfl, hb⟩ := waitsB_spec.1 hw
    rw [ho] at ho'; cases ho'
    exact getD_set_true (hall e he hb)
  · rw [getD_set_ne false hji] at hj
    exact getD_set_true (h j k hj hw)
theorem wpAnyR_first {R : Array Bool → World → Prop} {Ci : World → Prop} {Q : Act → World → Prop} {i : Nat} {oi : Oper} {v : Value} (hi : ops[i]? = some oi) (hsel : ∀ (j : Nat) (o : Oper) cs b, ops[j]? = some o → o.op ≠ .select cs b)
    (hRi : ∀ L w, R (L.setIfInBounds i true) w → R L w) (hCi : ∀ L w, Cl ops L → L.getD i true = false → R L w → Ci w) :
    ∀ (fuel : Nat) (L : Array Bool) (a : Act) (w : World),
      (∀ j oj, ops[j]? = some oj → j ≠ i → L.getD j true = false → (∀ e ∈ oj.after, Region.binds .any e = true → e.on ≠ i) → oi.apart ops oj = true) →
      i ∈ Region.ready .any ops L → Cl ops L → R L w → Tells P ops Ci oi a v →
      wpAnyR P ops R Q fuel (L.setIfInBounds i true) (a.put oi.dst v) w → wpAnyR P ops R Q (fuel + 1) L a w := by
  intro fuel
  induction fuel with
  | zero =>
    intro L a w _ hr hcl hR hy H
    refine ⟨hR, fun h => (by rw [h] at hr; cases hr), fun j hj => ?_⟩
    by_cases hji : j = i
    · subst hji; exact hy.wpOp hi (hCi L w hcl (mem_ready.1 hr).1 hR) H
    · have := ready_mono hj hji
      rw [H.2.1] at this
      cases this
  | succ fuel ih =>
    intro L a w hfree hr hcl hR hy H
    refine ⟨hR, fun h => (by rw [h] at hr; cases hr), fun j hj => ?_⟩
    by_cases hji : j = i
    · subst hji; exact hy.wpOp hi (hCi L w hcl (mem_ready.1 hr).1 hR) H
    · have h1 := H.2.2 j (ready_mono hj hji)
      obtain ⟨hjun, oj, hoj, hall⟩ := mem_ready.1 hj
      have hnot : ∀ e ∈ oj.after, Region.binds .any e = true → e.on ≠ i := fun e he hb heq => by
        have h1 := hall e he hb
        have h0 := (mem_ready.1 hr).1
        rw [heq] at h1
        rcases Nat.lt_or_ge i L.size with h' | h'
        · simp [h'] at h0 h1; rw [h0] at h1; cases h1
        · simp [Array.getElem?_eq_none h'] at h1
      have h2 := wpOpC_put hoj (hfree j oj hoj hji hjun hnot) (fun cs b => hsel i oi cs b hi) (fun cs b => hsel j oj cs b hoj) hy h1
      have hfree' : ∀ k ok, ops[k]? = some ok → k ≠ i → (L.setIfInBounds j true).getD k true = false →
          (∀ e ∈ ok.after, Region.binds .any e = true → e.on ≠ i) → oi.apart ops ok = true := fun k ok hk hki hun hno => by
        refine hfree k ok hk hki ?_ hno
        by_cases hjk : j = k
        · subst hjk; exact hjun
        · rw [getD_set_ne true hjk] at hun; exact hun
      refine wpOp_mono (fun a' w' h3 => ?_) h2
      have h4 := h3.2
      rw [Array.setIfInBounds_comm _ _ (Ne.symm hji)] at h4
      exact ih (L.setIfInBounds j true) a' w' hfree' (ready_mono hr (Ne.symm hji)) (hcl.add hj) (hRi _ _ h4.rel) h3.1 h4

/-- A plan of a region: what reads (x: told in this world alone), and what acts (k: the class is kept behind it), with all that may act in its place. -/
inductive Plan where
  | nil
  | rd (x : Bool) (i : Nat) (r : Plan)
  | act (k : Bool) (i : Nat) (r m : Plan)
def Plan.acts : Plan → List Nat
  | .act _ i _ m => i :: m.acts
  | _ => []
/-- What is static of a region: its forerunners, what acts, behind what the class need not hold. -/
structure Marks where
  F : List (List Nat)
  effs : List Nat
  z : Option Nat
def Marks.shut (M : Marks) (L : Array Bool) : Bool := match M.z with | some z => L.getD z false | none => false
def okP (ops : Array Oper) (M : Marks) : Bool → Nat → Plan → Array Bool → Bool
  | false, f, .nil, L => Nat.beq f 0 && (Region.ready .any ops L).isEmpty
  | true, _, .nil, _ => true
  | false, 0, .rd _ _ _, _ => false
  | false, f + 1, .rd x i r, L => (Region.ready .any ops L).contains i && Region.free .any ops L i && !M.effs.contains i &&
      (bif x then M.effs.all (fun j => Nat.blt j ops.size && (L.getD j false || (M.F.getD j []).contains i)) else (match M.z with | some z => M.effs.contains z && Nat.blt z ops.size && (M.F.getD z []).contains i | none => true)) && okP ops M false f r (L.setIfInBounds i true)
  | true, _, .rd _ _ _, _ => false
  | false, 0, .act _ _ _ _, _ => false
  | false, f + 1, .act k i r m, L => (Region.ready .any ops L).all (fun j => (i :: m.acts).contains j) && (Region.ready .any ops L).contains i && M.effs.contains i && (k || M.shut (L.setIfInBounds i true)) && okP ops M false f r (L.setIfInBounds i true) && okP ops M true f m L
  | true, f, .act k i r m, L => (Region.ready .any ops L).contains i && M.effs.contains i && (k || M.shut (L.setIfInBounds i true)) && okP ops M false f r (L.setIfInBounds i true) && okP ops M true f m L
def XW (P : Program) (ops : Array Oper) (C : World → Prop) (Q : Act → World → Prop) : Bool → Plan → Act → World → Prop
  | false, .nil, a, w => Q a w
  | true, .nil, _, _ => True
  | _, .rd x i r, a, w => ∃ o, ops[i]? = some o ∧ ∃ v, Tells P ops (fun w' => bif x then w' = w else C w') o a v ∧ XW P ops C Q false r (a.put o.dst v) w
  | _, .act k i r m, a, w => wpOp P ops NoQ i (fun a' w' => (k = true → C w') ∧ XW P ops C Q false r a' w') a w ∧ XW P ops C Q true m a w
def RX (M : Marks) (C : World → Prop) (L0 : Array Bool) (w0 : World) (L : Array Bool) (w : World) : Prop :=
  (M.shut L = false → C w) ∧ (∀ j, L0.getD j false = true → L.getD j false = true) ∧ ((∀ j, M.effs.contains j = true → L.getD j false = L0.getD j false) → w = w0)
theorem shut_ne {M : Marks} {L : Array Bool} {i : Nat} (h : ∀ z, M.z = some z → i ≠ z) : M.shut (L.setIfInBounds i true) = M.shut L := by
  unfold Marks.shut
  cases hz : M.z with
  | none => rfl
  | some z => simp only; rw [getD_set_ne false (h z hz)]
theorem getD_set_self {L : Array Bool} {i : Nat} (h : i < L.size) : (L.setIfInBounds i true).getD i false = true := by simp [h]
theorem XW_any {M : Marks} {C : World → Prop} {Q : Act → World → Prop} (hs : Region.noSelect ops = true) (hF : okF ops M.F = true) (hz : ∀ z, M.z = some z → M.effs.contains z = true) : ∀ (p : Plan),
    (∀ (f : Nat) (L : Array Bool) (a : Act) (w : World), okP ops M false f p L = true → Cl ops L → (M.shut L = false → C w) → XW P ops C Q false p a w → wpAnyR P ops (RX M C L w) Q f L a w) ∧
    (∀ (f : Nat) (L : Array Bool) (a : Act) (w : World), okP ops M true f p L = true → Cl ops L → (M.shut L = false → C w) → XW P ops C Q true p a w → ∀ j ∈ p.acts, wpOp P ops NoQ j (wpAnyR P ops (RX M C L w) Q f (L.setIfInBounds j true)) a w) := by
  intro p
  induction p with
  | nil =>
    refine ⟨fun f L a w hok hcl hC h => ?_, fun f L a w hok hcl hC h j hj => by cases hj⟩
    simp only [okP, Bool.and_eq_true, List.isEmpty_iff] at hok
    have := Nat.eq_of_beq_eq_true hok.1
    subst this
    exact ⟨⟨hC, fun j h => h, fun _ => rfl⟩, hok.2, h⟩
  | rd x i r ih =>
    refine ⟨fun f L a w hok hcl hC h => ?_, fun f L a w hok hcl hC h j hj => by cases hj⟩
    cases f with
    | zero => simp [okP] at hok
    | succ f =>
      simp only [okP, Bool.and_eq_true] at hok
      obtain ⟨⟨⟨⟨h1, h2⟩, h3⟩, h4⟩, h5⟩ := hok
      obtain ⟨o, ho, v, ht, hx⟩ := h
      have hr : i ∈ Region.ready .any ops L := by simpa using h1
      have hnot : ∀ j, M.effs.contains j = true → i ≠ j := fun j hj e => by subst e; rw [hj] at h3; cases h3
      have hsh : ∀ L : Array Bool, M.shut (L.setIfInBounds i true) = M.shut L := fun L => shut_ne (fun z hz' => hnot z (hz z hz'))
      have hun := ready_un hr
      have h6 := ih.1 f (L.setIfInBounds i true) _ w h5 (hcl.add hr) (by rw [hsh]; exact hC) hx
      refine wpAnyR_first (Ci := fun w' => bif x then w' = w else C w') ho (Region.noSelect_spec hs) ?_ ?_ f L a w (Region.free_spec ho h2) hr hcl ⟨hC, fun j h => h, fun _ => rfl⟩ ht (h6.mono ?_)
      · rintro L' w' ⟨k1, k2, k3⟩
        refine ⟨by rw [hsh] at k1; exact k1, fun j hj => ?_, fun hh => k3 (fun j hj => ?_)⟩
        · have h7 := k2 j hj
          have hne : i ≠ j := fun e => by subst e; rw [hun.1] at hj; cases hj
          rw [getD_set_ne false hne] at h7; exact h7
        · rw [getD_set_ne false (hnot j hj)]; exact hh j hj
      · rintro L' w' hcl' hun' ⟨k1, k2, k3⟩
        have hunf : L'.getD i false = false := by
          rcases Nat.lt_or_ge i L'.size with h' | h'
          · simp [h'] at hun' ⊢; exact hun'
          · rw [Array.getD_eq_getD_getElem?, Array.getElem?_eq_none h'] at hun'; cases hun'
        cases x with
        | true =>
          refine k3 (fun j hj => ?_)
          simp only [cond_true, List.all_eq_true] at h4
          have h7 := h4 j (by simpa using hj)
          simp only [Bool.and_eq_true, Bool.or_eq_true] at h7
          obtain ⟨h8, h9⟩ := h7
          rcases h9 with h9 | h9
          · rw [h9]; exact k2 j h9
          · have hjs : j < ops.size := by simp [Nat.blt] at h8; omega
            have e1 : L'.getD j false = false := by
              cases hq : L'.getD j false with
              | false => rfl
              | true => have := Cl.fore hF hcl' j i hjs h9 hq; rw [hunf] at this; cases this
            have e2 : L.getD j false = false := by
              cases hq : L.getD j false with
              | false => rfl
              | true => have := k2 j hq; rw [e1] at this; cases this
            rw [e1, e2]
        | false =>
          refine k1 ?_
          simp only [cond_false] at h4
          unfold Marks.shut
          cases hzz : M.z with
          | none => rfl
          | some z =>
            rw [hzz] at h4
            simp only [Bool.and_eq_true] at h4
            obtain ⟨⟨_, h8⟩, h9⟩ := h4
            have hjs : z < ops.size := by simp [Nat.blt] at h8; omega
            simp only
            cases hq : L'.getD z false with
            | false => rfl
            | true => have := Cl.fore hF hcl' z i hjs h9 hq; rw [hunf] at this; cases this
      · rintro L' w' ⟨k1, k2, k3⟩
        refine ⟨k1, fun j hj => k2 j (getD_set_true hj), fun hh => k3 (fun j hj => ?_)⟩
        rw [getD_set_ne false (hnot j hj)]; exact hh j hj
  | act k i r m ihr ihm =>
    have one : ∀ (f : Nat) (L : Array Bool) (a : Act) (w : World), i ∈ Region.ready .any ops L → M.effs.contains i = true → (k || M.shut (L.setIfInBounds i true)) = true → okP ops M false f r (L.setIfInBounds i true) = true → Cl ops L →
        wpOp P ops NoQ i (fun a' w' => (k = true → C w') ∧ XW P ops C Q false r a' w') a w → wpOp P ops NoQ i (wpAnyR P ops (RX M C L w) Q f (L.setIfInBounds i true)) a w := by
      intro f L a w hr he hk hok hcl h
      refine wpOp_mono (fun a' w' h' => ?_) h
      have hun := ready_un hr
      refine (ihr.1 f (L.setIfInBounds i true) a' w' hok (hcl.add hr) (fun hsh => ?_) h'.2).mono ?_
      · rcases Bool.or_eq_true_iff.1 hk with hk | hk
        · exact h'.1 hk
        · rw [hsh] at hk; cases hk
      · rintro L' w'' ⟨k1, k2, k3⟩
        refine ⟨k1, fun j hj => k2 j (getD_set_true hj), fun hh => ?_⟩
        exfalso
        have h8 := k2 i (getD_set_self hun.2.2)
        rw [hh i he, hun.1] at h8
        cases h8
    refine ⟨fun f L a w hok hcl hC h => ?_, fun f L a w hok hcl hC h j hj => ?_⟩
    · cases f with
      | zero => simp [okP] at hok
      | succ f =>
        simp only [okP, Bool.and_eq_true] at hok
        obtain ⟨⟨⟨⟨⟨h1, h2⟩, h3⟩, h4⟩, h5⟩, h6⟩ := hok
        have hr : i ∈ Region.ready .any ops L := by simpa using h2
        refine ⟨⟨hC, fun j h => h, fun _ => rfl⟩, fun e => (by rw [e] at hr; cases hr), fun j hj => ?_⟩
        rw [List.all_eq_true] at h1
        have h7 := h1 j hj
        have h8 : j = i ∨ j ∈ m.acts := by simpa using h7
        rcases h8 with rfl | h8
        · exact one f L a w hr h3 h4 h5 hcl h.1
        · exact ihm.2 f L a w h6 hcl hC h.2 j h8
    · simp only [okP, Bool.and_eq_true] at hok
      obtain ⟨⟨⟨⟨h2, h3⟩, h4⟩, h5⟩, h6⟩ := hok
      have hr : i ∈ Region.ready .any ops L := by simpa using h2
      have h8 : j = i ∨ j ∈ m.acts := by simpa [Plan.acts] using hj
      rcases h8 with rfl | h8
      · exact one f L a w hr h3 h4 h5 hcl h.1
      · exact ihm.2 f L a w h6 hcl hC h.2 j h8

/-- The walk. -/
def WX (P : Program) (ops : Array Oper) (C : World → Prop) (Q : Act → World → Prop) (b : Bool) (l : Plan) (n : Nat) (E : Env) (w : World) : Prop := ∀ a, Agr n E a → XW P ops C Q b l a w
variable {Q : Exit → Act → World → Prop} {C : World → Prop} {QX : Act → World → Prop} {n : Nat} {E : Env} {w : World} {l m : Plan} {i : Nat} {bb xx kk : Bool}
theorem XW_rd {QX : Act → World → Prop} {bb xx : Bool} {r : Plan} {a : Act} (h : ∃ o, ops[i]? = some o ∧ ∃ v, Tells P ops (fun w' => bif xx then w' = w else C w') o a v ∧ XW P ops C QX false r (a.put o.dst v) w) : XW P ops C QX bb (.rd xx i r) a w := by cases bb <;> exact h
theorem XW_act {QX : Act → World → Prop} {bb kk : Bool} {r m : Plan} {a : Act} (h : wpOp P ops NoQ i (fun a' w' => (kk = true → C w') ∧ XW P ops C QX false r a' w') a w ∧ XW P ops C QX true m a w) : XW P ops C QX bb (.act kk i r m) a w := by cases bb <;> exact h
theorem WC_order (ord : Plan) (F : List (List Nat)) (effs : List Nat) (z : Option Nat) (C : World → Prop) {id : Nat} {l : List Oper} (hm : P.follows .mixedOrders = true) (hs : (Region.noSelect l.toArray && okF l.toArray F && (match z with | some z => effs.contains z | none => true) && okP l.toArray ⟨F, effs, z⟩ false l.length ord (Array.replicate l.length false)) = true) (hC0 : ∀ w', Ext w w' → C w')
    (h0 : ∀ w', Ext w w' → WX P l.toArray C (Q .normal) false ord n E w') : WC P Q (.region id l.toArray true) n E w := by
  intro a ha
  have hC := hC0 w.drew (Ext.drew w)
  have h := h0 w.drew (Ext.drew w)
  simp only [Bool.and_eq_true] at hs
  obtain ⟨⟨⟨h1, h2⟩, h3⟩, h4⟩ := hs
  have h5 := (XW_any (M := ⟨F, effs, z⟩) (C := C) (Q := Q .normal) h1 h2 (fun z' hz => by simp only at hz; subst hz; exact h3) ord).1 l.length (Array.replicate l.length false) a w.drew h4
    (fun j k hj _ => by
      rw [Array.getD_eq_getD_getElem?, Array.getElem?_replicate] at hj
      split at hj <;> cases hj) (fun _ => hC) (h a ha)
  refine wp_region_any hm ?_
  simpa using h5.any

theorem WC_orderE (ord : Plan) (F : List (List Nat)) (effs : List Nat) (z : Option Nat) (id : Nat) {l : List Oper} (hm : P.follows .mixedOrders = true) (hs : (Region.noSelect l.toArray && okF l.toArray F && (match z with | some z => effs.contains z | none => true) && okP l.toArray ⟨F, effs, z⟩ false l.length ord (Array.replicate l.length false)) = true)
    (h0 : ∀ w', Ext w w' → w.heap.size ≤ w'.heap.size → WX P l.toArray (fun w' => Ext w w') (Q .normal) false ord n E w') : WC P Q (.region id l.toArray true) n E w :=
  WC_order ord F effs z (fun w' => Ext w w') hm hs (fun _ h => h) (fun w' h => h0 w' h h.size)
theorem WC_orderW (w0 : World) (ord : Plan) (F : List (List Nat)) (effs : List Nat) (z : Option Nat) (id : Nat) {l : List Oper} (hm : P.follows .mixedOrders = true) (hs : (Region.noSelect l.toArray && okF l.toArray F && (match z with | some z => effs.contains z | none => true) && okP l.toArray ⟨F, effs, z⟩ false l.length ord (Array.replicate l.length false)) = true) (hw : Ext w0 w)
    (h0 : ∀ w', Ext w w' → w.heap.size ≤ w'.heap.size → WX P l.toArray (fun w' => Ext w0 w') (Q .normal) false ord n E w') : WC P Q (.region id l.toArray true) n E w :=
  WC_order ord F effs z (fun w' => Ext w0 w') hm hs (fun _ h => hw.then h) (fun w' h => h0 w' h h.size)
theorem WC_orderT (ord : Plan) (F : List (List Nat)) (effs : List Nat) (id : Nat) {l : List Oper} (hm : P.follows .mixedOrders = true) (hs : (Region.noSelect l.toArray && okF l.toArray F && (match (none : Option Nat) with | some z => effs.contains z | none => true) && okP l.toArray ⟨F, effs, none⟩ false l.length ord (Array.replicate l.length false)) = true)
    (h0 : ∀ w', Ext w w' → w.heap.size ≤ w'.heap.size → WX P l.toArray (fun _ => True) (Q .normal) false ord n E w') : WC P Q (.region id l.toArray true) n E w :=
  WC_order ord F effs none (fun _ => True) hm hs (fun _ _ => trivial) (fun w' h => h0 w' h h.size)
theorem WX_nil {Q : Exit → Act → World → Prop} (h : WQ Q .normal n E w) : WX P ops C (Q .normal) false .nil n E w := fun a ha => h a ha
theorem WX_off {o : Oper} {d : Nat} (ho : nthO ops.toList i = some o) (hd : o.dst = some d) (hdn : Nat.ble (d + 1) n = true) (hw : wants ops E o.guard = some false) (h : WX P ops C QX false l n ((d, undef) :: E) w) : WX P ops C QX bb (.rd xx i l) n E w := by
  intro a ha
  refine XW_rd ?_
  refine ⟨o, nthO_get ho, undef, .inr ⟨wants_spec ha hw, rfl⟩, ?_⟩
  rw [hd]; exact h _ (ha.put (Nat.le_of_ble_eq_true hdn) _)
theorem WX_altnil : WX P ops C QX true .nil n E w := fun _ _ => by unfold XW; trivial
theorem WX_offE {o : Oper} {d : Nat} (ho : nthO ops.toList i = some o) (hd : o.dst = some d) (hdn : Nat.ble (d + 1) n = true) (hw : wants ops E o.guard = some false) (hC : kk = true → C w) (h : WX P ops C QX false l n ((d, undef) :: E) w) (hm : WX P ops C QX true m n E w) : WX P ops C QX bb (.act kk i l m) n E w := by
  intro a ha
  have key : wpOp P ops NoQ i (fun a' w' => (kk = true → C w') ∧ XW P ops C QX false l a' w') a w := by
    unfold wpOp
    simp only [nthO_get ho, wants_spec ha hw, Bool.false_eq_true, if_false]
    rw [hd]; exact ⟨hC, h _ (ha.put (Nat.le_of_ble_eq_true hdn) _)⟩
  exact XW_act ⟨key, hm a ha⟩
theorem WX_offN {o : Oper} (ho : nthO ops.toList i = some o) (hd : o.dst = none) (hw : wants ops E o.guard = some false) (hC : kk = true → C w) (h : WX P ops C QX false l n E w) (hm : WX P ops C QX true m n E w) : WX P ops C QX bb (.act kk i l m) n E w := by
  intro a ha
  have key : wpOp P ops NoQ i (fun a' w' => (kk = true → C w') ∧ XW P ops C QX false l a' w') a w := by
    unfold wpOp
    simp only [nthO_get ho, wants_spec ha hw, Bool.false_eq_true, if_false]
    rw [hd]; exact ⟨hC, h _ ha⟩
  exact XW_act ⟨key, hm a ha⟩
theorem WX_pure {o : Oper} {d : Nat} {v : Value} (ho : nthO ops.toList i = some o) (hd : o.dst = some d) (hdn : Nat.ble (d + 1) n = true) (hw : wants ops E o.guard = some true) (hp : pureOp E o.op = some v)
    (h : WX P ops C QX false l n ((d, v) :: E) w) : WX P ops C QX bb (.rd xx i l) n E w := by
  intro a ha
  refine XW_rd ?_
  refine ⟨o, nthO_get ho, v, .inl ⟨wants_spec ha hw, fun w' _ => pureOp_run ha hp w'⟩, ?_⟩
  rw [hd]; exact h _ (ha.put (Nat.le_of_ble_eq_true hdn) _)
theorem WX_ar {o : Oper} {d : Nat} {m : Int} (ho : nthO ops.toList i = some o) (hd : o.dst = some d) (hdn : Nat.ble (d + 1) n = true) (hw : wants ops E o.guard = some true) (hp : pureOp E o.op = some (.int .i64 (IntKind.i64.wrap m))) (hb : -9223372036854775808 ≤ m ∧ m ≤ 9223372036854775807)
    (h : WX P ops C QX false l n ((d, .int .i64 m) :: E) w) : WX P ops C QX bb (.rd xx i l) n E w := by
  rw [wrap_id_i64 hb.1 hb.2] at hp
  exact WX_pure ho hd hdn hw hp h
theorem WX_arU {o : Oper} {d : Nat} {m : Int} (ho : nthO ops.toList i = some o) (hd : o.dst = some d) (hdn : Nat.ble (d + 1) n = true) (hw : wants ops E o.guard = some true) (hp : pureOp E o.op = some (.int .u64 (IntKind.u64.wrap m))) (hb : 0 ≤ m ∧ m ≤ 18446744073709551615)
    (h : WX P ops C QX false l n ((d, .int .u64 m) :: E) w) : WX P ops C QX bb (.rd xx i l) n E w := by
  rw [wrap_id_u64 hb.1 hb.2] at hp
  exact WX_pure ho hd hdn hw hp h
theorem DR_tells {o : Oper} {d : Nat} {v : Value} {a : Act} (hd : o.dst = some d) (hdn : Nat.ble (d + 1) n = true) (hw : wants ops E o.guard = some true) (hr : reads1 o.op = true) (ha : Agr n E a) {C' : World → Prop}
    (h1 : ∀ w, C' w → WL P ops (DR w d v) [o] n E w) : Tells P ops C' o a v := by
  refine .inl ⟨wants_spec ha hw, fun w' hC => ?_⟩
  have h2 := h1 w' hC a ha
  unfold wpList at h2
  rw [if_pos (wants_spec ha hw)] at h2
  rcases h2 with h2 | h2
  · unfold Oper.wp at h2
    cases hx : (execOp a.eval o).run P w' with
    | ok nx w'' =>
      obtain ⟨u, rfl⟩ := reads1_value hr hx
      rw [hx] at h2
      have h3 : DR w' d v .normal (a.put o.dst u) w'' := h2
      rw [hd] at h3
      obtain ⟨_, _, e1, e2⟩ := h3
      have e3 : (a.put (some d) u).tmps.getD d undef = u := by
        have hlt : d < n := Nat.le_of_ble_eq_true hdn
        simp [Act.put, Array.getD_eq_getD_getElem?, ha.1, hlt]
      rw [e3] at e2
      rw [e1, e2]
    | halt x w'' =>
      rw [hx] at h2
      cases x with
      | panic u => have h3 : DR w' d v (.panic _) _ _ := h2; cases h3.1
      | _ => exact h2.elim
  · obtain ⟨_, _, h3⟩ := h2.2
    cases h3.1
/-- A reader: told in every world of the class; -/
theorem WX_read {o : Oper} {d : Nat} {v : Value} (ho : nthO ops.toList i = some o) (hd : o.dst = some d) (hdn : Nat.ble (d + 1) n = true) (hw : wants ops E o.guard = some true) (hr : reads1 o.op = true)
    (h1 : ∀ w', C w' → WL P ops (DR w' d v) [o] n E w') (h : WX P ops C QX false l n ((d, v) :: E) w) : WX P ops C QX bb (.rd false i l) n E w := by
  intro a ha
  refine XW_rd ?_
  refine ⟨o, nthO_get ho, v, DR_tells hd hdn hw hr ha (fun w' hC => h1 w' hC), ?_⟩
  rw [hd]; exact h _ (ha.put (Nat.le_of_ble_eq_true hdn) _)
/-- a reader for which all that acts waits: told in this world. -/
theorem WX_readT {o : Oper} {d : Nat} {v : Value} (ho : nthO ops.toList i = some o) (hd : o.dst = some d) (hdn : Nat.ble (d + 1) n = true) (hw : wants ops E o.guard = some true) (hr : reads1 o.op = true)
    (h1 : WL P ops (DR w d v) [o] n E w) (h : WX P ops C QX false l n ((d, v) :: E) w) : WX P ops C QX bb (.rd true i l) n E w := by
  intro a ha
  refine XW_rd ?_
  refine ⟨o, nthO_get ho, v, DR_tells hd hdn hw hr ha (fun w' hC => by
    have : w' = w := hC
    subst this; exact h1), ?_⟩
  rw [hd]; exact h _ (ha.put (Nat.le_of_ble_eq_true hdn) _)
theorem WX_len {d : Nat} {ty : TypeId} {pos : String} {aft : Array Edge} {g : Option (Nat × Bool)} {t : TypeId} {e s b : Nat} [hT : TSlice P t e s b] {x : Operand} {A : Option Addr} {m c : Nat} (ho : nthO ops.toList i = some ⟨some d, .call { callee := .builtin .len, args := #[x], argTypes := #[t] }, ty, pos, aft, g⟩) (hdn : Nat.ble (d + 1) n = true) (hw : wants ops E g = some true) (hx : evE E x = some (.slice A m c))
    (h : WX P ops C QX false l n ((d, .int .i64 (m : Int)) :: E) w) : WX P ops C QX bb (.rd xx i l) n E w := by
  intro a ha
  refine XW_rd ?_
  refine ⟨_, nthO_get ho, .int .i64 (m : Int), .inl ⟨wants_spec ha hw, fun w' _ => ?_⟩, h _ (ha.put (Nat.le_of_ble_eq_true hdn) _)⟩
  have hl : (Builtin.len_ #[t] ty #[.slice A m c]).run P w' = .ok (goInt m) w' := by simp [Builtin.len_, run_underlying hT.out]
  unfold execOp
  simp [resolve, invoke, builtin, evE_eval ha hx, hl, goInt]
/-- What acts: walked alone, from this world. -/
def XQ (K : Act → World → Prop) : Exit → Act → World → Prop := fun e a w => e = .normal ∧ K a w
theorem WX_eff {o : Oper} (ho : nthO ops.toList i = some o) (h : ∀ K : Act → World → Prop, (∀ n' E' w', n' = n → (kk = true → C w') → WX P ops C QX false l n' E' w' → ∀ a, Agr n' E' a → K a w') → WL P ops (XQ K) [o] n E w) (hm : WX P ops C QX true m n E w) : WX P ops C QX bb (.act kk i l m) n E w := by
  intro a ha
  have h1 := h (fun a' w' => (kk = true → C w') ∧ XW P ops C QX false l a' w') (fun n' E' w' _ hC hx a' ha' => ⟨hC, hx a' ha'⟩) a ha
  refine XW_act ⟨?_, hm a ha⟩
  unfold wpOp
  simp only [nthO_get ho]
  unfold wpList at h1
  split at h1
  · rename_i hw
    rw [if_pos hw]
    left
    rcases h1 with h1 | h1
    · have key : ∀ {K : Act → World → Prop}, o.wp P a w (fun a' w' => XQ K .normal a' w') (XQ K) → o.wp P a w K NoQ := by
        intro K hh
        unfold Oper.wp at *
        generalize (execOp a.eval o).run P w = r at *
        cases r with
        | ok x w' =>
          cases x <;> simp only [Oper.upon] at hh ⊢ <;> first
            | exact hh.2
            | exact Rows.mono hh (fun u w'' he => he.2)
            | (refine Calls.mono hh (fun e w'' he => ?_)
               cases e with
               | returned v => exact he.2
               | panicked ch => cases he.1
               | outgrown => obtain ⟨_, _, he'⟩ := he; cases he'.1)
            | exact hh
        | halt x w' =>
          cases x <;> simp only [Oper.upon] at hh ⊢ <;> first | exact hh | (cases hh.1)
      exact key h1
    · obtain ⟨_, _, _, h3⟩ := h1
      cases h3.1
  · rename_i hw
    rw [if_neg hw]
    exact h1.2
theorem WX_eff1 {o : Oper} (ho : nthO ops.toList i = some o) (h : ∀ K : Act → World → Prop, (∀ n' E' w', n' = n → (kk = true → C w') → WX P ops C QX false l n' E' w' → ∀ a, Agr n' E' a → K a w') → WL P ops (XQ K) [o] n E w) : WX P ops C QX bb (.act kk i l .nil) n E w :=
  WX_eff ho h WX_altnil
theorem WQ_x {K : Act → World → Prop} {n0 : Nat} (hK : ∀ n' E' w', n' = n0 → (kk = true → C w') → WX P ops C QX false l n' E' w' → ∀ a, Agr n' E' a → K a w') (hn : n = n0) (hC : kk = true → C w) (h : WX P ops C QX false l n E w) : WQ (XQ K) .normal n E w :=
  fun a ha => ⟨rfl, hK n E w hn hC h a ha⟩
theorem WX_guard {o : Oper} {j : Nat} {b : Bool} {o' : Oper} {d : Nat} {c : Bool} (hi : nthO ops.toList i = some o) (hg : o.guard = some (j, b)) (ho : nthO ops.toList j = some o') (hd : o'.dst = some d) (hl : lk E d = some (.bool c))
    (ht : c = true → WX P ops C QX bb (.rd xx i l) n ((d, .bool true) :: E) w) (hf : c = false → WX P ops C QX bb (.rd xx i l) n ((d, .bool false) :: E) w) : WX P ops C QX bb (.rd xx i l) n E w := by
  intro a ha
  have hsub : ∀ c', c = c' → Agr n ((d, .bool c') :: E) a := fun c' e => ⟨ha.1, ha.2.1, fun t v hv => by
    unfold lk at hv
    cases hb : Nat.beq d t with
    | true =>
      rw [hb] at hv
      have := Nat.eq_of_beq_eq_true hb
      subst this; subst e
      simp only [cond_true, Option.some.injEq] at hv
      rw [← hv]; exact ha.2.2 _ _ hl
    | false => rw [hb] at hv; exact ha.2.2 t v hv⟩
  cases hc : c with
  | true => exact ht hc a (hsub _ hc)
  | false => exact hf hc a (hsub _ hc)
theorem WX_guardE {o : Oper} {j : Nat} {b : Bool} {o' : Oper} {d : Nat} {c : Bool} (hi : nthO ops.toList i = some o) (hg : o.guard = some (j, b)) (ho : nthO ops.toList j = some o') (hd : o'.dst = some d) (hl : lk E d = some (.bool c))
    (ht : c = true → WX P ops C QX bb (.act kk i l m) n ((d, .bool true) :: E) w) (hf : c = false → WX P ops C QX bb (.act kk i l m) n ((d, .bool false) :: E) w) : WX P ops C QX bb (.act kk i l m) n E w := by
  intro a ha
  have hsub : ∀ c', c = c' → Agr n ((d, .bool c') :: E) a := fun c' e => ⟨ha.1, ha.2.1, fun t v hv => by
    unfold lk at hv
    cases hb : Nat.beq d t with
    | true =>
      rw [hb] at hv
      have := Nat.eq_of_beq_eq_true hb
      subst this; subst e
      simp only [cond_true, Option.some.injEq] at hv
      rw [← hv]; exact ha.2.2 _ _ hl
    | false => rw [hb] at hv; exact ha.2.2 t v hv⟩
  cases hc : c with
  | true => exact ht hc a (hsub _ hc)
  | false => exact hf hc a (hsub _ hc)
theorem WX_decided {o : Oper} (ho : nthO ops.toList i = some o) (hw : wants ops E o.guard = some true) (h : WX P ops C QX bb (.rd xx i l) n E w) : WX P ops C QX bb (.rd xx i l) n E w := h
theorem WX_isT (h : WX P ops C QX bb (.rd true i l) n E w) : WX P ops C QX bb (.rd true i l) n E w := h
theorem WX_isF (h : WX P ops C QX bb (.rd false i l) n E w) : WX P ops C QX bb (.rd false i l) n E w := h
theorem WX_isRd {x : Bool} (h : WX P ops C QX bb (.rd x i l) n E w) : WX P ops C QX bb (.rd x i l) n E w := h
theorem WX_isAct (h : WX P ops C QX bb (.act kk i l m) n E w) : WX P ops C QX bb (.act kk i l m) n E w := h
theorem WX_is {b : Bool} {p : Plan} (h : WX P ops C QX b p n E w) : WX P ops C QX b p n E w := h
end

theorem Blk.cells0 {w : World} {b : Nat} {cs : List Value} {T : TypeId} (h : Blk w b cs T) : Cells w (some ⟨b, 0, none⟩) cs := by have := h.cells 0; simpa using this
theorem own_cap {w : World} {base n : Nat} {e : TypeId} {size : Nat} {A : Option Addr} {m c : Nat} {xs : List Value} (h : w.ownsRow base e size (.slice A m c) n xs) : m ≤ c ∧ c ≤ 9223372036854775807 := by
  obtain ⟨_, h2⟩ := h
  rcases h2 with ⟨h2, _⟩ | ⟨g, cap, cur, h2, _, _, h3, h4, _, _⟩
  · cases h2; omega
  · cases h2; unfold maxLen at h4; omega
/-- A row of one's own stays where another one, of an older block, grows. -/
theorem own_grown {w w' : World} {base n : Nat} {e : TypeId} {size : Nat} {v v2 : Value} {xs : List Value} (k : w.grownBy w' v2.ownBlock) (h : w.ownsRow base e size v n xs) (hb : ∀ g, v2.ownBlock = some g → g < base) : w'.ownsRow base e size v n xs := by
  obtain ⟨hl, h2⟩ := h
  refine ⟨hl, ?_⟩
  rcases h2 with h2 | ⟨g, cap, cur, e1, hbg, hg, h3⟩
  · exact .inl h2
  · exact .inr ⟨g, cap, cur, e1, hbg, (k.block g (Array.getElem?_eq_some_iff.1 hg).1 (fun e => by have := hb g e.symm; omega)).trans hg, h3⟩
/-! ### cuts -/
def cutA (A : Option Addr) (s lo m : Nat) : Option Addr := if m = lo then A else A.map (·.add (lo * s))
theorem Cells.cut {w : World} {A : Option Addr} {cs : List Value} (h : Cells w A cs) (s lo hi m : Nat) (hm : hi ≤ m) : Cells w (cutA A s lo m) ((cs.drop (lo * s)).take ((hi - lo) * s)) :=
  cut_mk A s lo hi m hm w cs h
theorem Cells.cutI {w : World} {A : Option Addr} {k : IntKind} {xs : List Int} (h : Cells w A (xs.map (.int k))) (lo hi m : Nat) (hm : hi ≤ m) : Cells w (cutA A 1 lo m) (((xs.drop lo).take (hi - lo)).map (.int k)) := by
  have := h.cut 1 lo hi m hm
  rw [Nat.mul_one, Nat.mul_one, ← List.map_drop, ← List.map_take] at this
  exact this
theorem cutA_none (s lo m : Nat) : cutA none s lo m = none := by unfold cutA; split <;> rfl
section
variable {P : Program} {ops : Array Oper} {Q : Exit → Act → World → Prop} {n : Nat} {E : Env} {w : World} {l : List Oper}
variable {dd : Option Tmp} {d : Nat} {ty : TypeId} {pos : String} {aft : Array Edge} {g : Option (Nat × Bool)}
theorem WL_cut {t e s b : Nat} [hT : TSlice P t e s b] {x : Operand} {lo hi mx : Option Operand} {A : Option Addr} {len c : Nat} {lo' hi' mx' : Option Value} {L H M : Nat}
    (hdn : Nat.ble (d + 1) n = true) (hw : wants ops E g = some true) (hx : evE E x = some (.slice A len c))
    (hlo : lo.map (evE E) = lo'.map some) (hhi : hi.map (evE E) = hi'.map some) (hmx : mx.map (evE E) = mx'.map some)
    (hb : (Instr.sliceBounds true len c lo' hi' mx').run P w = .ok (L, H, M) w)
    (h : WL P ops Q l n ((d, .slice (cutA A s L M) (H - L) (M - L)) :: E) w) : WL P ops Q (⟨some d, .slice t x lo hi mx, ty, pos, aft, g⟩ :: l) n E w := by
  refine WL_val rfl hdn hw _ w (fun a ha => ?_) h
  have ev : ∀ (o : Option Operand) (o' : Option Value), o.map (evE E) = o'.map some → o.map a.eval = o' := by
    intro o o' hh
    cases o <;> cases o' <;> simp_all
    rename_i q q'
    exact evE_eval ha hh
  unfold execOp
  simp only [evE_eval ha hx, ev _ _ hlo, ev _ _ hhi, ev _ _ hmx, Sem.run_bind, run_slice_gen (P := P) (s := s) (e := e) (b := b) hb, Result.andThen_ok]
  rfl
/-- x[:h], x[l:], x[l:h], x[:h:m], x[l:h:m], x[:] -/
theorem WL_cutH {t e s b : Nat} [hT : TSlice P t e s b] {x y : Operand} {A : Option Addr} {len c : Nat} {k : IntKind} {h : Int} (hdn : Nat.ble (d + 1) n = true) (hw : wants ops E g = some true) (hx : evE E x = some (.slice A len c)) (hy : evE E y = some (.int k h)) (h0 : 0 ≤ h) (h1 : h ≤ (c : Int))
    (hh : WL P ops Q l n ((d, .slice (cutA A s 0 c) h.toNat c) :: E) w) : WL P ops Q (⟨some d, .slice t x none (some y) none, ty, pos, aft, g⟩ :: l) n E w :=
  WL_cut (lo' := none) (hi' := some (.int k h)) (mx' := none) hdn hw hx rfl (by simp [hy]) rfl (sb_h (P := P) (w := w) (len := len) (H := h.toNat) (by omega) (by omega)) hh
theorem WL_cutL {t e s b : Nat} [hT : TSlice P t e s b] {x y : Operand} {A : Option Addr} {len c : Nat} {k : IntKind} {h : Int} (hdn : Nat.ble (d + 1) n = true) (hw : wants ops E g = some true) (hx : evE E x = some (.slice A len c)) (hy : evE E y = some (.int k h)) (h0 : 0 ≤ h) (h1 : h ≤ (len : Int))
    (hh : WL P ops Q l n ((d, .slice (cutA A s h.toNat c) (len - h.toNat) (c - h.toNat)) :: E) w) : WL P ops Q (⟨some d, .slice t x (some y) none none, ty, pos, aft, g⟩ :: l) n E w :=
  WL_cut (lo' := some (.int k h)) (hi' := none) (mx' := none) hdn hw hx (by simp [hy]) rfl rfl (sb_l (P := P) (w := w) (len := len) (L := h.toNat) (by omega) (by omega)) hh
theorem WL_cutLH {t e s b : Nat} [hT : TSlice P t e s b] {x y z : Operand} {A : Option Addr} {len c : Nat} {k k' : IntKind} {h h' : Int} (hdn : Nat.ble (d + 1) n = true) (hw : wants ops E g = some true) (hx : evE E x = some (.slice A len c)) (hy : evE E y = some (.int k h)) (hz : evE E z = some (.int k' h')) (h0 : 0 ≤ h) (h1 : h ≤ h') (h2 : h' ≤ (c : Int))
    (hh : WL P ops Q l n ((d, .slice (cutA A s h.toNat c) (h'.toNat - h.toNat) (c - h.toNat)) :: E) w) : WL P ops Q (⟨some d, .slice t x (some y) (some z) none, ty, pos, aft, g⟩ :: l) n E w :=
  WL_cut (lo' := some (.int k h)) (hi' := some (.int k' h')) (mx' := none) hdn hw hx (by simp [hy]) (by simp [hz]) rfl (sb_lh (P := P) (w := w) (len := len) (L := h.toNat) (H := h'.toNat) (by omega) (by omega) (by omega) (by omega)) hh
theorem WL_cutHM {t e s b : Nat} [hT : TSlice P t e s b] {x y z : Operand} {A : Option Addr} {len c : Nat} {k k' : IntKind} {h h' : Int} (hdn : Nat.ble (d + 1) n = true) (hw : wants ops E g = some true) (hx : evE E x = some (.slice A len c)) (hy : evE E y = some (.int k h)) (hz : evE E z = some (.int k' h')) (h0 : 0 ≤ h) (h1 : h ≤ h') (h2 : h' ≤ (c : Int))
    (hh : WL P ops Q l n ((d, .slice (cutA A s 0 h'.toNat) h.toNat h'.toNat) :: E) w) : WL P ops Q (⟨some d, .slice t x none (some y) (some z), ty, pos, aft, g⟩ :: l) n E w :=
  WL_cut (lo' := none) (hi' := some (.int k h)) (mx' := some (.int k' h')) hdn hw hx rfl (by simp [hy]) (by simp [hz]) (sb_hm (P := P) (w := w) (len := len) (H := h.toNat) (M := h'.toNat) (by omega) (by omega) (by omega) (by omega)) hh
theorem WL_cutLHM {t e s b : Nat} [hT : TSlice P t e s b] {x y z u : Operand} {A : Option Addr} {len c : Nat} {k k' k'' : IntKind} {h h' h'' : Int} (hdn : Nat.ble (d + 1) n = true) (hw : wants ops E g = some true) (hx : evE E x = some (.slice A len c)) (hy : evE E y = some (.int k h)) (hz : evE E z = some (.int k' h')) (hu : evE E u = some (.int k'' h'')) (h0 : 0 ≤ h) (h1 : h ≤ h') (h2 : h' ≤ h'') (h3 : h'' ≤ (c : Int))
    (hh : WL P ops Q l n ((d, .slice (cutA A s h.toNat h''.toNat) (h'.toNat - h.toNat) (h''.toNat - h.toNat)) :: E) w) : WL P ops Q (⟨some d, .slice t x (some y) (some z) (some u), ty, pos, aft, g⟩ :: l) n E w :=
  WL_cut (lo' := some (.int k h)) (hi' := some (.int k' h')) (mx' := some (.int k'' h'')) hdn hw hx (by simp [hy]) (by simp [hz]) (by simp [hu]) (sb_lhm (P := P) (w := w) (len := len) (L := h.toNat) (H := h'.toNat) (M := h''.toNat) (by omega) (by omega) (by omega) (by omega) (by omega) (by omega)) hh
theorem WL_cutAll {t e s b : Nat} [hT : TSlice P t e s b] {x : Operand} {A : Option Addr} {len c : Nat} (hdn : Nat.ble (d + 1) n = true) (hw : wants ops E g = some true) (hx : evE E x = some (.slice A len c))
    (hh : WL P ops Q l n ((d, .slice (cutA A s 0 c) len c) :: E) w) : WL P ops Q (⟨some d, .slice t x none none none, ty, pos, aft, g⟩ :: l) n E w :=
  WL_cut (lo' := none) (hi' := none) (mx' := none) hdn hw hx rfl rfl rfl (sb_all (P := P) (w := w)) hh

theorem WL_str2 {s e b t : Nat} [hT : TSlice P s e 1 b] [hI : TInt P e .u8] [hS : TStr P t] {x : Operand} {A : Option Addr} {len c : Nat} {xs : List Int} (hdn : Nat.ble (d + 1) n = true) (hw : wants ops E g = some true) (hx : evE E x = some (.slice A len c))
    (hc : Cells w A (xs.map (.int .u8))) (hl : xs.length = len) (h : WL P ops Q l n ((d, .string (strOfNums xs)) :: E) w) : WL P ops Q (⟨some d, .convert s t x, ty, pos, aft, g⟩ :: l) n E w := WL_str hdn hw hx hl hc h
def unU8 : List Value → Option (List Int)
  | [] => some []
  | .int .u8 x :: r => match unU8 r with
    | some l => some (x :: l)
    | none => none
  | _ => none
theorem unU8_map : ∀ {cs : List Value} {xs : List Int}, unU8 cs = some xs → cs = xs.map (.int .u8) := by
  intro cs
  induction cs with
  | nil => intro xs h; simp [unU8] at h; subst h; rfl
  | cons v r ih =>
    intro xs h
    unfold unU8 at h
    split at h <;> first | (simp_all; done) | skip
    · rename_i x r' he
      simp only [List.cons.injEq] at he
      obtain ⟨rfl, rfl⟩ := he
      split at h
      · rename_i l hl
        simp only [Option.some.injEq] at h
        subst h
        rw [ih hl]; rfl
      · cases h
theorem WL_strB {s e b t : Nat} [hT : TSlice P s e 1 b] [hI : TInt P e .u8] [hS : TStr P t] {x : Operand} {bk len c : Nat} {cs : List Value} {T : TypeId} {xs : List Int} (hdn : Nat.ble (d + 1) n = true) (hw : wants ops E g = some true) (hx : evE E x = some (.slice (some ⟨bk, 0, none⟩) len c))
    (hB : Blk w bk cs T) (hu : unU8 cs = some xs) (hl : Nat.beq xs.length len = true) (h : WL P ops Q l n ((d, .string (strOfNums xs)) :: E) w) : WL P ops Q (⟨some d, .convert s t x, ty, pos, aft, g⟩ :: l) n E w := by
  have := hB.cells0
  rw [unU8_map hu] at this
  exact WL_str hdn hw hx (Nat.eq_of_beq_eq_true hl) this h
def unK (k : IntKind) : List Value → Option (List Int)
  | [] => some []
  | .int k' x :: r => bif decide (k' = k) then (match unK k r with
    | some l => some (x :: l)
    | none => none) else none
  | _ => none
theorem unK_map {k : IntKind} : ∀ {cs : List Value} {xs : List Int}, unK k cs = some xs → cs = xs.map (.int k) := by
  intro cs
  induction cs with
  | nil => intro xs h; simp [unK] at h; subst h; rfl
  | cons v r ih =>
    intro xs h
    unfold unK at h
    split at h <;> first | (simp_all; done) | skip
    rename_i k' x r' he
    simp only [List.cons.injEq] at he
    obtain ⟨rfl, rfl⟩ := he
    cases hk : decide (k' = k) with
    | false => rw [hk] at h; cases h
    | true =>
      rw [hk] at h
      simp only [cond_true] at h
      split at h
      · rename_i l hl
        simp only [Option.some.injEq] at h
        subst h
        rw [ih hl, ← of_decide_eq_true hk]; rfl
      · cases h
theorem WL_appK {t e b : Nat} [hT : TSlice P t e 1 b] {z : Value} [hz : TZero P e z] {x y : Operand} {w0 : World} {v : Value} {m : Nat} {kd : IntKind} {xs ns : List Int} {bk k c : Nat} {T : TypeId} {news : List Value}
    (hdn : Nat.ble (d + 1) n = true) (hw : wants ops E g = some true) (hx : evE E x = some v) (hy : evE E y = some (.slice (some ⟨bk, 0, none⟩) k c)) (hzs : z.cells.size = 1) (hown : w.ownsRow w0.heap.size e 1 v m (xs.map (.int kd))) (hx0 : Ext w0 w)
    (hc : Blk w bk news T) (hu : unK kd news = some ns) (hl : Nat.beq ns.length k = true) (h63 : m + k ≤ 4611686018427387904) (hbytes : (m + k) * b ≤ 140737488355328)
    (h : ∀ A' c' w', Ext w0 w' → w'.ownsRow w0.heap.size e 1 (.slice A' (m + k) c') (m + k) ((xs ++ ns).map (.int kd)) → w.grownBy w' v.ownBlock → Cells w' A' ((xs ++ ns).map (.int kd)) → WL P ops Q l n ((d, .slice A' (m + k) c') :: E) w') :
    WL P ops Q (⟨some d, .call { callee := .builtin .append, args := #[x, y], argTypes := #[t, t] }, ty, pos, aft, g⟩ :: l) n E w := by
  have hc0 := hc.cells0
  rw [unK_map hu] at hc0
  refine WL_appI hdn hw hx hy hzs hown hx0 hc0 (Nat.eq_of_beq_eq_true hl) h63 hbytes (fun A' c' w' hx' ho' hg' => ?_)
  rw [← List.map_append] at ho'
  exact h A' c' w' hx' ho' hg' (own_rd ho')
/-- append(v, x...), both of integers. -/
theorem WL_appKK {t e b : Nat} [hT : TSlice P t e 1 b] {z : Value} [hz : TZero P e z] {x y : Operand} {w0 : World} {v : Value} {m : Nat} {kd : IntKind} {xs ns : List Int} {A : Option Addr} {k c : Nat}
    (hdn : Nat.ble (d + 1) n = true) (hw : wants ops E g = some true) (hx : evE E x = some v) (hy : evE E y = some (.slice A k c)) (hzs : z.cells.size = 1) (hown : w.ownsRow w0.heap.size e 1 v m (xs.map (.int kd))) (hx0 : Ext w0 w)
    (hc : Cells w A (ns.map (.int kd))) (hl : ns.length = k) (h63 : m + k ≤ 4611686018427387904) (hbytes : (m + k) * b ≤ 140737488355328)
    (h : ∀ A' c' w', Ext w0 w' → w'.ownsRow w0.heap.size e 1 (.slice A' (m + k) c') (m + k) ((xs ++ ns).map (.int kd)) → w.grownBy w' v.ownBlock → Cells w' A' ((xs ++ ns).map (.int kd)) → WL P ops Q l n ((d, .slice A' (m + k) c') :: E) w') :
    WL P ops Q (⟨some d, .call { callee := .builtin .append, args := #[x, y], argTypes := #[t, t] }, ty, pos, aft, g⟩ :: l) n E w := by
  refine WL_appI hdn hw hx hy hzs hown hx0 hc hl h63 hbytes (fun A' c' w' hx' ho' hg' => ?_)
  rw [← List.map_append] at ho'
  exact h A' c' w' hx' ho' hg' (own_rd ho')
theorem WL_lit0 {t e s b : Nat} [hT : TSlice P t e s b] {parts : Array (Nat × Operand)} (hdn : Nat.ble (d + 1) n = true) (hw : wants ops E g = some true) (hp : parts.toList = [])
    (h : ∀ b' w', w.heap.size ≤ b' → b' < w'.heap.size → Ext w w' → Blk w' b' [] e → w'.ownsRow w.heap.size e s (.slice (some ⟨b', 0, none⟩) 0 0) 0 [] → WL P ops Q l n ((d, .slice (some ⟨b', 0, none⟩) 0 0) :: E) w') :
    WL P ops Q (⟨some d, .buildSlice t 0 parts, ty, pos, aft, g⟩ :: l) n E w := by
  have hp' : parts = #[] := Array.toList_inj.1 (by simpa using hp)
  subst hp'
  have hr : (Instr.buildSlice t 0 #[]).run P w = .ok (.slice (some ⟨w.heap.size, 0, none⟩) 0 0) (w.alloc (.cells #[] e)) := by
    simp only [Instr.buildSlice, Sem.run_bind, run_underlying hT.out, Result.andThen_ok, slice_size (P := P) t w, Nat.zero_mul, if_true, Sem.run_pure]
    simp [Instr.fill, Array.range]
    rfl
  have hown := World.ownsRow_lit (base := w.heap.size) (e := e) (size := s) w #[] 0 (Nat.le_refl _) (by unfold maxLen; omega) (by simp)
  refine WL_val rfl hdn hw _ _ (fun a ha => ?_) (h w.heap.size _ (Nat.le_refl _) (by simp) (Ext.alloc w _) (heap_alloc_new w _) hown)
  unfold execOp
  have e0 : (Array.map (fun (x : Nat × Operand) => match x with | (i, x) => (i, a.eval x)) #[]) = #[] := by simp
  simp only [e0, Sem.run_bind, hr, Result.andThen_ok]
  rfl
/-- The same, of integers. -/
theorem WL_lit0I {t e s b : Nat} [hT : TSlice P t e s b] {k : IntKind} [hI : TInt P e k] {parts : Array (Nat × Operand)} (hdn : Nat.ble (d + 1) n = true) (hw : wants ops E g = some true) (hp : parts.toList = [])
    (h : ∀ b' w', w.heap.size ≤ b' → b' < w'.heap.size → Ext w w' → w'.ownsRow w.heap.size e s (.slice (some ⟨b', 0, none⟩) 0 0) 0 (([] : List Int).map (.int k)) → WL P ops Q l n ((d, .slice (some ⟨b', 0, none⟩) 0 0) :: E) w') :
    WL P ops Q (⟨some d, .buildSlice t 0 parts, ty, pos, aft, g⟩ :: l) n E w :=
  WL_lit0 hdn hw hp (fun b' w' h1 h2 h3 _ h5 => h b' w' h1 h2 h3 h5)
/-! ### arrays in memory -/
theorem WL_boxA {T : TypeId} {x : Operand} {cs : List Value} (hdn : Nat.ble (d + 1) n = true) (hw : wants ops E g = some true) (hx : evE E x = some (.agg cs.toArray))
    (h : ∀ b w', w.heap.size ≤ b → b < w'.heap.size → Ext w w' → Blk w' b cs T → WL P ops Q l n ((d, .pointer (some ⟨b, 0, none⟩)) :: E) w') :
    WL P ops Q (⟨some d, .box T x, ty, pos, aft, g⟩ :: l) n E w :=
  WL_box hdn hw hx (fun b w' h1 h2 h3 h4 => h b w' h1 h2 h3 (by simpa [Value.cells] using h4))
theorem run_arrCut {t len e s : Nat} [hT : TArr P t len e s] {bk off L H M : Nat} {lo' hi' mx' : Option Value} (hb : (Instr.sliceBounds false len len lo' hi' mx').run P w = .ok (L, H, M) w) :
    (Instr.sliceAt t (.pointer (some ⟨bk, off, none⟩)) lo' hi' mx').run P w = .ok (.slice (cutA (some ⟨bk, off, none⟩) s L M) (H - L) (M - L)) w := by
  simp only [Instr.sliceAt, Sem.run_bind, run_underlying hT.out, Result.andThen_ok, Instr.sureAddr, Sem.run_pure, hb, arr_size (P := P) t w]
  unfold cutA
  split <;> rfl
theorem WL_arrCut {t len e s : Nat} [hT : TArr P t len e s] {x : Operand} {lo hi mx : Option Operand} {bk off L H M : Nat} {lo' hi' mx' : Option Value} (hdn : Nat.ble (d + 1) n = true) (hw : wants ops E g = some true) (hx : evE E x = some (.pointer (some ⟨bk, off, none⟩)))
    (hlo : lo.map (evE E) = lo'.map some) (hhi : hi.map (evE E) = hi'.map some) (hmx : mx.map (evE E) = mx'.map some)
    (hb : (Instr.sliceBounds false len len lo' hi' mx').run P w = .ok (L, H, M) w)
    (h : WL P ops Q l n ((d, .slice (cutA (some ⟨bk, off, none⟩) s L M) (H - L) (M - L)) :: E) w) : WL P ops Q (⟨some d, .slice t x lo hi mx, ty, pos, aft, g⟩ :: l) n E w := by
  refine WL_val rfl hdn hw _ w (fun a ha => ?_) h
  have ev : ∀ (o : Option Operand) (o' : Option Value), o.map (evE E) = o'.map some → o.map a.eval = o' := by
    intro o o' hh
    cases o <;> cases o' <;> simp_all
    rename_i q q'
    exact evE_eval ha hh
  unfold execOp
  simp only [evE_eval ha hx, ev _ _ hlo, ev _ _ hhi, ev _ _ hmx, Sem.run_bind, run_arrCut (P := P) (s := s) (e := e) hb, Result.andThen_ok]
  rfl
theorem sbA_h {len H : Nat} {k : IntKind} {h : Int} (hh : h = (H : Int)) (h1 : H ≤ len) : (Instr.sliceBounds false len len none (some (.int k h)) none).run P w = .ok (0, H, len) w := by
  subst hh
  simp [Instr.sliceBounds, Instr.sliceBound, asIntOf]; omega
theorem sbA_l {len L : Nat} {k : IntKind} {h : Int} (hh : h = (L : Int)) (h1 : L ≤ len) : (Instr.sliceBounds false len len (some (.int k h)) none none).run P w = .ok (L, len, len) w := by
  subst hh
  simp [Instr.sliceBounds, Instr.sliceBound, asIntOf]; omega
theorem sbA_lh {len L H : Nat} {k k' : IntKind} {l h : Int} (hl : l = (L : Int)) (hh : h = (H : Int)) (h1 : L ≤ H) (h2 : H ≤ len) : (Instr.sliceBounds false len len (some (.int k l)) (some (.int k' h)) none).run P w = .ok (L, H, len) w := by
  subst hh; subst hl
  have e1 : (L : Int) ≤ (H : Int) := by omega
  have e2 : (H : Int) ≤ (len : Int) := by omega
  simp [Instr.sliceBounds, Instr.sliceBound, asIntOf, e1, e2, h1, h2]
theorem WL_arrH {t len e s : Nat} [hT : TArr P t len e s] {x y : Operand} {bk off : Nat} {k : IntKind} {h : Int} (hdn : Nat.ble (d + 1) n = true) (hw : wants ops E g = some true) (hx : evE E x = some (.pointer (some ⟨bk, off, none⟩))) (hy : evE E y = some (.int k h)) (h0 : 0 ≤ h) (h1 : h ≤ (len : Int))
    (hh : WL P ops Q l n ((d, .slice (cutA (some ⟨bk, off, none⟩) s 0 len) h.toNat len) :: E) w) : WL P ops Q (⟨some d, .slice t x none (some y) none, ty, pos, aft, g⟩ :: l) n E w :=
  WL_arrCut (lo' := none) (hi' := some (.int k h)) (mx' := none) hdn hw hx rfl (by simp [hy]) rfl (sbA_h (P := P) (w := w) (H := h.toNat) (by omega) (by omega)) hh
theorem WL_arrL {t len e s : Nat} [hT : TArr P t len e s] {x y : Operand} {bk off : Nat} {k : IntKind} {h : Int} (hdn : Nat.ble (d + 1) n = true) (hw : wants ops E g = some true) (hx : evE E x = some (.pointer (some ⟨bk, off, none⟩))) (hy : evE E y = some (.int k h)) (h0 : 0 ≤ h) (h1 : h ≤ (len : Int))
    (hh : WL P ops Q l n ((d, .slice (cutA (some ⟨bk, off, none⟩) s h.toNat len) (len - h.toNat) (len - h.toNat)) :: E) w) : WL P ops Q (⟨some d, .slice t x (some y) none none, ty, pos, aft, g⟩ :: l) n E w :=
  WL_arrCut (lo' := some (.int k h)) (hi' := none) (mx' := none) hdn hw hx (by simp [hy]) rfl rfl (sbA_l (P := P) (w := w) (L := h.toNat) (by omega) (by omega)) hh
theorem WL_arrLH {t len e s : Nat} [hT : TArr P t len e s] {x y z : Operand} {bk off : Nat} {k k' : IntKind} {h h' : Int} (hdn : Nat.ble (d + 1) n = true) (hw : wants ops E g = some true) (hx : evE E x = some (.pointer (some ⟨bk, off, none⟩))) (hy : evE E y = some (.int k h)) (hz : evE E z = some (.int k' h')) (h0 : 0 ≤ h) (h1 : h ≤ h') (h2 : h' ≤ (len : Int))
    (hh : WL P ops Q l n ((d, .slice (cutA (some ⟨bk, off, none⟩) s h.toNat len) (h'.toNat - h.toNat) (len - h.toNat)) :: E) w) : WL P ops Q (⟨some d, .slice t x (some y) (some z) none, ty, pos, aft, g⟩ :: l) n E w :=
  WL_arrCut (lo' := some (.int k h)) (hi' := some (.int k' h')) (mx' := none) hdn hw hx (by simp [hy]) (by simp [hz]) rfl (sbA_lh (P := P) (w := w) (L := h.toNat) (H := h'.toNat) (by omega) (by omega) (by omega) (by omega)) hh
/-! ### loops, their environment picked -/
def pickO (E : Env) : List Nat → Option Env
  | [] => some []
  | t :: r => match lk E t, pickO E r with
    | some v, some l => some ((t, v) :: l)
    | none, some l => some l
    | _, _ => none
theorem pickO_sub {E : Env} : ∀ {L : List Nat} {EL : Env}, pickO E L = some EL → ∀ t v, lk EL t = some v → lk E t = some v := by
  intro L
  induction L with
  | nil => intro EL h t v hv; simp [pickO] at h; subst h; cases hv
  | cons q r ih =>
    intro EL h t v hv
    unfold pickO at h
    split at h
    · rename_i u l h1 h2
      simp only [Option.some.injEq] at h
      subst h
      unfold lk at hv
      cases hb : Nat.beq q t with
      | true => rw [hb] at hv; simp only [cond_true] at hv; have := Nat.eq_of_beq_eq_true hb; subst this; rw [h1, hv]
      | false => rw [hb] at hv; exact ih h2 t v hv
    · rename_i l h1 h2
      simp only [Option.some.injEq] at h
      subst h
      exact ih h2 t v hv
    · cases h
theorem lk_append {E1 E2 : Env} {t : Nat} {v : Value} (h : lk (E1 ++ E2) t = some v) : lk E1 t = some v ∨ lk E2 t = some v := by
  induction E1 with
  | nil => exact .inr h
  | cons p r ih =>
    obtain ⟨q, u⟩ := p
    simp only [List.cons_append, lk] at h ⊢
    cases hb : Nat.beq q t with
    | true => rw [hb] at h; exact .inl h
    | false => rw [hb] at h; exact ih h
theorem WC_loopL {X : Type} {c : Code} (L : List Nat) {EL : Env} (hL : pickO E L = some EL) (Inv : X → World → Prop) (chg : X → Env) (μ : X → Nat) (x0 : X) (h0 : Inv x0 w) (hE : ∀ t v, lk (chg x0) t = some v → lk E t = some v)
    (round : ∀ x w, Inv x w → ∀ K : Act → World → Prop, (∀ x' n' E' w', n' = n → Inv x' w' → (∀ t v, lk (chg x' ++ EL) t = some v → lk E' t = some v) → μ x' < μ x → ∀ a, Agr n' E' a → K a w') → WC P (Exit.then K Q) c n (chg x ++ EL) w) :
    WC P Q (.loop c) n E w :=
  WC_loop Inv (fun x => chg x ++ EL) μ x0 h0 (fun t v hv => (lk_append hv).elim (hE t v) (pickO_sub hL t v)) round
/-- A cut behind x: what is told of the slots and the world from there on. -/
theorem WC_cutL {x y : Code} (L : List Nat) {EL : Env} (hL : pickO E L = some EL) (chg : Env) (I : World → Prop)
    (h1 : ∀ K : Act → World → Prop, (∀ n' E'' w', n' = n → I w' → (∀ t v, lk (chg ++ EL) t = some v → lk E'' t = some v) → ∀ a, Agr n' E'' a → K a w') → WC P (Exit.then K Q) x n E w)
    (h2 : ∀ w', I w' → WC P Q y n (chg ++ EL) w') : WC P Q (.seq x y) n E w :=
  fun a ha => wp_seq (h1 _ (fun n' E'' w' hn hI hE a' ha' => h2 w' hI a' ⟨hn ▸ ha'.1, ha'.2.1, fun t v hv => ha'.2.2 t v (hE t v hv)⟩) a ha)
theorem WQ_cut {K : Act → World → Prop} {n0 : Nat} {E' : Env} {I : World → Prop} (hK : ∀ n' E'' w', n' = n0 → I w' → (∀ t v, lk E' t = some v → lk E'' t = some v) → ∀ a, Agr n' E'' a → K a w') {Q' : Exit → Act → World → Prop}
    (hn : n = n0) (hI : I w) (hE : ∀ t v, lk E' t = some v → lk E t = some v) : WQ (Exit.then K Q') .normal n E w := fun a ha => hK n E w hn hI hE a ha
/-- A cut with a variable. -/
theorem WC_cutX {X : Type} {x y : Code} (L : List Nat) {EL : Env} (hL : pickO E L = some EL) (chg : X → Env) (I : X → World → Prop)
    (h1 : ∀ K : Act → World → Prop, (∀ z n' E'' w', n' = n → I z w' → (∀ t v, lk (chg z ++ EL) t = some v → lk E'' t = some v) → ∀ a, Agr n' E'' a → K a w') → WC P (Exit.then K Q) x n E w)
    (h2 : ∀ z w', I z w' → WC P Q y n (chg z ++ EL) w') : WC P Q (.seq x y) n E w :=
  fun a ha => wp_seq (h1 _ (fun z n' E'' w' hn hI hE a' ha' => h2 z w' hI a' ⟨hn ▸ ha'.1, ha'.2.1, fun t v hv => ha'.2.2 t v (hE t v hv)⟩) a ha)
theorem WQ_cutX {X : Type} {K : Act → World → Prop} {n0 : Nat} {chg : X → Env} {EL : Env} {I : X → World → Prop} (hK : ∀ z n' E'' w', n' = n0 → I z w' → (∀ t v, lk (chg z ++ EL) t = some v → lk E'' t = some v) → ∀ a, Agr n' E'' a → K a w') {Q' : Exit → Act → World → Prop}
    (z : X) (hn : n = n0) (hE : ∀ t v, lk (chg z ++ EL) t = some v → lk E t = some v) (hI : I z w) : WQ (Exit.then K Q') .normal n E w := fun a ha => hK z n E w hn hI hE a ha
theorem WC_isReg {id : Nat} {os : Array Oper} {b : Bool} {y : Code} (h : WC P Q (.seq (.region id os b) y) n E w) : WC P Q (.seq (.region id os b) y) n E w := h
theorem WQ_againL {X : Type} {K : Act → World → Prop} {Inv : X → World → Prop} {chg : X → Env} {EL : Env} {μ : X → Nat} {x : X}
    (hK : ∀ x' n' E' w', n' = n → Inv x' w' → (∀ t v, lk (chg x' ++ EL) t = some v → lk E' t = some v) → μ x' < μ x → ∀ a, Agr n' E' a → K a w') {Q' : Exit → Act → World → Prop}
    (x' : X) (hI : Inv x' w) (hE : ∀ t v, lk (chg x' ++ EL) t = some v → lk E t = some v) (hm : μ x' < μ x) : WQ (Exit.then K Q') .normal n E w :=
  fun a ha => hK x' n E w rfl hI hE hm a ha
end
end Go.Proofs.Ytemfngomfiimfaa.K
