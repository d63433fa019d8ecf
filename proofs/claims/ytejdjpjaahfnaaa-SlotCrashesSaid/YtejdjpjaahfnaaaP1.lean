/- Chapter 12 (page): entries: what may be, both functions. Seat-free. -/
import Derived.Test.YtejdjpjaahfnaaaW
import Derived.Test.YtejdjpjaahfnaaaY
import Derived.Test.YtejdjpjaahfnaaaF7
set_option linter.unusedVariables false
set_option linter.unusedSimpArgs false
set_option maxHeartbeats 4000000
set_option maxRecDepth 20000
namespace Go.Proofs.Ytejdjpjaahfnaaa.K
open Go.RowKit
attribute [local irreducible] strEq strOfNums Calls WL WC WQ WX Code.wp wpList bodyPost
/-- An entry. -/
structure En where
  u : Bool
  z : Int
  a : Int
  k : List Int
abbrev zk : List Int := List.replicate 32 0
def en0 : En := ⟨false, 0, 0, zk⟩
def enC (e : En) : List Value := .bool e.u :: .int .i64 e.z :: .int .i64 e.a :: e.k.map (.int .u8)
/-- What every entry that comes in is. -/
structure EnW (e : En) : Prop where
  len : e.k.length = 32
  bytes : ∀ x ∈ e.k, 0 ≤ x ∧ x < 256
  zb : -9223372036854775808 ≤ e.z ∧ e.z ≤ 9223372036854775807
  ab : -9223372036854775808 ≤ e.a ∧ e.a ≤ 9223372036854775807
theorem EnW.zero : EnW en0 := ⟨rfl, fun x hx => by have := List.eq_of_mem_replicate hx; omega, by decide, by decide⟩
theorem enC_length {e : En} (h : e.k.length = 32) : (enC e).length = 35 := by simp [enC, h]
theorem enC_inj {e f : En} (h : enC e = enC f) : e = f := by
  cases e; cases f
  simp only [enC, List.cons.injEq, Value.bool.injEq, Value.int.injEq, true_and] at h
  obtain ⟨h1, h2, h3, h4⟩ := h
  have h5 := (List.map_inj_right (f := Value.int .u8) (fun x y h => by cases h; rfl)).1 h4
  subst h1; subst h2; subst h3; subst h5; rfl
theorem key_inj {xs ys : List Int} (h : xs.map (Value.int .u8) = ys.map (Value.int .u8)) : xs = ys := (List.map_inj_right (f := Value.int .u8) (fun x y h => by cases h; rfl)).1 h
theorem enC_one (e : En) : ∀ u ∈ enC e, u.oneCell' = true := by
  intro u hu
  simp only [enC, List.mem_cons, List.mem_map] at hu
  rcases hu with rfl | rfl | rfl | ⟨x, _, rfl⟩ <;> rfl
theorem enC_key {e : En} (h : e.k.length = 32) : Seg (enC e) (0 + 3) 32 (e.k.map (.int .u8)) :=
  ⟨by simpa using h, by simp [enC, h], by show List.take 32 (e.k.map (Value.int .u8)) = _; rw [List.take_of_length_le (by simp [h])]⟩
abbrev SKey : List Value → Prop := SArr 32 1 (SInt .u8)
abbrev SEn : List Value → Prop := SStr 35 [(0, 1, SBool), (1, 1, SInt .i64), (2, 1, SInt .i64), (3, 32, SKey)]
theorem skey {ks : List Int} (h : ks.length = 32) : SKey (ks.map (.int .u8)) := by
  refine ⟨by simpa using h, fun i hi => ?_⟩
  rw [Nat.mul_one, List.drop_eq_getElem_cons (by simp; omega)]
  exact ⟨ks[i]'om_, by simp⟩
theorem sen {e : En} (h : e.k.length = 32) : SEn (enC e) := by
  refine ⟨enC_length h, ⟨_, rfl⟩, ⟨_, rfl⟩, ⟨_, rfl⟩, ?_, True.intro⟩
  show SKey (List.take 32 (e.k.map (Value.int .u8)))
  rw [List.take_of_length_le (by simp [h])]
  exact skey h
instance : TZc Try.prog 22 (zk.map (.int .u8)) := ⟨by kernel_rfl⟩
instance : TZc Try.prog 24 (enC en0) := ⟨by kernel_rfl⟩
instance : TEq Try.prog 5 false 1 1 (SInt .u8) := teq_int (by kernel_rfl) (by kernel_rfl)
instance : TEq Try.prog 3 false 1 1 (SInt .i64) := teq_int (by kernel_rfl) (by kernel_rfl)
instance : TEq Try.prog 4 false 1 1 SBool := teq_bool (by kernel_rfl) (by kernel_rfl)
instance : TEq Try.prog 22 true 32 2 SKey := teq_arr (e := 5) (by kernel_rfl) (by kernel_rfl) (by kernel_rfl) rfl
instance : TEq Try.prog 24 true 35 3 SEn := teq_str (l := [(0, 4), (1, 3), (2, 3), (3, 22)]) (by kernel_rfl) (by kernel_rfl) (by kernel_rfl) (by kernel_rfl) (by kernel_rfl)
  (.cons (t := 4) inferInstance (by decide) rfl (.cons (t := 3) inferInstance (by decide) rfl (.cons (t := 3) inferInstance (by decide) rfl (.cons (t := 22) inferInstance (by decide) rfl .nil)))) rfl
instance : TEqG Try.prog 22 := ⟨by kernel_rfl⟩
instance : TEqG Try.prog 24 := ⟨by kernel_rfl⟩
instance : TBld Try.prog 24 (enC en0) [(0, 1), (1, 1), (2, 1), (3, 32)] := ⟨by kernel_rfl, by kernel_rfl⟩
/-- May an entry be? -/
def OkE (e : En) : Prop := if e.u = true then (0 ≤ e.z ∧ e.z < 64) ∧ (0 ≤ e.a ∧ e.a < 65536) ∧ e.k ≠ zk else e.z = 0 ∧ e.a = 0 ∧ e.k = zk
instance (e : En) : Decidable (OkE e) := by unfold OkE; infer_instance
def okE (e : En) : Bool := decide (OkE e)
theorem okE_iff {e : En} : okE e = true ↔ OkE e := decide_eq_true_iff
theorem en0_iff {e : En} (h : e.u = false) : enC e = enC en0 ↔ e.z = 0 ∧ e.a = 0 ∧ e.k = zk := by
  constructor
  · intro h1
    have := enC_inj h1
    subst this
    exact ⟨rfl, rfl, rfl⟩
  · rintro ⟨h1, h2, h3⟩
    cases e
    simp only at h h1 h2 h3
    subst h; subst h1; subst h2; subst h3
    rfl
theorem page_may_calls (e : En) (w : World) (he : EnW e) (b : Bool) (hb : okE e = b) :
    Calls Try.prog 60 #[.agg (enC e).toArray] w fun r w' => r = .returned (.bool b) ∧ Ext w w' := by
  subst hb
  have hel := enC_length he.len
  have h0 := enC_length EnW.zero.len
  have hk := enC_key he.len
  have s1 := sen he.len
  have s2 := sen EnW.zero.len
  have s3 := skey he.len
  have s4 : SKey (zk.map (.int .u8)) := skey rfl
  refine calls_W (args := [.agg (enC e).toArray]) Try.func60 rfl 33 rfl ?_
  cases hu : e.u with
  | false =>
    have hbr : (enC e)[0]? = some (.bool false) := by rw [← hu]; rfl
    have e0 := en0_iff hu
    (repeat' (first | (refine WL_is ?_; first | refine WL_nil ?_ | (refine WL_isLoad ?_; refine WL_load rfl rfl rfl blk_ hbr ?_) | refine wl_ ?_ ) | (refine WC_is ?_; first | refine WC_seq (fun _ _ => ?_) | refine wc_ ?_) | (refine WQ_is ?_; first | refine wq_ ?_) | (refine Kb.mk ?_; intro b_ w_ hb_ hl_ hx_ hB_) | (refine Ks.mk ?_; intro w_ hz_ hx_ hB_) | (refine Ko.mk ?_; intro A_ c_ w_ hx_ ho_ hr_; have hz_ := hx_.size; have hq_ := own_cap ho_) | (refine Kp.mk ?_; intro A_ c_ w_ hx_ hz_ ho_ hr_ hp_; have hq_ := own_cap ho_) | (refine Kl.mk ?_; intro b_ w_ hb_ hl_ hx_ hB_ ho_) | (refine Km.mk ?_; intro b_ w_ hb_ hl_ hx_ ho_) | (refine Ke.mk ?_; intro r_ hr_) | (refine Kg.mk ?_ ?_ <;> intro hs_ <;> (try simp only [strEq_t, strEq_f, decide_eq_true_eq, decide_eq_false_iff_not, beq_iff_eq, beq_eq_false_iff_ne, bne_iff_ne, bne_eq_false_iff_eq, Bool.not_eq_true', Bool.not_eq_false', Bool.not_true, Bool.not_false, gt_iff_lt, ge_iff_le, Int.not_lt, Int.not_le, ne_eq, Bool.false_eq_true, not_true_eq_false, reduceCtorEq] at hs_) <;> (try (exfalso; first | exact hs_ | (exact hs_ rfl) | omega))) ))
    all_goals refine ⟨?_, ext_⟩
    all_goals
      congr 2
      rw [Bool.eq_iff_iff, hr_, okE_iff, e0]
      unfold OkE
      rw [if_neg (by rw [hu]; decide)]
  | true =>
    have hbr : (enC e)[0]? = some (.bool true) := by rw [← hu]; rfl
    have hO : OkE e ↔ (0 ≤ e.z ∧ e.z < 64) ∧ (0 ≤ e.a ∧ e.a < 65536) ∧ e.k ≠ zk := by unfold OkE; rw [if_pos hu]
    (repeat' (first | (refine WL_is ?_; first | refine WL_nil ?_ | (refine WL_isLoad ?_; refine WL_load rfl rfl rfl blk_ hbr ?_) | refine wl_ ?_ ) | (refine WC_is ?_; first | refine WC_seq (fun _ _ => ?_) | refine wc_ ?_) | (refine WQ_is ?_; first | refine wq_ ?_) | (refine Kb.mk ?_; intro b_ w_ hb_ hl_ hx_ hB_) | (refine Ks.mk ?_; intro w_ hz_ hx_ hB_) | (refine Ko.mk ?_; intro A_ c_ w_ hx_ ho_ hr_; have hz_ := hx_.size; have hq_ := own_cap ho_) | (refine Kp.mk ?_; intro A_ c_ w_ hx_ hz_ ho_ hr_ hp_; have hq_ := own_cap ho_) | (refine Kl.mk ?_; intro b_ w_ hb_ hl_ hx_ hB_ ho_) | (refine Km.mk ?_; intro b_ w_ hb_ hl_ hx_ ho_) | (refine Ke.mk ?_; intro r_ hr_) | (refine Kg.mk ?_ ?_ <;> intro hs_ <;> (try simp only [strEq_t, strEq_f, decide_eq_true_eq, decide_eq_false_iff_not, beq_iff_eq, beq_eq_false_iff_ne, bne_iff_ne, bne_eq_false_iff_eq, Bool.not_eq_true', Bool.not_eq_false', Bool.not_true, Bool.not_false, gt_iff_lt, ge_iff_le, Int.not_lt, Int.not_le, ne_eq, Bool.false_eq_true, not_true_eq_false, reduceCtorEq] at hs_) <;> (try (exfalso; first | exact hs_ | (exact hs_ rfl) | omega))) ))
    all_goals refine ⟨?_, ext_⟩
    all_goals
      congr 2
      rw [Bool.eq_iff_iff, okE_iff, hO]
      first
        | (simp only [Bool.not_eq_true', ← Bool.not_eq_true, hr_]
           constructor
           · intro h; exact ⟨by omega, by omega, fun hz => h (by rw [hz])⟩
           · intro h hz; exact h.2.2 (key_inj hz))
        | (constructor
           · intro h; cases h
           · intro h; exfalso; omega)
theorem ref12_May_calls (e : En) (w : World) (he : EnW e) (b : Bool) (hb : okE e = b) :
    Calls Try.prog 49 #[.agg (enC e).toArray] w fun r w' => r = .returned (.bool b) ∧ Ext w w' := by
  subst hb
  have hel := enC_length he.len
  have h0 := enC_length EnW.zero.len
  have hk := enC_key he.len
  have s1 := sen he.len
  have s2 := sen EnW.zero.len
  have s3 := skey he.len
  have s4 : SKey (zk.map (.int .u8)) := skey rfl
  refine calls_W (args := [.agg (enC e).toArray]) Try.func49 rfl 33 rfl ?_
  cases hu : e.u with
  | false =>
    have hbr : (enC e)[0]? = some (.bool false) := by rw [← hu]; rfl
    have e0 := en0_iff hu
    (repeat' (first | (refine WL_is ?_; first | refine WL_nil ?_ | (refine WL_isLoad ?_; refine WL_load rfl rfl rfl blk_ hbr ?_) | refine wl_ ?_ ) | (refine WC_is ?_; first | refine WC_seq (fun _ _ => ?_) | refine wc_ ?_) | (refine WQ_is ?_; first | refine wq_ ?_) | (refine Kb.mk ?_; intro b_ w_ hb_ hl_ hx_ hB_) | (refine Ks.mk ?_; intro w_ hz_ hx_ hB_) | (refine Ko.mk ?_; intro A_ c_ w_ hx_ ho_ hr_; have hz_ := hx_.size; have hq_ := own_cap ho_) | (refine Kp.mk ?_; intro A_ c_ w_ hx_ hz_ ho_ hr_ hp_; have hq_ := own_cap ho_) | (refine Kl.mk ?_; intro b_ w_ hb_ hl_ hx_ hB_ ho_) | (refine Km.mk ?_; intro b_ w_ hb_ hl_ hx_ ho_) | (refine Ke.mk ?_; intro r_ hr_) | (refine Kg.mk ?_ ?_ <;> intro hs_ <;> (try simp only [strEq_t, strEq_f, decide_eq_true_eq, decide_eq_false_iff_not, beq_iff_eq, beq_eq_false_iff_ne, bne_iff_ne, bne_eq_false_iff_eq, Bool.not_eq_true', Bool.not_eq_false', Bool.not_true, Bool.not_false, gt_iff_lt, ge_iff_le, Int.not_lt, Int.not_le, ne_eq, Bool.false_eq_true, not_true_eq_false, reduceCtorEq] at hs_) <;> (try (exfalso; first | exact hs_ | (exact hs_ rfl) | omega))) ))
    all_goals refine ⟨?_, ext_⟩
    all_goals
      congr 2
      rw [Bool.eq_iff_iff, hr_, okE_iff, e0]
      unfold OkE
      rw [if_neg (by rw [hu]; decide)]
  | true =>
    have hbr : (enC e)[0]? = some (.bool true) := by rw [← hu]; rfl
    have hO : OkE e ↔ (0 ≤ e.z ∧ e.z < 64) ∧ (0 ≤ e.a ∧ e.a < 65536) ∧ e.k ≠ zk := by unfold OkE; rw [if_pos hu]
    (repeat' (first | (refine WL_is ?_; first | refine WL_nil ?_ | (refine WL_isLoad ?_; refine WL_load rfl rfl rfl blk_ hbr ?_) | refine wl_ ?_ ) | (refine WC_is ?_; first | refine WC_seq (fun _ _ => ?_) | refine wc_ ?_) | (refine WQ_is ?_; first | refine wq_ ?_) | (refine Kb.mk ?_; intro b_ w_ hb_ hl_ hx_ hB_) | (refine Ks.mk ?_; intro w_ hz_ hx_ hB_) | (refine Ko.mk ?_; intro A_ c_ w_ hx_ ho_ hr_; have hz_ := hx_.size; have hq_ := own_cap ho_) | (refine Kp.mk ?_; intro A_ c_ w_ hx_ hz_ ho_ hr_ hp_; have hq_ := own_cap ho_) | (refine Kl.mk ?_; intro b_ w_ hb_ hl_ hx_ hB_ ho_) | (refine Km.mk ?_; intro b_ w_ hb_ hl_ hx_ ho_) | (refine Ke.mk ?_; intro r_ hr_) | (refine Kg.mk ?_ ?_ <;> intro hs_ <;> (try simp only [strEq_t, strEq_f, decide_eq_true_eq, decide_eq_false_iff_not, beq_iff_eq, beq_eq_false_iff_ne, bne_iff_ne, bne_eq_false_iff_eq, Bool.not_eq_true', Bool.not_eq_false', Bool.not_true, Bool.not_false, gt_iff_lt, ge_iff_le, Int.not_lt, Int.not_le, ne_eq, Bool.false_eq_true, not_true_eq_false, reduceCtorEq] at hs_) <;> (try (exfalso; first | exact hs_ | (exact hs_ rfl) | omega))) ))
    all_goals refine ⟨?_, ext_⟩
    all_goals
      congr 2
      rw [Bool.eq_iff_iff, okE_iff, hO]
      first
        | (simp only [Bool.not_eq_true', ← Bool.not_eq_true, hr_]
           constructor
           · intro h; exact ⟨by omega, by omega, fun hz => h (by rw [hz])⟩
           · intro h hz; exact h.2.2 (key_inj hz))
        | (constructor
           · intro h; cases h
           · intro h; exfalso; omega)
end Go.Proofs.Ytejdjpjaahfnaaa.K
