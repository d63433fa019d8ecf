/- Chapter 10 (dev): Check, Open. Seat-free. -/
import Derived.Test.YtemfngomfiimfaaH4
set_option linter.unusedVariables false
set_option linter.unusedSimpArgs false
set_option maxHeartbeats 4000000
set_option maxRecDepth 20000
namespace Go.Proofs.Ytemfngomfiimfaa.K
open Go.RowKit
attribute [local irreducible] strEq strOfNums Calls WL WC WQ WX Code.wp wpList bodyPost
theorem slices_ContainsFunc_calls (zp : List (Zo × Sl)) (d : Dv) (s : Ds) (bd : Nat) (A : Option Addr) (m c : Nat) (w : World) (hm : zp.length = m) (hs : m ≤ 1000000) (hzw : ∀ p ∈ zp, Zst p.1) (hzb : ∀ p ∈ zp, p.1.d.length = p.2.m) (hC : Cells w A (catC zpC zp)) (hB : Blk w bd (dvC d s) DeT) :
    Calls Try.prog 28 #[.slice A m c, .func (.func FChk) #[] #[.pointer (some ⟨bd, 0, none⟩)]] w fun e w' => e = .returned (.bool (decide (¬ ∀ p ∈ zp, OkZ p.1 d.sz))) ∧ Ext w w' := by
  have a1 := fun w hC hB => slices_IndexFunc_calls zp d s bd A m c w hm hs hzw hzb hC hB
  generalize catC zpC zp = cs at *
  refine calls_W (args := [.slice A m c, .func (.func FChk) #[] #[.pointer (some ⟨bd, 0, none⟩)]]) Try.func28 rfl 9 rfl ?_
  (repeat' (first | (refine WL_is ?_; first | refine WL_nil ?_ | refine wl_ ?_ | (refine WL_isFn ?_; refine WL_call rfl rfl rfl (a1 _ cells_ blk_) ?_; rintro _ w_ ⟨r_, rfl, hr_, hx_⟩; have hz_ := hx_.size; refine ⟨_, rfl, ?_⟩)) | (refine WC_is ?_; first | refine WC_seq (fun _ _ => ?_) | refine wc_ ?_) | (refine WQ_is ?_; first | refine wq_ ?_ | refine WQ_bodyAC (Or.inl rfl) rfl rfl rfl blk_ lr_ blk_ ?_ | refine WQ_bodyAC (Or.inr rfl) rfl rfl rfl blk_ lr_ blk_ ?_) | (refine Kb.mk ?_; intro b_ w_ hb_ hl_ hx_ hB_) | (refine Ks.mk ?_; intro w_ hz_ hx_ hB_) | (refine Ko.mk ?_; intro A_ c_ w_ hx_ ho_ hr_; have hz_ := hx_.size; have hq_ := own_cap ho_) | (refine Kp.mk ?_; intro A_ c_ w_ hx_ hz_ ho_ hr_ hp_; have hq_ := own_cap ho_) | (refine Kl.mk ?_; intro b_ w_ hb_ hl_ hx_ hB_ ho_) | (refine Km.mk ?_; intro b_ w_ hb_ hl_ hx_ ho_) | (refine Ke.mk ?_; intro r_ hr_) | (refine Kg.mk ?_ ?_ <;> intro hs_ <;> (try simp only [strEq_t, strEq_f, decide_eq_true_eq, decide_eq_false_iff_not, beq_iff_eq, beq_eq_false_iff_ne, bne_iff_ne, bne_eq_false_iff_eq, Bool.not_eq_true', Bool.not_eq_false', Bool.not_true, Bool.not_false, gt_iff_lt, ge_iff_le, Int.not_lt, Int.not_le, ne_eq, Bool.false_eq_true, not_true_eq_false, reduceCtorEq] at hs_) <;> (try (exfalso; first | exact hs_ | (exact hs_ rfl) | omega))) ))
  all_goals
    refine ⟨?_, ext_⟩
    congr 2
    exact (decide_eq_decide.2 hr_)
/-- Is a root sector wrong, or what is fresh of it? -/
def badR (r f : List Int) : Bool := decide (r.length ≠ 128 ∨ (f.length ≠ 0 ∧ f.length ≠ 128))
def wroB (c : Bool) (d : Dv) : Nat → Bool
  | 0 => c
  | 1 => c || badR d.r0 d.f0
  | _ => c || badR d.r0 d.f0 || badR d.r1 d.f1
theorem okD_eq (d : Dv) : okD d = (!(wroB (decide (¬ ∀ z ∈ d.zs, OkZ z d.sz)) d 2) && decide (0 < d.zs.length ∧ d.zs.length ≤ 64 ∧ 0 < d.sz ∧ d.sz ≤ 65536)) := by
  rw [Bool.eq_iff_iff, okD_iff]
  unfold OkD wroB badR
  by_cases h : ∀ z ∈ d.zs, OkZ z d.sz
  · simp only [h, Bool.and_eq_true, Bool.not_eq_true', Bool.or_eq_false_iff, decide_eq_false_iff_not, decide_eq_true_eq]
    constructor
    · rintro ⟨_, a, b, e, f⟩
      exact ⟨⟨⟨by simpa using h, by omega⟩, by omega⟩, by omega⟩
    · rintro ⟨⟨⟨_, a⟩, b⟩, e⟩
      exact ⟨fun _ h' => by first | exact h' | trivial | exact h _ h', by omega, by omega, by omega, by omega⟩
  · simp [h]
theorem DM.zw {w : World} {d : Dv} {s : Ds} {zp : List (Zo × Sl)} (h : DM w d s zp) (hW : DvW d) : (∀ p ∈ zp, Zst p.1) ∧ (∀ p ∈ zp, p.1.d.length = p.2.m) ∧ ((∀ p ∈ zp, OkZ p.1 d.sz) ↔ ∀ z ∈ d.zs, OkZ z d.sz) := by
  refine ⟨fun p hp => hW.zw _ (by rw [← h.zs]; exact List.mem_map_of_mem hp), fun p hp => (h.zb p hp).1, ?_⟩
  rw [← h.zs]
  exact ⟨fun k z hz => by obtain ⟨p, hp, rfl⟩ := List.mem_map.1 hz; exact k p hp, fun k p hp => k _ (List.mem_map_of_mem hp)⟩
theorem wroB_next {c : Bool} {d : Dv} {i : Nat} (hi : i < 2) : wroB c d (i + 1) = (wroB c d i || badR (if i = 0 then d.r0 else d.r1) (if i = 0 then d.f0 else d.f1)) := by
  rcases (show i = 0 ∨ i = 1 by omega) with rfl | rfl <;> rfl
theorem dev_Check_calls (d : Dv) (s : Ds) (zp : List (Zo × Sl)) (w : World) (hW : DvW d) (hM : DM w d s zp) (b : Bool) (hb : okD d = b) :
    Calls Try.prog 22 #[.agg (dvC d s).toArray] w fun e w' => e = .returned (.bool b) ∧ Ext w w' := by
  subst hb
  obtain ⟨z1, z2, z3⟩ := hM.zw hW
  have hlen := hM.len
  have hzl := hW.zl
  have a1 := fun bd w hC hB => slices_ContainsFunc_calls zp d s bd s.Z.A s.Z.m s.Z.c w hM.zm om_ z1 z2 hC hB
  simp only [z3] at a1
  rw [okD_eq d]
  generalize hc0 : decide (¬ ∀ z ∈ d.zs, OkZ z d.sz) = c0 at *
  have hzz := hM.zz
  have p1 := dvC_one d s
  have n0 := hM.r0.1
  have n1 := hM.r1.1
  have m0 := hM.f0.1
  have m1 := hM.f1.1
  have hsb := hW.sb
  obtain ⟨⟨ZA, Zm, Zc⟩, ⟨A0, l0, e0⟩, ⟨A1, l1, e1⟩, ⟨A2, l2, e2⟩, ⟨A3, l3, e3⟩⟩ := s
  dsimp only at a1 hlen hzz n0 n1 m0 m1
  have hsg : Seg (dvC d ⟨⟨ZA, Zm, Zc⟩, ⟨A0, l0, e0⟩, ⟨A1, l1, e1⟩, ⟨A2, l2, e2⟩, ⟨A3, l3, e3⟩⟩) (0 + 2) 2 [.slice A0 l0 e0, .slice A1 l1 e1] := ⟨rfl, by rw [dvC_length]; omega, rfl⟩
  refine calls_W (args := [.agg (dvC d ⟨⟨ZA, Zm, Zc⟩, ⟨A0, l0, e0⟩, ⟨A1, l1, e1⟩, ⟨A2, l2, e2⟩, ⟨A3, l3, e3⟩⟩).toArray]) Try.func22 rfl 61 rfl ?_
  (repeat' (first | (refine WL_is ?_; first | refine WL_nil ?_ | refine wl_ ?_ | (refine WL_isFn ?_; refine WL_call rfl rfl rfl (a1 _ _ cells_ blk_) ?_; rintro _ w_ ⟨rfl, hx_⟩; have hz_ := hx_.size; refine ⟨_, rfl, ?_⟩)) | (refine WC_is ?_; first | ((fail_if_success (refine WC_isReg (id := 3) ?_)); refine WC_seq (fun _ _ => ?_)) | refine wc_ ?_) | (refine WQ_is ?_; first | refine wq_ ?_ | refine WQ_bodyAC (Or.inl rfl) rfl rfl rfl blk_ lr_ blk_ ?_ | refine WQ_bodyAC (Or.inr rfl) rfl rfl rfl blk_ lr_ blk_ ?_) | (refine Kb.mk ?_; intro b_ w_ hb_ hl_ hx_ hB_) | (refine Ks.mk ?_; intro w_ hz_ hx_ hB_) | (refine Ko.mk ?_; intro A_ c_ w_ hx_ ho_ hr_; have hz_ := hx_.size; have hq_ := own_cap ho_) | (refine Kp.mk ?_; intro A_ c_ w_ hx_ hz_ ho_ hr_ hp_; have hq_ := own_cap ho_) | (refine Kl.mk ?_; intro b_ w_ hb_ hl_ hx_ hB_ ho_) | (refine Km.mk ?_; intro b_ w_ hb_ hl_ hx_ ho_) | (refine Ke.mk ?_; intro r_ hr_) | (refine Kg.mk ?_ ?_ <;> intro hs_ <;> (try simp only [strEq_t, strEq_f, decide_eq_true_eq, decide_eq_false_iff_not, beq_iff_eq, beq_eq_false_iff_ne, bne_iff_ne, bne_eq_false_iff_eq, Bool.not_eq_true', Bool.not_eq_false', Bool.not_true, Bool.not_false, gt_iff_lt, ge_iff_le, Int.not_lt, Int.not_le, ne_eq, Bool.false_eq_true, not_true_eq_false, reduceCtorEq] at hs_) <;> (try (exfalso; first | exact hs_ | (exact hs_ rfl) | omega))) | (refine WX_is ?_; first | refine wx_ ?_ | exact WX_altnil | (refine WX_isRd ?_; first | (refine WX_isT ?_; refine WX_readT rfl rfl rfl rfl rfl (by (first | refine wl_ ?_); refine WL_nil ?_; exact DR_mk rfl) ?_) | (refine WX_isF ?_; refine WX_read rfl rfl rfl rfl rfl (fun w_ hx_ => by (first | refine wl_ ?_); refine WL_nil ?_; exact DR_mk rfl) ?_) | refine WX_nilP rfl rfl rfl rfl rfl rfl ?_ | refine wxg_ ?_) | (refine WX_isAct ?_; first | refine WX_eff1 rfl (fun _ _ => ?_) | refine WX_eff rfl (fun _ _ => ?_) ?_))))
  refine WC_loopL (X := Nat) [1, 2, 12, 37, 38, 39, 40, 41, 42, 43, 44, 45, 46, 47, 48, 49, 50, 51, 52, 53, 54, 55, 56, 57, 58, 59, 60] rfl (fun i w' => i ≤ 2 ∧ Ext w_ w') (fun i => [(13, .int .i64 i), (3, .bool (wroB c0 d i))]) (fun i => 2 - i) 0 ⟨om_, ext_⟩ env_ ?_
  intro i w2 ⟨hi, hx2⟩ K hK
  have hz2 := hx2.size
  rcases Nat.lt_or_ge i 2 with hlt | hge
  · rcases (show i = 0 ∨ i = 1 by omega) with rfl | rfl
    · have e : wroB c0 d 1 = (wroB c0 d 0 || decide (¬ ((l0 : Nat) : Int) = 128 ∨ ¬ ((l2 : Nat) : Int) = 0 ∧ ¬ ((l2 : Nat) : Int) = 128)) := by
        rw [wroB_next (i := 0) om_]
        congr 1
        unfold badR
        refine decide_eq_decide.2 ?_
        show d.r0.length ≠ 128 ∨ (d.f0.length ≠ 0 ∧ d.f0.length ≠ 128) ↔ _
        omega
      cases hW0 : wroB c0 d 0 <;> rw [hW0] at e <;> by_cases h1 : ((l0 : Nat) : Int) = 128 <;> by_cases h2 : ((l2 : Nat) : Int) = 0 <;> by_cases h3 : ((l2 : Nat) : Int) = 128 <;> first | (exfalso; omega) | skip
      all_goals first | rw [decide_eq_true (show ¬ ((l0 : Nat) : Int) = 128 ∨ ¬ ((l2 : Nat) : Int) = 0 ∧ ¬ ((l2 : Nat) : Int) = 128 by omega)] at e | rw [decide_eq_false (show ¬ (¬ ((l0 : Nat) : Int) = 128 ∨ ¬ ((l2 : Nat) : Int) = 0 ∧ ¬ ((l2 : Nat) : Int) = 128) by omega)] at e
      all_goals
        (repeat' (first | (refine WL_is ?_; first | refine WL_nil ?_ | (refine WL_index rfl rfl rfl rfl rfl (by decide) rfl ?_) | (refine WL_isBin ?_; first | refine WL_inF rfl rfl rfl rfl as_ ?_ | refine WL_inT rfl rfl rfl rfl as_ ?_) | refine wl_ ?_ ) | (refine WC_is ?_; first | refine WC_seq (fun _ _ => ?_) | refine wc_ ?_) | (refine WQ_is ?_; first | refine wq_ ?_ | refine WQ_bodyAC (Or.inl rfl) rfl rfl rfl blk_ lr_ blk_ ?_ | refine WQ_bodyAC (Or.inr rfl) rfl rfl rfl blk_ lr_ blk_ ?_) | (refine Kb.mk ?_; intro b_ w_ hb_ hl_ hx_ hB_) | (refine Ks.mk ?_; intro w_ hz_ hx_ hB_) | (refine Ko.mk ?_; intro A_ c_ w_ hx_ ho_ hr_; have hz_ := hx_.size; have hq_ := own_cap ho_) | (refine Kp.mk ?_; intro A_ c_ w_ hx_ hz_ ho_ hr_ hp_; have hq_ := own_cap ho_) | (refine Kl.mk ?_; intro b_ w_ hb_ hl_ hx_ hB_ ho_) | (refine Km.mk ?_; intro b_ w_ hb_ hl_ hx_ ho_) | (refine Ke.mk ?_; intro r_ hr_) | (refine Kg.mk ?_ ?_ <;> intro hs_ <;> (try simp only [strEq_t, strEq_f, decide_eq_true_eq, decide_eq_false_iff_not, beq_iff_eq, beq_eq_false_iff_ne, bne_iff_ne, bne_eq_false_iff_eq, Bool.not_eq_true', Bool.not_eq_false', Bool.not_true, Bool.not_false, gt_iff_lt, ge_iff_le, Int.not_lt, Int.not_le, ne_eq, Bool.false_eq_true, not_true_eq_false, reduceCtorEq] at hs_) <;> (try (exfalso; first | exact hs_ | (exact hs_ rfl) | omega))) | (refine WX_is ?_; first | refine wx_ ?_ | exact WX_altnil | (refine WX_isRd ?_; first | (refine WX_isT ?_; refine WX_readT rfl rfl rfl rfl rfl (by (first | (refine WL_index rfl rfl rfl rfl rfl (by decide) rfl ?_) | (refine WL_isBin ?_; first | refine WL_inF rfl rfl rfl rfl as_ ?_ | refine WL_inT rfl rfl rfl rfl as_ ?_) | refine wl_ ?_); refine WL_nil ?_; exact DR_mk rfl) ?_) | (refine WX_isF ?_; refine WX_read rfl rfl rfl rfl rfl (fun w_ hx_ => by (first | (refine WL_index rfl rfl rfl rfl rfl (by decide) rfl ?_) | (refine WL_isBin ?_; first | refine WL_inF rfl rfl rfl rfl as_ ?_ | refine WL_inT rfl rfl rfl rfl as_ ?_) | refine wl_ ?_); refine WL_nil ?_; exact DR_mk rfl) ?_) | refine WX_nilP rfl rfl rfl rfl rfl rfl ?_ | refine wxg_ ?_) | (refine WX_isAct ?_; first | refine WX_eff1 rfl (fun _ _ => ?_) | refine WX_eff rfl (fun _ _ => ?_) ?_))))
      all_goals first | (exfalso; omega) | (refine WQ_againL hK 1 ⟨om_, ext_⟩ ?_ om_; dsimp only; rw [e]; exact env_)
    · have e : wroB c0 d 2 = (wroB c0 d 1 || decide (¬ ((l1 : Nat) : Int) = 128 ∨ ¬ ((l3 : Nat) : Int) = 0 ∧ ¬ ((l3 : Nat) : Int) = 128)) := by
        rw [wroB_next (i := 1) om_]
        congr 1
        unfold badR
        refine decide_eq_decide.2 ?_
        show d.r1.length ≠ 128 ∨ (d.f1.length ≠ 0 ∧ d.f1.length ≠ 128) ↔ _
        omega
      cases hW0 : wroB c0 d 1 <;> rw [hW0] at e <;> by_cases h1 : ((l1 : Nat) : Int) = 128 <;> by_cases h2 : ((l3 : Nat) : Int) = 0 <;> by_cases h3 : ((l3 : Nat) : Int) = 128 <;> first | (exfalso; omega) | skip
      all_goals first | rw [decide_eq_true (show ¬ ((l1 : Nat) : Int) = 128 ∨ ¬ ((l3 : Nat) : Int) = 0 ∧ ¬ ((l3 : Nat) : Int) = 128 by omega)] at e | rw [decide_eq_false (show ¬ (¬ ((l1 : Nat) : Int) = 128 ∨ ¬ ((l3 : Nat) : Int) = 0 ∧ ¬ ((l3 : Nat) : Int) = 128) by omega)] at e
      all_goals
        (repeat' (first | (refine WL_is ?_; first | refine WL_nil ?_ | (refine WL_index rfl rfl rfl rfl rfl (by decide) rfl ?_) | (refine WL_isBin ?_; first | refine WL_inF rfl rfl rfl rfl as_ ?_ | refine WL_inT rfl rfl rfl rfl as_ ?_) | refine wl_ ?_ ) | (refine WC_is ?_; first | refine WC_seq (fun _ _ => ?_) | refine wc_ ?_) | (refine WQ_is ?_; first | refine wq_ ?_ | refine WQ_bodyAC (Or.inl rfl) rfl rfl rfl blk_ lr_ blk_ ?_ | refine WQ_bodyAC (Or.inr rfl) rfl rfl rfl blk_ lr_ blk_ ?_) | (refine Kb.mk ?_; intro b_ w_ hb_ hl_ hx_ hB_) | (refine Ks.mk ?_; intro w_ hz_ hx_ hB_) | (refine Ko.mk ?_; intro A_ c_ w_ hx_ ho_ hr_; have hz_ := hx_.size; have hq_ := own_cap ho_) | (refine Kp.mk ?_; intro A_ c_ w_ hx_ hz_ ho_ hr_ hp_; have hq_ := own_cap ho_) | (refine Kl.mk ?_; intro b_ w_ hb_ hl_ hx_ hB_ ho_) | (refine Km.mk ?_; intro b_ w_ hb_ hl_ hx_ ho_) | (refine Ke.mk ?_; intro r_ hr_) | (refine Kg.mk ?_ ?_ <;> intro hs_ <;> (try simp only [strEq_t, strEq_f, decide_eq_true_eq, decide_eq_false_iff_not, beq_iff_eq, beq_eq_false_iff_ne, bne_iff_ne, bne_eq_false_iff_eq, Bool.not_eq_true', Bool.not_eq_false', Bool.not_true, Bool.not_false, gt_iff_lt, ge_iff_le, Int.not_lt, Int.not_le, ne_eq, Bool.false_eq_true, not_true_eq_false, reduceCtorEq] at hs_) <;> (try (exfalso; first | exact hs_ | (exact hs_ rfl) | omega))) | (refine WX_is ?_; first | refine wx_ ?_ | exact WX_altnil | (refine WX_isRd ?_; first | (refine WX_isT ?_; refine WX_readT rfl rfl rfl rfl rfl (by (first | (refine WL_index rfl rfl rfl rfl rfl (by decide) rfl ?_) | (refine WL_isBin ?_; first | refine WL_inF rfl rfl rfl rfl as_ ?_ | refine WL_inT rfl rfl rfl rfl as_ ?_) | refine wl_ ?_); refine WL_nil ?_; exact DR_mk rfl) ?_) | (refine WX_isF ?_; refine WX_read rfl rfl rfl rfl rfl (fun w_ hx_ => by (first | (refine WL_index rfl rfl rfl rfl rfl (by decide) rfl ?_) | (refine WL_isBin ?_; first | refine WL_inF rfl rfl rfl rfl as_ ?_ | refine WL_inT rfl rfl rfl rfl as_ ?_) | refine wl_ ?_); refine WL_nil ?_; exact DR_mk rfl) ?_) | refine WX_nilP rfl rfl rfl rfl rfl rfl ?_ | refine wxg_ ?_) | (refine WX_isAct ?_; first | refine WX_eff1 rfl (fun _ _ => ?_) | refine WX_eff rfl (fun _ _ => ?_) ?_))))
      all_goals first | (exfalso; omega) | (refine WQ_againL hK 2 ⟨om_, ext_⟩ ?_ om_; dsimp only; rw [e]; exact env_)
  · obtain rfl : i = 2 := by omega
    cases hW0 : wroB c0 d 2
    all_goals
      (repeat' (first | (refine WL_is ?_; first | refine WL_nil ?_ | refine wl_ ?_ ) | (refine WC_is ?_; first | refine WC_seq (fun _ _ => ?_) | refine wc_ ?_) | (refine WQ_is ?_; first | refine wq_ ?_ | refine WQ_bodyAC (Or.inl rfl) rfl rfl rfl blk_ lr_ blk_ ?_ | refine WQ_bodyAC (Or.inr rfl) rfl rfl rfl blk_ lr_ blk_ ?_) | (refine Kb.mk ?_; intro b_ w_ hb_ hl_ hx_ hB_) | (refine Ks.mk ?_; intro w_ hz_ hx_ hB_) | (refine Ko.mk ?_; intro A_ c_ w_ hx_ ho_ hr_; have hz_ := hx_.size; have hq_ := own_cap ho_) | (refine Kp.mk ?_; intro A_ c_ w_ hx_ hz_ ho_ hr_ hp_; have hq_ := own_cap ho_) | (refine Kl.mk ?_; intro b_ w_ hb_ hl_ hx_ hB_ ho_) | (refine Km.mk ?_; intro b_ w_ hb_ hl_ hx_ ho_) | (refine Ke.mk ?_; intro r_ hr_) | (refine Kg.mk ?_ ?_ <;> intro hs_ <;> (try simp only [strEq_t, strEq_f, decide_eq_true_eq, decide_eq_false_iff_not, beq_iff_eq, beq_eq_false_iff_ne, bne_iff_ne, bne_eq_false_iff_eq, Bool.not_eq_true', Bool.not_eq_false', Bool.not_true, Bool.not_false, gt_iff_lt, ge_iff_le, Int.not_lt, Int.not_le, ne_eq, Bool.false_eq_true, not_true_eq_false, reduceCtorEq] at hs_) <;> (try (exfalso; first | exact hs_ | (exact hs_ rfl) | omega))) | (refine WX_is ?_; first | refine wx_ ?_ | exact WX_altnil | (refine WX_isRd ?_; first | (refine WX_isT ?_; refine WX_readT rfl rfl rfl rfl rfl (by (first | refine wl_ ?_); refine WL_nil ?_; exact DR_mk rfl) ?_) | (refine WX_isF ?_; refine WX_read rfl rfl rfl rfl rfl (fun w_ hx_ => by (first | refine wl_ ?_); refine WL_nil ?_; exact DR_mk rfl) ?_) | refine WX_nilP rfl rfl rfl rfl rfl rfl ?_ | refine wxg_ ?_) | (refine WX_isAct ?_; first | refine WX_eff1 rfl (fun _ _ => ?_) | refine WX_eff rfl (fun _ _ => ?_) ?_))))
    all_goals first | (exfalso; omega) | skip
    all_goals refine ⟨?_, ext_⟩
    all_goals first | rfl | (congr 2; rw [Bool.eq_iff_iff]; simp only [hW0, decide_eq_true_eq, Bool.not_false, Bool.not_true, Bool.true_and, Bool.false_and, Bool.false_eq_true, hlen] <;> constructor <;> intro h_ <;> first | omega | exact h_.elim)
theorem dev_Open_calls (d : Dv) (s : Ds) (zp : List (Zo × Sl)) (w : World) (hW : DvW d) (hM : DM w d s zp) :
    Calls Try.prog 24 #[.agg (dvC d s).toArray] w fun e w' => e = .returned (.int .i64 (opD d)) ∧ Ext w w' := by
  have hlen := hM.len
  have hzl := hW.zl
  have hzz := hM.zz
  have hsz := hM.sz
  have p1 := dvC_one d s
  have hzs := hM.zs
  have hzm := hM.zm
  obtain ⟨⟨ZA, Zm, Zc⟩, r0, r1, f0, f1⟩ := s
  dsimp only at hlen hzz hsz hzm
  unfold opD
  rw [hlen]
  refine calls_W (args := [.agg (dvC d ⟨⟨ZA, Zm, Zc⟩, r0, r1, f0, f1⟩).toArray]) Try.func24 rfl 19 rfl ?_
  (repeat' (first | (refine WL_is ?_; first | refine WL_nil ?_ | refine wl_ ?_ ) | (refine WC_is ?_; first | refine WC_seq (fun _ _ => ?_) | refine wc_ ?_) | (refine WQ_is ?_; first | refine wq_ ?_ | refine WQ_bodyAC (Or.inl rfl) rfl rfl rfl blk_ lr_ blk_ ?_ | refine WQ_bodyAC (Or.inr rfl) rfl rfl rfl blk_ lr_ blk_ ?_) | (refine Kb.mk ?_; intro b_ w_ hb_ hl_ hx_ hB_) | (refine Ks.mk ?_; intro w_ hz_ hx_ hB_) | (refine Ko.mk ?_; intro A_ c_ w_ hx_ ho_ hr_; have hz_ := hx_.size; have hq_ := own_cap ho_) | (refine Kp.mk ?_; intro A_ c_ w_ hx_ hz_ ho_ hr_ hp_; have hq_ := own_cap ho_) | (refine Kl.mk ?_; intro b_ w_ hb_ hl_ hx_ hB_ ho_) | (refine Km.mk ?_; intro b_ w_ hb_ hl_ hx_ ho_) | (refine Ke.mk ?_; intro r_ hr_) | (refine Kg.mk ?_ ?_ <;> intro hs_ <;> (try simp only [strEq_t, strEq_f, decide_eq_true_eq, decide_eq_false_iff_not, beq_iff_eq, beq_eq_false_iff_ne, bne_iff_ne, bne_eq_false_iff_eq, Bool.not_eq_true', Bool.not_eq_false', Bool.not_true, Bool.not_false, gt_iff_lt, ge_iff_le, Int.not_lt, Int.not_le, ne_eq, Bool.false_eq_true, not_true_eq_false, reduceCtorEq] at hs_) <;> (try (exfalso; first | exact hs_ | (exact hs_ rfl) | omega))) | (refine WX_is ?_; first | refine wx_ ?_ | exact WX_altnil | (refine WX_isRd ?_; first | (refine WX_isT ?_; refine WX_readT rfl rfl rfl rfl rfl (by (first | refine wl_ ?_); refine WL_nil ?_; exact DR_mk rfl) ?_) | (refine WX_isF ?_; refine WX_read rfl rfl rfl rfl rfl (fun w_ hx_ => by (first | refine wl_ ?_); refine WL_nil ?_; exact DR_mk rfl) ?_) | refine WX_nilP rfl rfl rfl rfl rfl rfl ?_ | refine wxg_ ?_) | (refine WX_isAct ?_; first | refine WX_eff1 rfl (fun _ _ => ?_) | refine WX_eff rfl (fun _ _ => ?_) ?_))))
  refine WC_loopL (X := Nat) [6, 7, 18] rfl (fun i w' => i ≤ Zm ∧ Ext w w') (fun i => [(8, .int .i64 i), (2, .int .i64 (opT d.zs i))]) (fun i => Zm - i) 0 ⟨om_, ext_⟩ env_ ?_
  intro i w2 ⟨hi, hx2⟩ K hK
  have hz2 := hx2.size
  have hop := opT_le d.zs i
  rcases Nat.lt_or_ge i Zm with hlt | hge
  · obtain ⟨p, hp⟩ : ∃ p, zp[i]? = some p := ⟨_, List.getElem?_eq_getElem om_⟩
    have hld := zp_load hp
    have hst := opT_step d.zs i
    have hi' : (d.zs[i]?).map (·.s) = some p.1.s := by rw [← hzs, List.getElem?_map, hp]; rfl
    rw [hi'] at hst
    have hpl := zpC_length p
    have hpo : ∀ u ∈ zpC p, u.oneCell' = true := by
      intro u hu
      simp only [zpC, List.mem_cons, List.not_mem_nil, or_false] at hu
      rcases hu with rfl | rfl | rfl <;> rfl
    by_cases hs : p.1.s = 1
    · rw [if_pos (by rw [hs])] at hst
      have em : ((opT d.zs (i + 1) : Nat) : Int) = (opT d.zs i : Int) + 1 := by omega
      (repeat' (first | (refine WL_is ?_; first | refine WL_nil ?_ | (refine WL_isIndexAddr ?_; refine WL_indexS rfl rfl rfl rfl cells_ om_ om_ om_ ?_) | (refine WL_isLoad ?_; refine WL_loadPA rfl rfl rfl cells_ hpl om_ hld ?_) | (refine WL_isBin ?_; refine WL_ieT rfl rfl rfl rfl hs ?_) | refine wl_ ?_ ) | (refine WC_is ?_; first | refine WC_seq (fun _ _ => ?_) | refine wc_ ?_) | (refine WQ_is ?_; first | refine wq_ ?_ | refine WQ_bodyAC (Or.inl rfl) rfl rfl rfl blk_ lr_ blk_ ?_ | refine WQ_bodyAC (Or.inr rfl) rfl rfl rfl blk_ lr_ blk_ ?_) | (refine Kb.mk ?_; intro b_ w_ hb_ hl_ hx_ hB_) | (refine Ks.mk ?_; intro w_ hz_ hx_ hB_) | (refine Ko.mk ?_; intro A_ c_ w_ hx_ ho_ hr_; have hz_ := hx_.size; have hq_ := own_cap ho_) | (refine Kp.mk ?_; intro A_ c_ w_ hx_ hz_ ho_ hr_ hp_; have hq_ := own_cap ho_) | (refine Kl.mk ?_; intro b_ w_ hb_ hl_ hx_ hB_ ho_) | (refine Km.mk ?_; intro b_ w_ hb_ hl_ hx_ ho_) | (refine Ke.mk ?_; intro r_ hr_) | (refine Kg.mk ?_ ?_ <;> intro hs_ <;> (try simp only [strEq_t, strEq_f, decide_eq_true_eq, decide_eq_false_iff_not, beq_iff_eq, beq_eq_false_iff_ne, bne_iff_ne, bne_eq_false_iff_eq, Bool.not_eq_true', Bool.not_eq_false', Bool.not_true, Bool.not_false, gt_iff_lt, ge_iff_le, Int.not_lt, Int.not_le, ne_eq, Bool.false_eq_true, not_true_eq_false, reduceCtorEq] at hs_) <;> (try (exfalso; first | exact hs_ | (exact hs_ rfl) | omega))) | (refine WX_is ?_; first | refine wx_ ?_ | exact WX_altnil | (refine WX_isRd ?_; first | (refine WX_isT ?_; refine WX_readT rfl rfl rfl rfl rfl (by (first | (refine WL_isIndexAddr ?_; refine WL_indexS rfl rfl rfl rfl cells_ om_ om_ om_ ?_) | (refine WL_isLoad ?_; refine WL_loadPA rfl rfl rfl cells_ hpl om_ hld ?_) | (refine WL_isBin ?_; refine WL_ieT rfl rfl rfl rfl hs ?_) | refine wl_ ?_); refine WL_nil ?_; exact DR_mk rfl) ?_) | (refine WX_isF ?_; refine WX_read rfl rfl rfl rfl rfl (fun w_ hx_ => by (first | (refine WL_isIndexAddr ?_; refine WL_indexS rfl rfl rfl rfl cells_ om_ om_ om_ ?_) | (refine WL_isLoad ?_; refine WL_loadPA rfl rfl rfl cells_ hpl om_ hld ?_) | (refine WL_isBin ?_; refine WL_ieT rfl rfl rfl rfl hs ?_) | refine wl_ ?_); refine WL_nil ?_; exact DR_mk rfl) ?_) | refine WX_nilP rfl rfl rfl rfl rfl rfl ?_ | refine wxg_ ?_) | (refine WX_isAct ?_; first | refine WX_eff1 rfl (fun _ _ => ?_) | refine WX_eff rfl (fun _ _ => ?_) ?_))))
      all_goals first | (exfalso; omega) | (refine WQ_againL hK (i + 1) ⟨om_, ext_⟩ ?_ om_; rw [em]; exact env_)
    · rw [if_neg (by simpa using hs)] at hst
      have em : ((opT d.zs (i + 1) : Nat) : Int) = (opT d.zs i : Int) := by omega
      (repeat' (first | (refine WL_is ?_; first | refine WL_nil ?_ | (refine WL_isIndexAddr ?_; refine WL_indexS rfl rfl rfl rfl cells_ om_ om_ om_ ?_) | (refine WL_isLoad ?_; refine WL_loadPA rfl rfl rfl cells_ hpl om_ hld ?_) | (refine WL_isBin ?_; refine WL_ieF rfl rfl rfl rfl hs ?_) | refine wl_ ?_ ) | (refine WC_is ?_; first | refine WC_seq (fun _ _ => ?_) | refine wc_ ?_) | (refine WQ_is ?_; first | refine wq_ ?_ | refine WQ_bodyAC (Or.inl rfl) rfl rfl rfl blk_ lr_ blk_ ?_ | refine WQ_bodyAC (Or.inr rfl) rfl rfl rfl blk_ lr_ blk_ ?_) | (refine Kb.mk ?_; intro b_ w_ hb_ hl_ hx_ hB_) | (refine Ks.mk ?_; intro w_ hz_ hx_ hB_) | (refine Ko.mk ?_; intro A_ c_ w_ hx_ ho_ hr_; have hz_ := hx_.size; have hq_ := own_cap ho_) | (refine Kp.mk ?_; intro A_ c_ w_ hx_ hz_ ho_ hr_ hp_; have hq_ := own_cap ho_) | (refine Kl.mk ?_; intro b_ w_ hb_ hl_ hx_ hB_ ho_) | (refine Km.mk ?_; intro b_ w_ hb_ hl_ hx_ ho_) | (refine Ke.mk ?_; intro r_ hr_) | (refine Kg.mk ?_ ?_ <;> intro hs_ <;> (try simp only [strEq_t, strEq_f, decide_eq_true_eq, decide_eq_false_iff_not, beq_iff_eq, beq_eq_false_iff_ne, bne_iff_ne, bne_eq_false_iff_eq, Bool.not_eq_true', Bool.not_eq_false', Bool.not_true, Bool.not_false, gt_iff_lt, ge_iff_le, Int.not_lt, Int.not_le, ne_eq, Bool.false_eq_true, not_true_eq_false, reduceCtorEq] at hs_) <;> (try (exfalso; first | exact hs_ | (exact hs_ rfl) | omega))) | (refine WX_is ?_; first | refine wx_ ?_ | exact WX_altnil | (refine WX_isRd ?_; first | (refine WX_isT ?_; refine WX_readT rfl rfl rfl rfl rfl (by (first | (refine WL_isIndexAddr ?_; refine WL_indexS rfl rfl rfl rfl cells_ om_ om_ om_ ?_) | (refine WL_isLoad ?_; refine WL_loadPA rfl rfl rfl cells_ hpl om_ hld ?_) | (refine WL_isBin ?_; refine WL_ieF rfl rfl rfl rfl hs ?_) | refine wl_ ?_); refine WL_nil ?_; exact DR_mk rfl) ?_) | (refine WX_isF ?_; refine WX_read rfl rfl rfl rfl rfl (fun w_ hx_ => by (first | (refine WL_isIndexAddr ?_; refine WL_indexS rfl rfl rfl rfl cells_ om_ om_ om_ ?_) | (refine WL_isLoad ?_; refine WL_loadPA rfl rfl rfl cells_ hpl om_ hld ?_) | (refine WL_isBin ?_; refine WL_ieF rfl rfl rfl rfl hs ?_) | refine wl_ ?_); refine WL_nil ?_; exact DR_mk rfl) ?_) | refine WX_nilP rfl rfl rfl rfl rfl rfl ?_ | refine wxg_ ?_) | (refine WX_isAct ?_; first | refine WX_eff1 rfl (fun _ _ => ?_) | refine WX_eff rfl (fun _ _ => ?_) ?_))))
      all_goals first | (exfalso; omega) | (refine WQ_againL hK (i + 1) ⟨om_, ext_⟩ ?_ om_; rw [em]; exact env_)
  · obtain rfl : i = Zm := by omega
    (repeat' (first | (refine WL_is ?_; first | refine WL_nil ?_ | refine wl_ ?_ ) | (refine WC_is ?_; first | refine WC_seq (fun _ _ => ?_) | refine wc_ ?_) | (refine WQ_is ?_; first | refine wq_ ?_ | refine WQ_bodyAC (Or.inl rfl) rfl rfl rfl blk_ lr_ blk_ ?_ | refine WQ_bodyAC (Or.inr rfl) rfl rfl rfl blk_ lr_ blk_ ?_) | (refine Kb.mk ?_; intro b_ w_ hb_ hl_ hx_ hB_) | (refine Ks.mk ?_; intro w_ hz_ hx_ hB_) | (refine Ko.mk ?_; intro A_ c_ w_ hx_ ho_ hr_; have hz_ := hx_.size; have hq_ := own_cap ho_) | (refine Kp.mk ?_; intro A_ c_ w_ hx_ hz_ ho_ hr_ hp_; have hq_ := own_cap ho_) | (refine Kl.mk ?_; intro b_ w_ hb_ hl_ hx_ hB_ ho_) | (refine Km.mk ?_; intro b_ w_ hb_ hl_ hx_ ho_) | (refine Ke.mk ?_; intro r_ hr_) | (refine Kg.mk ?_ ?_ <;> intro hs_ <;> (try simp only [strEq_t, strEq_f, decide_eq_true_eq, decide_eq_false_iff_not, beq_iff_eq, beq_eq_false_iff_ne, bne_iff_ne, bne_eq_false_iff_eq, Bool.not_eq_true', Bool.not_eq_false', Bool.not_true, Bool.not_false, gt_iff_lt, ge_iff_le, Int.not_lt, Int.not_le, ne_eq, Bool.false_eq_true, not_true_eq_false, reduceCtorEq] at hs_) <;> (try (exfalso; first | exact hs_ | (exact hs_ rfl) | omega))) | (refine WX_is ?_; first | refine wx_ ?_ | exact WX_altnil | (refine WX_isRd ?_; first | (refine WX_isT ?_; refine WX_readT rfl rfl rfl rfl rfl (by (first | refine wl_ ?_); refine WL_nil ?_; exact DR_mk rfl) ?_) | (refine WX_isF ?_; refine WX_read rfl rfl rfl rfl rfl (fun w_ hx_ => by (first | refine wl_ ?_); refine WL_nil ?_; exact DR_mk rfl) ?_) | refine WX_nilP rfl rfl rfl rfl rfl rfl ?_ | refine wxg_ ?_) | (refine WX_isAct ?_; first | refine WX_eff1 rfl (fun _ _ => ?_) | refine WX_eff rfl (fun _ _ => ?_) ?_))))
    all_goals first | (exfalso; omega) | exact ⟨rfl, ext_⟩
end Go.Proofs.Ytemfngomfiimfaa.K
