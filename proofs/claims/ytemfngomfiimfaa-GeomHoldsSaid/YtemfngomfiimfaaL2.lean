/- Chapter 16 (log): the first zone of a state that has room, and where bytes are placed. Seat-free. -/
import Derived.Test.YtemfngomfiimfaaL1
set_option linter.unusedVariables false
set_option linter.unusedSimpArgs false
set_option maxHeartbeats 4000000
set_option maxRecDepth 20000
namespace Go.Proofs.Ytemfngomfiimfaa.K
open Go.RowKit
attribute [local irreducible] strEq strOfNums Calls WL WC WQ WX Code.wp wpList bodyPost
/-- A zone of a state, that has room. -/
def Fits (z : Zo) (st n sz : Int) : Prop := z.s = st ∧ n ≤ sz - z.d.length
instance (z : Zo) (st n sz : Int) : Decidable (Fits z st n sz) := by unfold Fits; infer_instance
theorem log_first1_calls (z : Zo) (b : Sl) (st n : Int) (d : Dv) (s : Ds) (bs bd bn T1 T2 : Nat) (w : World) (hz : Zst z) (hb : z.d.length = b.m) (hs : 0 < d.sz ∧ d.sz ≤ 65536) (hBs : Blk w bs [.int .i64 st] T1) (hB : Blk w bd (dvC d s) DeT) (hBn : Blk w bn [.int .i64 n] T2) :
    Calls Try.prog 32 #[.agg (zpC (z, b)).toArray, .pointer (some ⟨bs, 0, none⟩), .pointer (some ⟨bd, 0, none⟩), .pointer (some ⟨bn, 0, none⟩)] w fun e w' => e = .returned (.bool (decide (Fits z st n d.sz))) ∧ Ext w w' := by
  have hsm := hz.small
  obtain ⟨A, m, c⟩ := b
  dsimp only at hb
  subst hb
  by_cases h : z.s = st
  · have e1 : decide (Fits z st n d.sz) = decide (d.sz - (z.d.length : Int) ≥ n) := decide_eq_decide.2 ⟨fun k => k.2, fun k => ⟨h, k⟩⟩
    rw [e1]
    refine calls_W (args := [.agg #[.int .i64 z.s, .slice A z.d.length c, .int .i64 z.l], .pointer (some ⟨bs, 0, none⟩), .pointer (some ⟨bd, 0, none⟩), .pointer (some ⟨bn, 0, none⟩)]) Try.func32 rfl 20 rfl ?_
    (repeat' (first | (refine WL_is ?_; first | refine WL_nil ?_ | (refine WL_isBin ?_; refine WL_ieT rfl rfl rfl rfl h ?_) | refine wl_ ?_ ) | (refine WC_is ?_; first | refine WC_seq (fun _ _ => ?_) | refine wc_ ?_) | (refine WQ_is ?_; first | refine wq_ ?_) | (refine Kb.mk ?_; intro b_ w_ hb_ hl_ hx_ hB_) | (refine Ks.mk ?_; intro w_ hz_ hx_ hB_) | (refine Ko.mk ?_; intro A_ c_ w_ hx_ ho_ hr_; have hz_ := hx_.size; have hq_ := own_cap ho_) | (refine Kp.mk ?_; intro A_ c_ w_ hx_ hz_ ho_ hr_ hp_; have hq_ := own_cap ho_) | (refine Kl.mk ?_; intro b_ w_ hb_ hl_ hx_ hB_ ho_) | (refine Km.mk ?_; intro b_ w_ hb_ hl_ hx_ ho_) | (refine Ke.mk ?_; intro r_ hr_) | (refine Kg.mk ?_ ?_ <;> intro hs_ <;> (try simp only [strEq_t, strEq_f, decide_eq_true_eq, decide_eq_false_iff_not, beq_iff_eq, beq_eq_false_iff_ne, bne_iff_ne, bne_eq_false_iff_eq, Bool.not_eq_true', Bool.not_eq_false', Bool.not_true, Bool.not_false, gt_iff_lt, ge_iff_le, Int.not_lt, Int.not_le, ne_eq, Bool.false_eq_true, not_true_eq_false, reduceCtorEq] at hs_) <;> (try (exfalso; first | exact hs_ | (exact hs_ rfl) | omega))) ))
    all_goals exact ⟨rfl, ext_⟩
  · rw [decide_eq_false (fun k => h k.1)]
    refine calls_W (args := [.agg #[.int .i64 z.s, .slice A z.d.length c, .int .i64 z.l], .pointer (some ⟨bs, 0, none⟩), .pointer (some ⟨bd, 0, none⟩), .pointer (some ⟨bn, 0, none⟩)]) Try.func32 rfl 20 rfl ?_
    (repeat' (first | (refine WL_is ?_; first | refine WL_nil ?_ | (refine WL_isBin ?_; refine WL_ieF rfl rfl rfl rfl h ?_) | refine wl_ ?_ ) | (refine WC_is ?_; first | refine WC_seq (fun _ _ => ?_) | refine wc_ ?_) | (refine WQ_is ?_; first | refine wq_ ?_) | (refine Kb.mk ?_; intro b_ w_ hb_ hl_ hx_ hB_) | (refine Ks.mk ?_; intro w_ hz_ hx_ hB_) | (refine Ko.mk ?_; intro A_ c_ w_ hx_ ho_ hr_; have hz_ := hx_.size; have hq_ := own_cap ho_) | (refine Kp.mk ?_; intro A_ c_ w_ hx_ hz_ ho_ hr_ hp_; have hq_ := own_cap ho_) | (refine Kl.mk ?_; intro b_ w_ hb_ hl_ hx_ hB_ ho_) | (refine Km.mk ?_; intro b_ w_ hb_ hl_ hx_ ho_) | (refine Ke.mk ?_; intro r_ hr_) | (refine Kg.mk ?_ ?_ <;> intro hs_ <;> (try simp only [strEq_t, strEq_f, decide_eq_true_eq, decide_eq_false_iff_not, beq_iff_eq, beq_eq_false_iff_ne, bne_iff_ne, bne_eq_false_iff_eq, Bool.not_eq_true', Bool.not_eq_false', Bool.not_true, Bool.not_false, gt_iff_lt, ge_iff_le, Int.not_lt, Int.not_le, ne_eq, Bool.false_eq_true, not_true_eq_false, reduceCtorEq] at hs_) <;> (try (exfalso; first | exact hs_ | (exact hs_ rfl) | omega))) ))
    all_goals exact ⟨rfl, ext_⟩
abbrev FFst : FuncId := 32
theorem slices_IndexFirst_calls (zp : List (Zo × Sl)) (d : Dv) (s : Ds) (st n : Int) (bs bd bn T1 T2 : Nat) (A : Option Addr) (m c : Nat) (w : World) (hm : zp.length = m) (hs : m ≤ 1000000) (hzw : ∀ p ∈ zp, Zst p.1) (hzb : ∀ p ∈ zp, p.1.d.length = p.2.m) (hsz : 0 < d.sz ∧ d.sz ≤ 65536) (hC : Cells w A (catC zpC zp)) (hBs : Blk w bs [.int .i64 st] T1) (hB : Blk w bd (dvC d s) DeT) (hBn : Blk w bn [.int .i64 n] T2) :
    Calls Try.prog 31 #[.slice A m c, .func (.func FFst) #[] #[.pointer (some ⟨bs, 0, none⟩), .pointer (some ⟨bd, 0, none⟩), .pointer (some ⟨bn, 0, none⟩)]] w fun e w' => ∃ r : Int, e = .returned (.int .i64 r) ∧ ((r = -1 ∧ ∀ p ∈ zp, ¬ Fits p.1 st n d.sz) ∨ ∃ (i : Nat) (p : Zo × Sl), r = (i : Int) ∧ zp[i]? = some p ∧ Fits p.1 st n d.sz) ∧ Ext w w' := by
  have hcl : (catC zpC zp).length = m * 3 := by rw [catC_length zpC_length, hm]
  have hlB := hB.lt
  have hlS := hBs.lt
  have hlN := hBn.lt
  refine calls_W (args := [.slice A m c, .func (.func FFst) #[] #[.pointer (some ⟨bs, 0, none⟩), .pointer (some ⟨bd, 0, none⟩), .pointer (some ⟨bn, 0, none⟩)]]) Try.func31 rfl 19 rfl ?_
  (repeat' (first | (refine WL_is ?_; first | refine WL_nil ?_ | refine wl_ ?_ ) | (refine WC_is ?_; first | refine WC_seq (fun _ _ => ?_) | refine wc_ ?_) | (refine WQ_is ?_; first | refine wq_ ?_) | (refine Kb.mk ?_; intro b_ w_ hb_ hl_ hx_ hB_) | (refine Ks.mk ?_; intro w_ hz_ hx_ hB_) | (refine Ko.mk ?_; intro A_ c_ w_ hx_ ho_ hr_; have hz_ := hx_.size; have hq_ := own_cap ho_) | (refine Kp.mk ?_; intro A_ c_ w_ hx_ hz_ ho_ hr_ hp_; have hq_ := own_cap ho_) | (refine Kl.mk ?_; intro b_ w_ hb_ hl_ hx_ hB_ ho_) | (refine Km.mk ?_; intro b_ w_ hb_ hl_ hx_ ho_) | (refine Ke.mk ?_; intro r_ hr_) | (refine Kg.mk ?_ ?_ <;> intro hs_ <;> (try simp only [strEq_t, strEq_f, decide_eq_true_eq, decide_eq_false_iff_not, beq_iff_eq, beq_eq_false_iff_ne, bne_iff_ne, bne_eq_false_iff_eq, Bool.not_eq_true', Bool.not_eq_false', Bool.not_true, Bool.not_false, gt_iff_lt, ge_iff_le, Int.not_lt, Int.not_le, ne_eq, Bool.false_eq_true, not_true_eq_false, reduceCtorEq] at hs_) <;> (try (exfalso; first | exact hs_ | (exact hs_ rfl) | omega))) ))
  refine WC_loopL (X := Nat) [0, 1, 7] rfl (fun i w' => (i ≤ m ∧ ∀ j p, j < i → zp[j]? = some p → ¬ Fits p.1 st n d.sz) ∧ Ext w w') (fun i => [(8, .int .i64 i)]) (fun i => m - i) 0 ⟨⟨om_, fun j p h => absurd h om_⟩, ext_⟩ env_ ?_
  intro i w2 ⟨⟨hi, hok⟩, hx2⟩ K hK
  have hz2 := hx2.size
  have b1 := hBs.ext hx2
  have b2 := hB.ext hx2
  have b3 := hBn.ext hx2
  rcases Nat.lt_or_ge i m with hlt | hge
  · obtain ⟨p, hp⟩ : ∃ p, zp[i]? = some p := ⟨_, List.getElem?_eq_getElem om_⟩
    have hmem := List.mem_of_getElem? hp
    have hld := zp_load hp
    have hpl := zpC_length p
    have a1 := fun w hBs hB hBn => log_first1_calls p.1 p.2 st n d s bs bd bn T1 T2 w (hzw p hmem) (hzb p hmem) hsz hBs hB hBn
    by_cases hO : Fits p.1 st n d.sz
    · rw [decide_eq_true hO] at a1
      (repeat' (first | (refine WL_is ?_; first | refine WL_nil ?_ | (refine WL_isIndexAddr ?_; refine WL_indexS rfl rfl rfl rfl cells_ om_ om_ om_ ?_) | (refine WL_isLoad ?_; refine WL_loadPA rfl rfl rfl cells_ hpl om_ hld ?_) | refine wl_ ?_ | (refine WL_callv rfl rfl rfl rfl (a1 _ blk_ blk_ blk_) rfl ?_; rintro _ w_ ⟨rfl, hx_⟩; have hz_ := hx_.size; refine ⟨_, rfl, ?_⟩)) | (refine WC_is ?_; first | refine WC_seq (fun _ _ => ?_) | refine wc_ ?_) | (refine WQ_is ?_; first | refine wq_ ?_) | (refine Kb.mk ?_; intro b_ w_ hb_ hl_ hx_ hB_) | (refine Ks.mk ?_; intro w_ hz_ hx_ hB_) | (refine Ko.mk ?_; intro A_ c_ w_ hx_ ho_ hr_; have hz_ := hx_.size; have hq_ := own_cap ho_) | (refine Kp.mk ?_; intro A_ c_ w_ hx_ hz_ ho_ hr_ hp_; have hq_ := own_cap ho_) | (refine Kl.mk ?_; intro b_ w_ hb_ hl_ hx_ hB_ ho_) | (refine Km.mk ?_; intro b_ w_ hb_ hl_ hx_ ho_) | (refine Ke.mk ?_; intro r_ hr_) | (refine Kg.mk ?_ ?_ <;> intro hs_ <;> (try simp only [strEq_t, strEq_f, decide_eq_true_eq, decide_eq_false_iff_not, beq_iff_eq, beq_eq_false_iff_ne, bne_iff_ne, bne_eq_false_iff_eq, Bool.not_eq_true', Bool.not_eq_false', Bool.not_true, Bool.not_false, gt_iff_lt, ge_iff_le, Int.not_lt, Int.not_le, ne_eq, Bool.false_eq_true, not_true_eq_false, reduceCtorEq] at hs_) <;> (try (exfalso; first | exact hs_ | (exact hs_ rfl) | omega))) ))
      all_goals first | (exfalso; omega) | exact ⟨_, rfl, .inr ⟨i, p, rfl, hp, hO⟩, ext_⟩
    · rw [decide_eq_false hO] at a1
      (repeat' (first | (refine WL_is ?_; first | refine WL_nil ?_ | (refine WL_isIndexAddr ?_; refine WL_indexS rfl rfl rfl rfl cells_ om_ om_ om_ ?_) | (refine WL_isLoad ?_; refine WL_loadPA rfl rfl rfl cells_ hpl om_ hld ?_) | refine wl_ ?_ | (refine WL_callv rfl rfl rfl rfl (a1 _ blk_ blk_ blk_) rfl ?_; rintro _ w_ ⟨rfl, hx_⟩; have hz_ := hx_.size; refine ⟨_, rfl, ?_⟩)) | (refine WC_is ?_; first | refine WC_seq (fun _ _ => ?_) | refine wc_ ?_) | (refine WQ_is ?_; first | refine wq_ ?_) | (refine Kb.mk ?_; intro b_ w_ hb_ hl_ hx_ hB_) | (refine Ks.mk ?_; intro w_ hz_ hx_ hB_) | (refine Ko.mk ?_; intro A_ c_ w_ hx_ ho_ hr_; have hz_ := hx_.size; have hq_ := own_cap ho_) | (refine Kp.mk ?_; intro A_ c_ w_ hx_ hz_ ho_ hr_ hp_; have hq_ := own_cap ho_) | (refine Kl.mk ?_; intro b_ w_ hb_ hl_ hx_ hB_ ho_) | (refine Km.mk ?_; intro b_ w_ hb_ hl_ hx_ ho_) | (refine Ke.mk ?_; intro r_ hr_) | (refine Kg.mk ?_ ?_ <;> intro hs_ <;> (try simp only [strEq_t, strEq_f, decide_eq_true_eq, decide_eq_false_iff_not, beq_iff_eq, beq_eq_false_iff_ne, bne_iff_ne, bne_eq_false_iff_eq, Bool.not_eq_true', Bool.not_eq_false', Bool.not_true, Bool.not_false, gt_iff_lt, ge_iff_le, Int.not_lt, Int.not_le, ne_eq, Bool.false_eq_true, not_true_eq_false, reduceCtorEq] at hs_) <;> (try (exfalso; first | exact hs_ | (exact hs_ rfl) | omega))) ))
      all_goals first | (exfalso; omega) | exact WQ_againL hK (i + 1) ⟨⟨om_, fun j q hj hq => by
          rcases Nat.lt_or_ge j i with h | h
          · exact hok j q h hq
          · obtain rfl : j = i := by omega
            rw [hp] at hq; cases hq; exact hO⟩, ext_⟩ env_ om_
  · obtain rfl : i = m := by omega
    (repeat' (first | (refine WL_is ?_; first | refine WL_nil ?_ | refine wl_ ?_ ) | (refine WC_is ?_; first | refine WC_seq (fun _ _ => ?_) | refine wc_ ?_) | (refine WQ_is ?_; first | refine wq_ ?_) | (refine Kb.mk ?_; intro b_ w_ hb_ hl_ hx_ hB_) | (refine Ks.mk ?_; intro w_ hz_ hx_ hB_) | (refine Ko.mk ?_; intro A_ c_ w_ hx_ ho_ hr_; have hz_ := hx_.size; have hq_ := own_cap ho_) | (refine Kp.mk ?_; intro A_ c_ w_ hx_ hz_ ho_ hr_ hp_; have hq_ := own_cap ho_) | (refine Kl.mk ?_; intro b_ w_ hb_ hl_ hx_ hB_ ho_) | (refine Km.mk ?_; intro b_ w_ hb_ hl_ hx_ ho_) | (refine Ke.mk ?_; intro r_ hr_) | (refine Kg.mk ?_ ?_ <;> intro hs_ <;> (try simp only [strEq_t, strEq_f, decide_eq_true_eq, decide_eq_false_iff_not, beq_iff_eq, beq_eq_false_iff_ne, bne_iff_ne, bne_eq_false_iff_eq, Bool.not_eq_true', Bool.not_eq_false', Bool.not_true, Bool.not_false, gt_iff_lt, ge_iff_le, Int.not_lt, Int.not_le, ne_eq, Bool.false_eq_true, not_true_eq_false, reduceCtorEq] at hs_) <;> (try (exfalso; first | exact hs_ | (exact hs_ rfl) | omega))) ))
    all_goals first | (exfalso; omega) | exact ⟨_, rfl, .inl ⟨rfl, fun p hp => by
      obtain ⟨j, hj, e⟩ := List.getElem_of_mem hp
      exact hok j p om_ (by rw [List.getElem?_eq_getElem hj, e])⟩, ext_⟩
theorem log_first_calls (st n : Int) (d : Dv) (s : Ds) (zp : List (Zo × Sl)) (w : World) (hW : DvW d) (hO : OkD d) (hM : DM w d s zp) :
    Calls Try.prog 23 #[.agg (dvC d s).toArray, .int .i64 st, .int .i64 n] w fun e w' => ∃ r : Int, e = .returned (.int .i64 r) ∧ ((r = -1 ∧ ∀ z ∈ d.zs, ¬ Fits z st n d.sz) ∨ ∃ (i : Nat) (z : Zo), r = (i : Int) ∧ d.zs[i]? = some z ∧ Fits z st n d.sz) ∧ Ext w w' := by
  have hzl := hW.zl
  have hlen := hM.len
  have hzz := hM.zz
  have hzm := hM.zm
  have hzs := hM.zs
  have p1 := dvC_one d s
  obtain ⟨q1, q2, _⟩ := hM.zw hW
  obtain ⟨⟨ZA, Zm, Zc⟩, r0, r1, f0, f1⟩ := s
  dsimp only at hlen hzz hzm
  have a1 := fun bs bd bn T1 T2 w hC hBs hB hBn => slices_IndexFirst_calls zp d ⟨⟨ZA, Zm, Zc⟩, r0, r1, f0, f1⟩ st n bs bd bn T1 T2 ZA Zm Zc w hzm om_ q1 q2 hO.2.2.2.2 hC hBs hB hBn
  generalize catC zpC zp = cs at *
  refine calls_W (args := [.agg (dvC d ⟨⟨ZA, Zm, Zc⟩, r0, r1, f0, f1⟩).toArray, .int .i64 st, .int .i64 n]) Try.func23 rfl 11 rfl ?_
  (repeat' (first | (refine WL_is ?_; first | refine WL_nil ?_ | refine wl_ ?_ | (refine WL_isFn ?_; refine WL_call rfl rfl rfl (a1 _ _ _ _ _ _ cells_ blk_ blk_ blk_) ?_; rintro _ w_ ⟨r_, rfl, hr_, hx_⟩; have hz_ := hx_.size; refine ⟨_, rfl, ?_⟩)) | (refine WC_is ?_; first | refine WC_seq (fun _ _ => ?_) | refine wc_ ?_) | (refine WQ_is ?_; first | refine wq_ ?_) | (refine Kb.mk ?_; intro b_ w_ hb_ hl_ hx_ hB_) | (refine Ks.mk ?_; intro w_ hz_ hx_ hB_) | (refine Ko.mk ?_; intro A_ c_ w_ hx_ ho_ hr_; have hz_ := hx_.size; have hq_ := own_cap ho_) | (refine Kp.mk ?_; intro A_ c_ w_ hx_ hz_ ho_ hr_ hp_; have hq_ := own_cap ho_) | (refine Kl.mk ?_; intro b_ w_ hb_ hl_ hx_ hB_ ho_) | (refine Km.mk ?_; intro b_ w_ hb_ hl_ hx_ ho_) | (refine Ke.mk ?_; intro r_ hr_) | (refine Kg.mk ?_ ?_ <;> intro hs_ <;> (try simp only [strEq_t, strEq_f, decide_eq_true_eq, decide_eq_false_iff_not, beq_iff_eq, beq_eq_false_iff_ne, bne_iff_ne, bne_eq_false_iff_eq, Bool.not_eq_true', Bool.not_eq_false', Bool.not_true, Bool.not_false, gt_iff_lt, ge_iff_le, Int.not_lt, Int.not_le, ne_eq, Bool.false_eq_true, not_true_eq_false, reduceCtorEq] at hs_) <;> (try (exfalso; first | exact hs_ | (exact hs_ rfl) | omega))) ))
  all_goals
    refine ⟨_, rfl, ?_, ext_⟩
    rcases hr_ with ⟨h1, h2⟩ | ⟨i, p, h1, h2, h3⟩
    · exact .inl ⟨h1, fun z hz => by
        rw [← hzs] at hz
        obtain ⟨p, hp, rfl⟩ := List.mem_map.1 hz
        exact h2 p hp⟩
    · exact .inr ⟨i, p.1, h1, by rw [← hzs, List.getElem?_map, h2]; rfl, h3⟩
end Go.Proofs.Ytemfngomfiimfaa.K
