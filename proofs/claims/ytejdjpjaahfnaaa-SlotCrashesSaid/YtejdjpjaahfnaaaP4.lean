/- Chapter 12 (page): the document's Entered. Seat-free. -/
import Derived.Test.YtejdjpjaahfnaaaP3
set_option linter.unusedVariables false
set_option linter.unusedSimpArgs false
set_option maxHeartbeats 4000000
set_option maxRecDepth 20000
namespace Go.Proofs.Ytejdjpjaahfnaaa.K
open Go.RowKit
attribute [local irreducible] strEq strOfNums Calls WL WC WQ WX Code.wp wpList bodyPost
theorem enL_toE {bs : List Int} (hl : bs.length = 36) (hb : ∀ x ∈ bs, 0 ≤ x ∧ x < 256) (hq : b0 bs 0 ≤ 1) : enL (toE bs) = bs := by
  have q0 := b0_in hb 0
  have q2 := b0_in hb 2
  have q3 := b0_in hb 3
  have e0 : uN (decide (b0 bs 0 = 1)) = b0 bs 0 := by
    unfold uN
    by_cases h : b0 bs 0 = 1
    · simp [h]
    · simp [h]; omega
  have h4 := four hl
  conv => rhs; rw [← List.take_append_drop 4 bs, h4]
  unfold enL toE
  dsimp only
  rw [e0, show (b0 bs 2 + 256 * b0 bs 3) % 256 = b0 bs 2 by omega, show (b0 bs 2 + 256 * b0 bs 3) / 256 = b0 bs 3 by omega]
theorem enL_back {bs : List Int} (hl : bs.length = 36) (h : enL (toE bs) = bs) : b0 bs 0 ≤ 1 := by
  have h1 : b0 (enL (toE bs)) 0 = uN (toE bs).u := rfl
  rw [h] at h1
  have := uN_range (toE bs).u
  omega
/-- A key as it is filled. -/
def keyN (bs : List Int) (i : Nat) : List Int := (bs.drop 4).take i ++ List.replicate (32 - i) 0
theorem keyN_step {bs : List Int} (hl : bs.length = 36) {i : Nat} (hi : i < 32) (u : Bool) (z a : Int) : setC (enC ⟨u, z, a, keyN bs i⟩) (0 + 3 + i * 1) (.int .u8 (bs.getD (4 + i) 0)) = enC ⟨u, z, a, keyN bs (i + 1)⟩ := by
  have hdl : (bs.drop 4).length = 32 := by rw [List.length_drop]; omega
  rw [show 0 + 3 + i * 1 = i + 3 by omega]
  show Value.bool u :: Value.int .i64 z :: Value.int .i64 a :: setC ((keyN bs i).map (.int .u8)) i _ = _
  show _ = Value.bool u :: Value.int .i64 z :: Value.int .i64 a :: (keyN bs (i + 1)).map (.int .u8)
  congr 3
  rw [setC_set, ← List.map_set]
  congr 1
  unfold keyN
  have e1 : (bs.drop 4)[i]? = some (bs.getD (4 + i) 0) := by
    rw [List.getElem?_drop, List.getD_eq_getElem?_getD, List.getElem?_eq_getElem om_]; rfl
  rw [List.set_append, if_neg (by rw [List.length_take]; omega), show i - ((bs.drop 4).take i).length = 0 by rw [List.length_take]; omega, show 32 - i = (32 - (i + 1)) + 1 by omega, List.replicate_succ, List.set_cons_zero, List.take_add_one, e1]
  simp
theorem keyN_len {bs : List Int} (hl : bs.length = 36) {i : Nat} (hi : i ≤ 32) : (keyN bs i).length = 32 := by
  unfold keyN
  rw [List.length_append, List.length_take, List.length_replicate, List.length_drop]; omega
theorem fill_en3 {u : Bool} {z a : Int} : fillS [(0, 1), (1, 1), (2, 1), (3, 32)] (enC en0) [(0, .bool u), (1, .int .i64 z), (2, .int .i64 a)] = some (enC ⟨u, z, a, zk⟩) := rfl
theorem ref12_Entered_calls (bs : List Int) (A : Option Addr) (m c : Nat) (w : World) (hl : bs.length = m) (hb : ∀ x ∈ bs, 0 ≤ x ∧ x < 256) (hc : m ≤ c ∧ c ≤ 9223372036854775807) (hC : Cells w A (bs.map (.int .u8))) :
    Calls Try.prog 48 #[.slice A m c] w fun r w' => r = .returned (.tuple #[.agg (enC (rdEn bs)).toArray, .int .i64 (rdEE bs)]) ∧ Ext w w' := by
  have h0 := enC_length EnW.zero.len
  have ho := enC_one en0
  refine calls_W (args := [.slice A m c]) Try.func48 rfl 59 rfl ?_
  by_cases h36 : m = 36
  · have hbl : bs.length = 36 := by omega
    subst h36
    have q0 := b0_in hb 0
    have q1 := b0_in hb 1
    have q2 := b0_in hb 2
    have q3 := b0_in hb 3
    have hW := toE_W hbl hb
    have hf := fill_en3 (u := decide (b0 bs 0 = 1)) (z := b0 bs 1) (a := b0 bs 2 + 256 * b0 bs 3)
    have hel0 : (enC ⟨decide (b0 bs 0 = 1), b0 bs 1, b0 bs 2 + 256 * b0 bs 3, zk⟩).length = 35 := enC_length rfl
    have hone0 := enC_one ⟨decide (b0 bs 0 = 1), b0 bs 1, b0 bs 2 + 256 * b0 bs 3, zk⟩
    have g : ∀ i, i < 36 → (bs.map (Value.int .u8))[i]? = some (.int .u8 (b0 bs i)) := fun i hi => by
      rw [List.getElem?_map, List.getElem?_eq_getElem om_]
      unfold b0
      rw [List.getD_eq_getElem?_getD, List.getElem?_eq_getElem om_]; rfl
    have g0 : (bs.map (Value.int .u8))[Int.toNat 0]? = some (.int .u8 (b0 bs 0)) := g 0 om_
    have g1 : (bs.map (Value.int .u8))[Int.toNat 1]? = some (.int .u8 (b0 bs 1)) := g 1 om_
    have g2 : (bs.map (Value.int .u8))[Int.toNat 2]? = some (.int .u8 (b0 bs 2)) := g 2 om_
    have g3 : (bs.map (Value.int .u8))[Int.toNat 3]? = some (.int .u8 (b0 bs 3)) := g 3 om_
    (repeat' (first | (refine WL_is ?_; first | refine WL_nil ?_ | refine wl_ ?_ ) | (refine WC_is ?_; first | ((fail_if_success (refine WC_isReg (id := 3) ?_)); refine WC_seq (fun _ _ => ?_)) | refine wc_ ?_) | (refine WQ_is ?_; first | refine wq_ ?_) | (refine Kb.mk ?_; intro b_ w_ hb_ hl_ hx_ hB_) | (refine Ks.mk ?_; intro w_ hz_ hx_ hB_) | (refine Ko.mk ?_; intro A_ c_ w_ hx_ ho_ hr_; have hz_ := hx_.size; have hq_ := own_cap ho_) | (refine Kp.mk ?_; intro A_ c_ w_ hx_ hz_ ho_ hr_ hp_; have hq_ := own_cap ho_) | (refine Kl.mk ?_; intro b_ w_ hb_ hl_ hx_ hB_ ho_) | (refine Km.mk ?_; intro b_ w_ hb_ hl_ hx_ ho_) | (refine Ke.mk ?_; intro r_ hr_) | (refine Kg.mk ?_ ?_ <;> intro hs_ <;> (try simp only [strEq_t, strEq_f, decide_eq_true_eq, decide_eq_false_iff_not, beq_iff_eq, beq_eq_false_iff_ne, bne_iff_ne, bne_eq_false_iff_eq, Bool.not_eq_true', Bool.not_eq_false', Bool.not_true, Bool.not_false, gt_iff_lt, ge_iff_le, Int.not_lt, Int.not_le, ne_eq, Bool.false_eq_true, not_true_eq_false, reduceCtorEq] at hs_) <;> (try (exfalso; first | exact hs_ | (exact hs_ rfl) | omega))) ))
    obtain ⟨b2, rfl⟩ : ∃ x, x = b_ := ⟨_, rfl⟩
    have hB2 := hB_
    (repeat' (first | (refine WL_is ?_; first | refine WL_nil ?_ | (refine WL_isLoad ?_; first | refine WL_loadP rfl rfl rfl (Cells.ext hC ext_) g0 ?_ | refine WL_loadP rfl rfl rfl (Cells.ext hC ext_) g1 ?_ | refine WL_loadP rfl rfl rfl (Cells.ext hC ext_) g2 ?_ | refine WL_loadP rfl rfl rfl (Cells.ext hC ext_) g3 ?_) | refine wl_ ?_ ) | (refine WC_is ?_; first | refine WC_seq (fun _ _ => ?_) | refine WC_orderE (.rd false 0 (.rd false 1 (.rd false 2 (.rd false 3 (.rd false 4 (.rd false 5 (.rd false 6 (.rd false 7 (.rd false 8 (.rd false 9 (.rd false 10 (.rd false 11 (.rd false 12 (.rd false 13 (.rd false 14 (.rd false 15 (.rd false 16 (.rd false 17 (.rd false 18 (.act true 19 (.act false 20 .nil .nil) .nil)))))))))))))))))))) [[], [], [], [], [], [], [], [], [], [], [], [], [], [], [], [], [], [], [], [], [0, 1, 2, 3, 4, 5, 6, 7, 8, 9, 10, 11, 12, 13, 14, 15, 16, 17, 18, 19]] [19, 20] (some 20) 3 (by kernel_rfl) (by kernel_rfl) (fun w_ hx_ hz_ => ?_) | refine wc_ ?_) | (refine WQ_is ?_; first | refine wq_ ?_) | (refine Kb.mk ?_; intro b_ w_ hb_ hl_ hx_ hB_) | (refine Ks.mk ?_; intro w_ hz_ hx_ hB_) | (refine Ko.mk ?_; intro A_ c_ w_ hx_ ho_ hr_; have hz_ := hx_.size; have hq_ := own_cap ho_) | (refine Kp.mk ?_; intro A_ c_ w_ hx_ hz_ ho_ hr_ hp_; have hq_ := own_cap ho_) | (refine Kl.mk ?_; intro b_ w_ hb_ hl_ hx_ hB_ ho_) | (refine Km.mk ?_; intro b_ w_ hb_ hl_ hx_ ho_) | (refine Ke.mk ?_; intro r_ hr_) | (refine Kg.mk ?_ ?_ <;> intro hs_ <;> (try simp only [strEq_t, strEq_f, decide_eq_true_eq, decide_eq_false_iff_not, beq_iff_eq, beq_eq_false_iff_ne, bne_iff_ne, bne_eq_false_iff_eq, Bool.not_eq_true', Bool.not_eq_false', Bool.not_true, Bool.not_false, gt_iff_lt, ge_iff_le, Int.not_lt, Int.not_le, ne_eq, Bool.false_eq_true, not_true_eq_false, reduceCtorEq] at hs_) <;> (try (exfalso; first | exact hs_ | (exact hs_ rfl) | omega))) | (refine WX_is ?_; first | refine wx_ ?_ | exact WX_altnil | (refine WX_isRd ?_; first | (refine WX_isT ?_; refine WX_readT rfl rfl rfl rfl rfl (by (first | (refine WL_isLoad ?_; first | refine WL_loadP rfl rfl rfl (Cells.ext hC ext_) g0 ?_ | refine WL_loadP rfl rfl rfl (Cells.ext hC ext_) g1 ?_ | refine WL_loadP rfl rfl rfl (Cells.ext hC ext_) g2 ?_ | refine WL_loadP rfl rfl rfl (Cells.ext hC ext_) g3 ?_) | refine wl_ ?_); refine WL_nil ?_; exact DR_mk rfl) ?_) | (refine WX_isF ?_; refine WX_read rfl rfl rfl rfl rfl (fun w_ hx_ => by (first | (refine WL_isLoad ?_; first | refine WL_loadP rfl rfl rfl (Cells.ext hC ext_) g0 ?_ | refine WL_loadP rfl rfl rfl (Cells.ext hC ext_) g1 ?_ | refine WL_loadP rfl rfl rfl (Cells.ext hC ext_) g2 ?_ | refine WL_loadP rfl rfl rfl (Cells.ext hC ext_) g3 ?_) | refine wl_ ?_); refine WL_nil ?_; exact DR_mk rfl) ?_) | refine wxg_ ?_) | (refine WX_isAct ?_; first | refine WX_eff1 rfl (fun _ _ => ?_) | refine WX_eff rfl (fun _ _ => ?_) ?_))))
    have hB22 : Blk w_ b2 (enC en0) 24 := Blk.go hB2 keepb_
    refine WC_loopL (X := Nat) [0, 2, 3, 4, 6, 7, 43, 44, 45, 46, 47, 48, 49, 50, 51, 52, 53, 54, 55, 56, 57, 58] rfl (fun i w' => (i ≤ 32 ∧ Ext w w') ∧ Blk w' b2 (enC en0) 24 ∧ Blk w' b_ (enC ⟨decide (b0 bs 0 = 1), b0 bs 1, b0 bs 2 + 256 * b0 bs 3, keyN bs i⟩) 24)
      (fun i => [(5, .int .i64 i)]) (fun i => 32 - i) 0 ⟨⟨om_, ext_⟩, hB22, hB_⟩ env_ ?_
    intro i w2 ⟨⟨hi, hx2⟩, hb2, hb4⟩ K hK
    have hbl2 := hb4.lt
    rcases Nat.lt_or_ge i 32 with hlt | hge
    · have hfit : Nat.ble (0 + 3 + (i : Int).toNat * 1 + 1) (enC ⟨decide (b0 bs 0 = 1), b0 bs 1, b0 bs 2 + 256 * b0 bs 3, keyN bs i⟩).length = true := by
        rw [enC_length (keyN_len hbl om_)]
        exact Nat.ble_eq_true_of_le om_
      (repeat' (first | (refine WL_is ?_; first | refine WL_nil ?_ | (refine WL_isStore ?_; refine WL_storeF rfl rfl rfl blk_ rfl hfit rfl (fun w_ hz_ hx_ hB_ => ?_)) | refine wl_ ?_ ) | (refine WC_is ?_; first | refine WC_seq (fun _ _ => ?_) | refine wc_ ?_) | (refine WQ_is ?_; first | refine wq_ ?_) | (refine Kb.mk ?_; intro b_ w_ hb_ hl_ hx_ hB_) | (refine Ks.mk ?_; intro w_ hz_ hx_ hB_) | (refine Ko.mk ?_; intro A_ c_ w_ hx_ ho_ hr_; have hz_ := hx_.size; have hq_ := own_cap ho_) | (refine Kp.mk ?_; intro A_ c_ w_ hx_ hz_ ho_ hr_ hp_; have hq_ := own_cap ho_) | (refine Kl.mk ?_; intro b_ w_ hb_ hl_ hx_ hB_ ho_) | (refine Km.mk ?_; intro b_ w_ hb_ hl_ hx_ ho_) | (refine Ke.mk ?_; intro r_ hr_) | (refine Kg.mk ?_ ?_ <;> intro hs_ <;> (try simp only [strEq_t, strEq_f, decide_eq_true_eq, decide_eq_false_iff_not, beq_iff_eq, beq_eq_false_iff_ne, bne_iff_ne, bne_eq_false_iff_eq, Bool.not_eq_true', Bool.not_eq_false', Bool.not_true, Bool.not_false, gt_iff_lt, ge_iff_le, Int.not_lt, Int.not_le, ne_eq, Bool.false_eq_true, not_true_eq_false, reduceCtorEq] at hs_) <;> (try (exfalso; first | exact hs_ | (exact hs_ rfl) | omega))) ))
      have hst := hB_
      rw [Int.toNat_natCast, show (4 + (i : Int)).toNat = 4 + i by omega, keyN_step hbl hlt] at hst
      exact WQ_againL hK (i + 1) ⟨⟨om_, ext_⟩, Blk.go hb2 keepb_, hst⟩ env_ om_
    · obtain rfl : i = 32 := by omega
      have hk32 : keyN bs 32 = bs.drop 4 := by
        unfold keyN
        rw [List.take_of_length_le (by rw [List.length_drop]; omega)]
        simp
      rw [hk32] at hb4
      have hel : (enC ⟨decide (b0 bs 0 = 1), b0 bs 1, b0 bs 2 + 256 * b0 bs 3, bs.drop 4⟩).length = 35 := enC_length hW.len
      have hone : ∀ u ∈ enC ⟨decide (b0 bs 0 = 1), b0 bs 1, b0 bs 2 + 256 * b0 bs 3, bs.drop 4⟩, u.oneCell' = true := enC_one (toE bs)
      have ct := fun w => ref12_Entry_calls (toE bs) w hW
      by_cases hO : OkE (toE bs)
      · have eb : enB (toE bs) = enL (toE bs) := if_pos hO
        have ee : enE (toE bs) = 0 := if_pos hO
        have hwl := enL_bytes hO hW
        simp only [eb, ee] at ct
        by_cases hq : b0 bs 0 ≤ 1
        · have hOB : OkB bs := ⟨hbl, hq, hO⟩
          simp only [enL_toE hbl hb hq] at ct
          have r1 : rdEn bs = toE bs := if_pos hOB
          have r2 : rdEE bs = 0 := if_pos hOB
          (repeat' (first | (refine WL_is ?_; first | refine WL_nil ?_ | refine wl_ ?_ | (refine WL_isFn ?_; refine WL_call rfl rfl rfl (ct _) ?_; rintro _ w_ ⟨A_, c_, rfl, ho_, hx_⟩; have hz_ := hx_.size; have hr_ := own_rd ho_; have hq_ := own_cap ho_; refine ⟨_, rfl, ?_⟩)) | (refine WC_is ?_; first | refine WC_seq (fun _ _ => ?_) | refine wc_ ?_) | (refine WQ_is ?_; first | refine wq_ ?_) | (refine Kb.mk ?_; intro b_ w_ hb_ hl_ hx_ hB_) | (refine Ks.mk ?_; intro w_ hz_ hx_ hB_) | (refine Ko.mk ?_; intro A_ c_ w_ hx_ ho_ hr_; have hz_ := hx_.size; have hq_ := own_cap ho_) | (refine Kp.mk ?_; intro A_ c_ w_ hx_ hz_ ho_ hr_ hp_; have hq_ := own_cap ho_) | (refine Kl.mk ?_; intro b_ w_ hb_ hl_ hx_ hB_ ho_) | (refine Km.mk ?_; intro b_ w_ hb_ hl_ hx_ ho_) | (refine Ke.mk ?_; intro r_ hr_) | (refine Kg.mk ?_ ?_ <;> intro hs_ <;> (try simp only [strEq_t, strEq_f, decide_eq_true_eq, decide_eq_false_iff_not, beq_iff_eq, beq_eq_false_iff_ne, bne_iff_ne, bne_eq_false_iff_eq, Bool.not_eq_true', Bool.not_eq_false', Bool.not_true, Bool.not_false, gt_iff_lt, ge_iff_le, Int.not_lt, Int.not_le, ne_eq, Bool.false_eq_true, not_true_eq_false, reduceCtorEq] at hs_) <;> (try (exfalso; first | exact hs_ | (exact hs_ rfl) | omega))) ))
          all_goals exact ⟨by rw [r1, r2]; rfl, ext_⟩
        · have hOB : ¬ OkB bs := fun h => hq h.2.1
          have hne : ¬ strOfNums (enL (toE bs)) = strOfNums bs := fun h => hq (enL_back hbl ((strOfNums_inj hwl hb).1 h))
          have r1 : rdEn bs = en0 := if_neg hOB
          have r2 : rdEE bs = 120 := if_neg hOB
          generalize enL (toE bs) = wb at *
          (repeat' (first | (refine WL_is ?_; first | refine WL_nil ?_ | refine wl_ ?_ | (refine WL_isFn ?_; refine WL_call rfl rfl rfl (ct _) ?_; rintro _ w_ ⟨A_, c_, rfl, ho_, hx_⟩; have hz_ := hx_.size; have hr_ := own_rd ho_; have hq_ := own_cap ho_; refine ⟨_, rfl, ?_⟩)) | (refine WC_is ?_; first | refine WC_seq (fun _ _ => ?_) | refine wc_ ?_) | (refine WQ_is ?_; first | refine wq_ ?_) | (refine Kb.mk ?_; intro b_ w_ hb_ hl_ hx_ hB_) | (refine Ks.mk ?_; intro w_ hz_ hx_ hB_) | (refine Ko.mk ?_; intro A_ c_ w_ hx_ ho_ hr_; have hz_ := hx_.size; have hq_ := own_cap ho_) | (refine Kp.mk ?_; intro A_ c_ w_ hx_ hz_ ho_ hr_ hp_; have hq_ := own_cap ho_) | (refine Kl.mk ?_; intro b_ w_ hb_ hl_ hx_ hB_ ho_) | (refine Km.mk ?_; intro b_ w_ hb_ hl_ hx_ ho_) | (refine Ke.mk ?_; intro r_ hr_) | (refine Kg.mk ?_ ?_ <;> intro hs_ <;> (try simp only [strEq_t, strEq_f, decide_eq_true_eq, decide_eq_false_iff_not, beq_iff_eq, beq_eq_false_iff_ne, bne_iff_ne, bne_eq_false_iff_eq, Bool.not_eq_true', Bool.not_eq_false', Bool.not_true, Bool.not_false, gt_iff_lt, ge_iff_le, Int.not_lt, Int.not_le, ne_eq, Bool.false_eq_true, not_true_eq_false, reduceCtorEq] at hs_) <;> (try (exfalso; first | exact hs_ | (exact hs_ rfl) | omega))) ))
          all_goals first
            | exact absurd ‹strOfNums wb = strOfNums bs› hne
            | exact ⟨by rw [r1, r2], ext_⟩
      · have hOB : ¬ OkB bs := fun h => hO h.2.2
        have ee : enE (toE bs) = 120 := if_neg hO
        simp only [ee] at ct
        have r1 : rdEn bs = en0 := if_neg hOB
        have r2 : rdEE bs = 120 := if_neg hOB
        generalize enB (toE bs) = wb at *
        (repeat' (first | (refine WL_is ?_; first | refine WL_nil ?_ | refine wl_ ?_ | (refine WL_isFn ?_; refine WL_call rfl rfl rfl (ct _) ?_; rintro _ w_ ⟨A_, c_, rfl, ho_, hx_⟩; have hz_ := hx_.size; have hr_ := own_rd ho_; have hq_ := own_cap ho_; refine ⟨_, rfl, ?_⟩)) | (refine WC_is ?_; first | refine WC_seq (fun _ _ => ?_) | refine wc_ ?_) | (refine WQ_is ?_; first | refine wq_ ?_) | (refine Kb.mk ?_; intro b_ w_ hb_ hl_ hx_ hB_) | (refine Ks.mk ?_; intro w_ hz_ hx_ hB_) | (refine Ko.mk ?_; intro A_ c_ w_ hx_ ho_ hr_; have hz_ := hx_.size; have hq_ := own_cap ho_) | (refine Kp.mk ?_; intro A_ c_ w_ hx_ hz_ ho_ hr_ hp_; have hq_ := own_cap ho_) | (refine Kl.mk ?_; intro b_ w_ hb_ hl_ hx_ hB_ ho_) | (refine Km.mk ?_; intro b_ w_ hb_ hl_ hx_ ho_) | (refine Ke.mk ?_; intro r_ hr_) | (refine Kg.mk ?_ ?_ <;> intro hs_ <;> (try simp only [strEq_t, strEq_f, decide_eq_true_eq, decide_eq_false_iff_not, beq_iff_eq, beq_eq_false_iff_ne, bne_iff_ne, bne_eq_false_iff_eq, Bool.not_eq_true', Bool.not_eq_false', Bool.not_true, Bool.not_false, gt_iff_lt, ge_iff_le, Int.not_lt, Int.not_le, ne_eq, Bool.false_eq_true, not_true_eq_false, reduceCtorEq] at hs_) <;> (try (exfalso; first | exact hs_ | (exact hs_ rfl) | omega))) ))
        all_goals exact ⟨by rw [r1, r2], ext_⟩
  · have hO : ¬ OkB bs := fun h => h36 (by rw [← hl]; exact h.1)
    unfold rdEn rdEE
    rw [if_neg hO, if_neg hO]
    (repeat' (first | (refine WL_is ?_; first | refine WL_nil ?_ | refine wl_ ?_ ) | (refine WC_is ?_; first | refine WC_seq (fun _ _ => ?_) | refine wc_ ?_) | (refine WQ_is ?_; first | refine wq_ ?_) | (refine Kb.mk ?_; intro b_ w_ hb_ hl_ hx_ hB_) | (refine Ks.mk ?_; intro w_ hz_ hx_ hB_) | (refine Ko.mk ?_; intro A_ c_ w_ hx_ ho_ hr_; have hz_ := hx_.size; have hq_ := own_cap ho_) | (refine Kp.mk ?_; intro A_ c_ w_ hx_ hz_ ho_ hr_ hp_; have hq_ := own_cap ho_) | (refine Kl.mk ?_; intro b_ w_ hb_ hl_ hx_ hB_ ho_) | (refine Km.mk ?_; intro b_ w_ hb_ hl_ hx_ ho_) | (refine Ke.mk ?_; intro r_ hr_) | (refine Kg.mk ?_ ?_ <;> intro hs_ <;> (try simp only [strEq_t, strEq_f, decide_eq_true_eq, decide_eq_false_iff_not, beq_iff_eq, beq_eq_false_iff_ne, bne_iff_ne, bne_eq_false_iff_eq, Bool.not_eq_true', Bool.not_eq_false', Bool.not_true, Bool.not_false, gt_iff_lt, ge_iff_le, Int.not_lt, Int.not_le, ne_eq, Bool.false_eq_true, not_true_eq_false, reduceCtorEq] at hs_) <;> (try (exfalso; first | exact hs_ | (exact hs_ rfl) | omega))) ))
    all_goals exact ⟨rfl, ext_⟩
end Go.Proofs.Ytejdjpjaahfnaaa.K
