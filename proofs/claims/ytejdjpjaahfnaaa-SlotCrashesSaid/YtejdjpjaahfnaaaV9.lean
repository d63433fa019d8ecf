/- Chapter 13 (root): the document's Read. Seat-free. -/
import Derived.Test.YtejdjpjaahfnaaaV8
set_option linter.unusedVariables false
set_option linter.unusedSimpArgs false
set_option maxHeartbeats 4000000
set_option maxRecDepth 20000
namespace Go.Proofs.Ytejdjpjaahfnaaa.K
open Go.RowKit
attribute [local irreducible] strEq strOfNums Calls WL WC WQ WX Code.wp wpList bodyPost
/-- A list as it is filled. -/
def fillN (l : List Int) (i : Nat) : List Int := l.take i ++ List.replicate (l.length - i) 0
theorem fillN_length {l : List Int} {i : Nat} (h : i ≤ l.length) : (fillN l i).length = l.length := by
  unfold fillN
  rw [List.length_append, List.length_take, List.length_replicate]; omega
theorem fillN_step {l : List Int} {i : Nat} {x : Int} (h : i < l.length) (hx : l[i]? = some x) : (fillN l i).set i x = fillN l (i + 1) := by
  unfold fillN
  rw [List.set_append, if_neg (by rw [List.length_take]; omega), show i - (l.take i).length = 0 by rw [List.length_take]; omega, show l.length - i = (l.length - (i + 1)) + 1 by omega, List.replicate_succ, List.set_cons_zero, List.take_add_one, hx]
  simp
theorem fillN_zero (l : List Int) : fillN l 0 = List.replicate l.length 0 := by unfold fillN; simp
theorem fillN_all (l : List Int) : fillN l l.length = l := by unfold fillN; simp
theorem fillN_bytes {l : List Int} (h : ∀ x ∈ l, 0 ≤ x ∧ x < 256) (i : Nat) : ∀ x ∈ fillN l i, 0 ≤ x ∧ x < 256 := by
  intro x hx
  rcases List.mem_append.1 hx with hx | hx
  · exact h x (List.mem_of_mem_take hx)
  · rw [List.eq_of_mem_replicate hx]; omega
theorem rc_setJ1 {r : Rc} (hr : RcW r) {i : Nat} (hi : i < 32) (x : Int) : setC (rcC r) (0 + 36 + i * 1) (.int .u8 x) = rcC { r with j := r.j.set i x } := by
  have h1 := rc_take36 hr
  have h2 := rc_drop hr
  have e1 : rcC r = (.int .i64 r.ep :: enC r.t) ++ rcT r := rfl
  have el : (Value.int .i64 r.ep :: enC r.t).length = 36 := by simp [enC_length hr.ew.len]
  rw [setC_set, show 0 + 36 + i * 1 = 36 + i by omega, e1, List.set_append, if_neg om_, show 36 + i - (Value.int .i64 r.ep :: enC r.t).length = i by omega]
  show _ = (.int .i64 r.ep :: enC r.t) ++ (((r.j.set i x).map (.int .u8)) ++ [.int .i64 r.sq, .int .i64 r.bl])
  congr 1
  unfold rcT
  rw [List.set_append, if_pos (by simpa [hr.len] using hi), List.map_set]
theorem fill_rc0 {ep sq bl : Int} {t : En} (ht : EnW t) (h1 : 0 ≤ ep ∧ ep ≤ 9223372036854775807) (h2 : 0 ≤ sq ∧ sq ≤ 9223372036854775807) (h3 : 0 ≤ bl ∧ bl ≤ 9223372036854775807) : fillS [(0, 1), (1, 35), (36, 32), (68, 1), (69, 1)] (rcC rc0) [(0, .int .i64 ep), (1, .agg (enC t).toArray), (3, .int .i64 sq), (4, .int .i64 bl)] = some (rcC ⟨ep, t, zk, sq, bl⟩) := by
  have w1 : RcW ⟨ep, en0, zk, 0, 0⟩ := RcW.fields EnW.zero rfl EnW.zero.bytes h1 (by decide) (by decide)
  have w2 : RcW ⟨ep, t, zk, 0, 0⟩ := RcW.fields ht rfl EnW.zero.bytes h1 (by decide) (by decide)
  have w4 : RcW ⟨ep, t, zk, sq, 0⟩ := RcW.fields ht rfl EnW.zero.bytes h1 h2 (by decide)
  refine fillS_step (cs' := rcC ⟨ep, en0, zk, 0, 0⟩) rfl rfl (by decide) rfl ?_
  refine fillS_step (cs' := rcC ⟨ep, t, zk, 0, 0⟩) rfl (by rw [agg_cells]; exact enC_length ht.len) (by rw [rcC_length w1]; decide) (by rw [agg_cells]; exact rc_setE w1 ht.len) ?_
  refine fillS_step (cs' := rcC ⟨ep, t, zk, sq, 0⟩) rfl rfl (by rw [rcC_length w2]; decide) (rc_setS w2 sq) ?_
  exact fillS_step (cs' := rcC ⟨ep, t, zk, sq, bl⟩) rfl rfl (by rw [rcC_length w4]; decide) (rc_setB w4 bl) rfl
attribute [local irreducible] splV splE enL hdL wrL wrA wrB wrE toE rdEn rdEE rdR rdRE toR nA chE chJ fillN
theorem ref13_Read_calls (bs : List Int) (A : Option Addr) (m c : Nat) (w : World) (hl : bs.length = m) (hb : ∀ x ∈ bs, 0 ≤ x ∧ x < 256) (hc : m ≤ c ∧ c ≤ 9223372036854775807) (hC : Cells w A (bs.map (.int .u8))) :
    Calls Try.prog 17 #[.slice A m c] w fun e w' => e = .returned (.tuple #[.agg (rcC (rdR bs)).toArray, .int .i64 (rdRE bs)]) ∧ Ext w w' := by
  have h0 := rcC_length RcW.zero
  have ho := rcC_one rc0
  have h0e := enC_length EnW.zero.len
  refine calls_W (args := [.slice A m c]) Try.func17 rfl 80 rfl ?_
  by_cases h128 : m = 128
  · subst h128
    have hcut := hC.cutI 0 16 16 om_
    rw [cutA_zero] at hcut
    simp only [List.drop_zero, Nat.sub_zero] at hcut
    have hcut2 := hC.cutI 16 52 c om_
    rw [show (bs.drop 16).take (52 - 16) = chE bs by unfold chE; rfl] at hcut2
    have q4 := nA_in hb hl (i := 8) (k := 8) om_
    have q3 := nA_in hb hl (i := 4) (k := 4) om_
    have q1 := nA_in hb hl (i := 1) (k := 1) om_
    have hEl := chE_length hl
    have hEb : ∀ x ∈ chE bs, 0 ≤ x ∧ x < 256 := by unfold chE; exact part_bytes hb 16 36
    have hJb : ∀ x ∈ chJ bs, 0 ≤ x ∧ x < 256 := by unfold chJ; exact part_bytes hb 52 32
    have hJl := chJ_length hl
    have hel0 : ((bs.take 16).length) = 16 := by rw [List.length_take, hl]; rfl
    have sp := fun A0 A1 c0 c1 w (h : 16 ≤ c1 ∧ c1 ≤ 9223372036854775807) hC0 hC1 => ref01_Split_calls [1, 1, 2, 4, 8] (bs.take 16) A0 A1 5 c0 16 c1 w rfl hel0 om_ (by decide) (fun x hx => hb x (List.mem_of_mem_take hx)) hC0 hC1
    simp only [(spl_rc hl).1, (spl_rc hl).2, List.length_cons, List.length_nil, Nat.zero_add, Nat.reduceAdd] at sp
    have pe := fun A1 c1 w hc hC => ref12_Entered_calls (chE bs) A1 36 c1 w hEl hEb hc hC
    have hEW := rdEn_W hEb
    have hne := enC_length hEW.len
    have hno := enC_one (rdEn (chE bs))
    by_cases hE : OkB (chE bs)
    · rw [(show rdEn (chE bs) = toE (chE bs) from by unfold rdEn; exact if_pos hE)] at hne hno hEW
      simp only [(show rdEn (chE bs) = toE (chE bs) from by unfold rdEn; exact if_pos hE), (show rdEE (chE bs) = 0 from by unfold rdEE; exact if_pos hE)] at pe
      by_cases hq : nA bs 8 8 ≤ 4611686018427387903
      · have hW := toR_W hl hb hq
        have hf := fill_rc0 (ep := nA bs 4 4) (sq := nA bs 8 8) (bl := nA bs 1 1) hEW om_ om_ om_
        have hWi : ∀ i, i ≤ 32 → RcW ⟨nA bs 4 4, toE (chE bs), fillN (chJ bs) i, nA bs 8 8, nA bs 1 1⟩ := fun i hi => RcW.fields hEW (by rw [fillN_length om_, hJl]) (fillN_bytes hJb i) om_ om_ om_
        have hf0 : fillN (chJ bs) 0 = zk := by rw [fillN_zero, hJl]
        have hrl0 := rcC_length (hWi 0 om_)
        have hro0 := rcC_one ⟨nA bs 4 4, toE (chE bs), fillN (chJ bs) 0, nA bs 8 8, nA bs 1 1⟩
        rw [← hf0] at hf
        have hrl := rcC_length hW
        have hro := rcC_one (toR bs)
        have pw := fun w => ref13_Write_calls (toR bs) w hW
        (repeat' (first | (refine WL_is ?_; first | refine WL_nil ?_ | refine wl_ ?_ ) | (refine WC_is ?_; first | ((fail_if_success (refine WC_isReg (id := 3) ?_)); refine WC_seq (fun _ _ => ?_)) | refine wc_ ?_) | (refine WQ_is ?_; first | refine wq_ ?_) | (refine Kb.mk ?_; intro b_ w_ hb_ hl_ hx_ hB_) | (refine Ks.mk ?_; intro w_ hz_ hx_ hB_) | (refine Ko.mk ?_; intro A_ c_ w_ hx_ ho_ hr_; have hz_ := hx_.size; have hq_ := own_cap ho_) | (refine Kp.mk ?_; intro A_ c_ w_ hx_ hz_ ho_ hr_ hp_; have hq_ := own_cap ho_) | (refine Kl.mk ?_; intro b_ w_ hb_ hl_ hx_ hB_ ho_) | (refine Km.mk ?_; intro b_ w_ hb_ hl_ hx_ ho_) | (refine Ke.mk ?_; intro r_ hr_) | (refine Kg.mk ?_ ?_ <;> intro hs_ <;> (try simp only [strEq_t, strEq_f, decide_eq_true_eq, decide_eq_false_iff_not, beq_iff_eq, beq_eq_false_iff_ne, bne_iff_ne, bne_eq_false_iff_eq, Bool.not_eq_true', Bool.not_eq_false', Bool.not_true, Bool.not_false, gt_iff_lt, ge_iff_le, Int.not_lt, Int.not_le, ne_eq, Bool.false_eq_true, not_true_eq_false, reduceCtorEq] at hs_) <;> (try (exfalso; first | exact hs_ | (exact hs_ rfl) | omega))) ))
        obtain ⟨b2, rfl⟩ : ∃ x, x = b_ := ⟨_, rfl⟩
        have hB2 := hB_
        (repeat' (first | (refine WL_is ?_; first | refine WL_nil ?_ | refine wl_ ?_ | (refine WL_isFn ?_; refine WL_call rfl rfl rfl (sp _ _ _ _ _ om_ cells_ cells_) ?_; rintro _ w_ ⟨A_, c_, rfl, ho_, hx_⟩; have hz_ := hx_.size; have hr_ := own_rd ho_; have hq_ := own_cap ho_; refine ⟨_, rfl, ?_⟩) | (refine WL_isFn ?_; refine WL_call rfl rfl rfl (pe _ _ _ om_ cells_) ?_; rintro _ w_ ⟨rfl, hx_⟩; have hz_ := hx_.size; refine ⟨_, rfl, ?_⟩)) | (refine WC_is ?_; first | refine WC_seq (fun _ _ => ?_) | refine WC_orderE (.rd false 0 (.rd false 1 (.rd false 2 (.rd false 3 (.rd false 4 (.rd false 5 (.rd false 6 (.rd false 7 (.rd false 8 (.rd false 9 (.rd false 10 (.rd false 11 (.rd false 12 (.rd false 13 (.act true 14 (.act false 15 .nil .nil) .nil))))))))))))))) [[], [], [], [], [], [], [], [], [], [], [], [], [], [], [], [0, 1, 2, 3, 4, 5, 6, 7, 8, 9, 10, 11, 12, 13, 14]] [14, 15] (some 15) 7 (by kernel_rfl) (by kernel_rfl) (fun w_ hx_ hz_ => ?_) | refine wc_ ?_) | (refine WQ_is ?_; first | refine wq_ ?_) | (refine Kb.mk ?_; intro b_ w_ hb_ hl_ hx_ hB_) | (refine Ks.mk ?_; intro w_ hz_ hx_ hB_) | (refine Ko.mk ?_; intro A_ c_ w_ hx_ ho_ hr_; have hz_ := hx_.size; have hq_ := own_cap ho_) | (refine Kp.mk ?_; intro A_ c_ w_ hx_ hz_ ho_ hr_ hp_; have hq_ := own_cap ho_) | (refine Kl.mk ?_; intro b_ w_ hb_ hl_ hx_ hB_ ho_) | (refine Km.mk ?_; intro b_ w_ hb_ hl_ hx_ ho_) | (refine Ke.mk ?_; intro r_ hr_) | (refine Kg.mk ?_ ?_ <;> intro hs_ <;> (try simp only [strEq_t, strEq_f, decide_eq_true_eq, decide_eq_false_iff_not, beq_iff_eq, beq_eq_false_iff_ne, bne_iff_ne, bne_eq_false_iff_eq, Bool.not_eq_true', Bool.not_eq_false', Bool.not_true, Bool.not_false, gt_iff_lt, ge_iff_le, Int.not_lt, Int.not_le, ne_eq, Bool.false_eq_true, not_true_eq_false, reduceCtorEq] at hs_) <;> (try (exfalso; first | exact hs_ | (exact hs_ rfl) | omega))) | (refine WX_is ?_; first | refine wx_ ?_ | exact WX_altnil | (refine WX_isRd ?_; first | (refine WX_isT ?_; refine WX_readT rfl rfl rfl rfl rfl (by (first | refine wl_ ?_); refine WL_nil ?_; exact DR_mk rfl) ?_) | (refine WX_isF ?_; refine WX_read rfl rfl rfl rfl rfl (fun w_ hx_ => by (first | refine wl_ ?_); refine WL_nil ?_; exact DR_mk rfl) ?_) | refine wxg_ ?_) | (refine WX_isAct ?_; first | refine WX_eff1 rfl (fun _ _ => ?_) | refine WX_eff rfl (fun _ _ => ?_) ?_))))
        clear hcut hcut2
        have hB22 : Blk w_ b2 (rcC rc0) 26 := Blk.go hB2 keepb_
        refine WC_loopL (X := Nat) [0, 2, 3, 8, 10, 11, 64, 65, 66, 67, 68, 69, 70, 71, 72, 73, 74, 75, 76, 77, 78, 79] rfl (fun i w' => (i ≤ 32 ∧ Ext w w') ∧ Blk w' b2 (rcC rc0) 26 ∧ Blk w' b_ (rcC ⟨nA bs 4 4, toE (chE bs), fillN (chJ bs) i, nA bs 8 8, nA bs 1 1⟩) 26)
          (fun i => [(9, .int .i64 i)]) (fun i => 32 - i) 0 ⟨⟨om_, ext_⟩, hB22, blk_⟩ env_ ?_
        intro i w2 ⟨⟨hi, hx2⟩, hb2, hb4⟩ K hK
        have hbl2 := hb4.lt
        rcases Nat.lt_or_ge i 32 with hlt | hge
        · have hfit : Nat.ble (0 + 36 + (i : Int).toNat * 1 + 1) (rcC ⟨nA bs 4 4, toE (chE bs), fillN (chJ bs) i, nA bs 8 8, nA bs 1 1⟩).length = true := by
            rw [rcC_length (hWi i hi)]
            exact Nat.ble_eq_true_of_le om_
          (repeat' (first | (refine WL_is ?_; first | refine WL_nil ?_ | (refine WL_isStore ?_; refine WL_storeF rfl rfl rfl blk_ rfl hfit rfl (fun w_ hz_ hx_ hB_ => ?_)) | refine wl_ ?_ ) | (refine WC_is ?_; first | refine WC_seq (fun _ _ => ?_) | refine wc_ ?_) | (refine WQ_is ?_; first | refine wq_ ?_) | (refine Kb.mk ?_; intro b_ w_ hb_ hl_ hx_ hB_) | (refine Ks.mk ?_; intro w_ hz_ hx_ hB_) | (refine Ko.mk ?_; intro A_ c_ w_ hx_ ho_ hr_; have hz_ := hx_.size; have hq_ := own_cap ho_) | (refine Kp.mk ?_; intro A_ c_ w_ hx_ hz_ ho_ hr_ hp_; have hq_ := own_cap ho_) | (refine Kl.mk ?_; intro b_ w_ hb_ hl_ hx_ hB_ ho_) | (refine Km.mk ?_; intro b_ w_ hb_ hl_ hx_ ho_) | (refine Ke.mk ?_; intro r_ hr_) | (refine Kg.mk ?_ ?_ <;> intro hs_ <;> (try simp only [strEq_t, strEq_f, decide_eq_true_eq, decide_eq_false_iff_not, beq_iff_eq, beq_eq_false_iff_ne, bne_iff_ne, bne_eq_false_iff_eq, Bool.not_eq_true', Bool.not_eq_false', Bool.not_true, Bool.not_false, gt_iff_lt, ge_iff_le, Int.not_lt, Int.not_le, ne_eq, Bool.false_eq_true, not_true_eq_false, reduceCtorEq] at hs_) <;> (try (exfalso; first | exact hs_ | (exact hs_ rfl) | omega))) ))
          have hst := hB_
          have hget : (chJ bs)[i]? = some (bs.getD (52 + i) 0) := by
            unfold chJ
            rw [List.getElem?_take, if_pos hlt, List.getElem?_drop, List.getElem?_eq_getElem om_, List.getD_eq_getElem?_getD, List.getElem?_eq_getElem om_]; rfl
          rw [Int.toNat_natCast, show (52 + (i : Int)).toNat = 52 + i by omega, rc_setJ1 (hWi i hi) hlt] at hst
          dsimp only at hst
          rw [fillN_step om_ hget] at hst
          exact WQ_againL hK (i + 1) ⟨⟨om_, ext_⟩, Blk.go hb2 keepb_, hst⟩ env_ om_
        · obtain rfl : i = 32 := by omega
          rw [show fillN (chJ bs) 32 = chJ bs by rw [← hJl]; exact fillN_all _, ← toR_eq] at hb4
          by_cases hO : OkR (toR bs)
          · have e1 := wrB_t hO
            have e2 := wrA_length hW
            simp only [e1.1, e1.2, e2] at pw
            by_cases hw : wrA (toR bs) = bs
            · have hR : OkRd bs := ⟨hl, hE, hq, hO, hw⟩
              have r1 := rdR_t hR
              (repeat' (first | (refine WL_is ?_; first | refine WL_nil ?_ | refine wl_ ?_ | (refine WL_isFn ?_; refine WL_call rfl rfl rfl (pw _) ?_; rintro _ w_ ⟨A_, c_, rfl, ho_, hx_⟩; have hz_ := hx_.size; have hr_ := own_rd ho_; have hq_ := own_cap ho_; refine ⟨_, rfl, ?_⟩)) | (refine WC_is ?_; first | refine WC_seq (fun _ _ => ?_) | refine wc_ ?_) | (refine WQ_is ?_; first | refine wq_ ?_) | (refine Kb.mk ?_; intro b_ w_ hb_ hl_ hx_ hB_) | (refine Ks.mk ?_; intro w_ hz_ hx_ hB_) | (refine Ko.mk ?_; intro A_ c_ w_ hx_ ho_ hr_; have hz_ := hx_.size; have hq_ := own_cap ho_) | (refine Kp.mk ?_; intro A_ c_ w_ hx_ hz_ ho_ hr_ hp_; have hq_ := own_cap ho_) | (refine Kl.mk ?_; intro b_ w_ hb_ hl_ hx_ hB_ ho_) | (refine Km.mk ?_; intro b_ w_ hb_ hl_ hx_ ho_) | (refine Ke.mk ?_; intro r_ hr_) | (refine Kg.mk ?_ ?_ <;> intro hs_ <;> (try simp only [strEq_t, strEq_f, decide_eq_true_eq, decide_eq_false_iff_not, beq_iff_eq, beq_eq_false_iff_ne, bne_iff_ne, bne_eq_false_iff_eq, Bool.not_eq_true', Bool.not_eq_false', Bool.not_true, Bool.not_false, gt_iff_lt, ge_iff_le, Int.not_lt, Int.not_le, ne_eq, Bool.false_eq_true, not_true_eq_false, reduceCtorEq] at hs_) <;> (try (exfalso; first | exact hs_ | (exact hs_ rfl) | omega))) ))
              all_goals first | exact absurd (congrArg strOfNums hw) hs_ | exact ⟨by rw [r1.1, r1.2], ext_⟩
            · have hR : ¬ OkRd bs := fun h => hw h.2.2.2.2
              have r1 := rdR_f hR
              (repeat' (first | (refine WL_is ?_; first | refine WL_nil ?_ | refine wl_ ?_ | (refine WL_isFn ?_; refine WL_call rfl rfl rfl (pw _) ?_; rintro _ w_ ⟨A_, c_, rfl, ho_, hx_⟩; have hz_ := hx_.size; have hr_ := own_rd ho_; have hq_ := own_cap ho_; refine ⟨_, rfl, ?_⟩)) | (refine WC_is ?_; first | refine WC_seq (fun _ _ => ?_) | refine wc_ ?_) | (refine WQ_is ?_; first | refine wq_ ?_) | (refine Kb.mk ?_; intro b_ w_ hb_ hl_ hx_ hB_) | (refine Ks.mk ?_; intro w_ hz_ hx_ hB_) | (refine Ko.mk ?_; intro A_ c_ w_ hx_ ho_ hr_; have hz_ := hx_.size; have hq_ := own_cap ho_) | (refine Kp.mk ?_; intro A_ c_ w_ hx_ hz_ ho_ hr_ hp_; have hq_ := own_cap ho_) | (refine Kl.mk ?_; intro b_ w_ hb_ hl_ hx_ hB_ ho_) | (refine Km.mk ?_; intro b_ w_ hb_ hl_ hx_ ho_) | (refine Ke.mk ?_; intro r_ hr_) | (refine Kg.mk ?_ ?_ <;> intro hs_ <;> (try simp only [strEq_t, strEq_f, decide_eq_true_eq, decide_eq_false_iff_not, beq_iff_eq, beq_eq_false_iff_ne, bne_iff_ne, bne_eq_false_iff_eq, Bool.not_eq_true', Bool.not_eq_false', Bool.not_true, Bool.not_false, gt_iff_lt, ge_iff_le, Int.not_lt, Int.not_le, ne_eq, Bool.false_eq_true, not_true_eq_false, reduceCtorEq] at hs_) <;> (try (exfalso; first | exact hs_ | (exact hs_ rfl) | omega))) ))
              all_goals first | exact absurd ((strOfNums_inj (wrA_bytes hO hW) hb).1 hs_) hw | exact ⟨by rw [r1.1, r1.2], ext_⟩
          · have hR : ¬ OkRd bs := fun h => hO h.2.2.2.1
            have r1 := rdR_f hR
            have e1 := wrB_f hO
            simp only [e1.1, e1.2, List.length_nil] at pw
            (repeat' (first | (refine WL_is ?_; first | refine WL_nil ?_ | refine wl_ ?_ | (refine WL_isFn ?_; refine WL_call rfl rfl rfl (pw _) ?_; rintro _ w_ ⟨A_, c_, rfl, ho_, hx_⟩; have hz_ := hx_.size; have hr_ := own_rd ho_; have hq_ := own_cap ho_; refine ⟨_, rfl, ?_⟩)) | (refine WC_is ?_; first | refine WC_seq (fun _ _ => ?_) | refine wc_ ?_) | (refine WQ_is ?_; first | refine wq_ ?_) | (refine Kb.mk ?_; intro b_ w_ hb_ hl_ hx_ hB_) | (refine Ks.mk ?_; intro w_ hz_ hx_ hB_) | (refine Ko.mk ?_; intro A_ c_ w_ hx_ ho_ hr_; have hz_ := hx_.size; have hq_ := own_cap ho_) | (refine Kp.mk ?_; intro A_ c_ w_ hx_ hz_ ho_ hr_ hp_; have hq_ := own_cap ho_) | (refine Kl.mk ?_; intro b_ w_ hb_ hl_ hx_ hB_ ho_) | (refine Km.mk ?_; intro b_ w_ hb_ hl_ hx_ ho_) | (refine Ke.mk ?_; intro r_ hr_) | (refine Kg.mk ?_ ?_ <;> intro hs_ <;> (try simp only [strEq_t, strEq_f, decide_eq_true_eq, decide_eq_false_iff_not, beq_iff_eq, beq_eq_false_iff_ne, bne_iff_ne, bne_eq_false_iff_eq, Bool.not_eq_true', Bool.not_eq_false', Bool.not_true, Bool.not_false, gt_iff_lt, ge_iff_le, Int.not_lt, Int.not_le, ne_eq, Bool.false_eq_true, not_true_eq_false, reduceCtorEq] at hs_) <;> (try (exfalso; first | exact hs_ | (exact hs_ rfl) | omega))) ))
            all_goals exact ⟨by rw [r1.1, r1.2], ext_⟩
      · have hR : ¬ OkRd bs := fun h => hq h.2.2.1
        rw [(rdR_f hR).1, (rdR_f hR).2]
        (repeat' (first | (refine WL_is ?_; first | refine WL_nil ?_ | refine wl_ ?_ | (refine WL_isFn ?_; refine WL_call rfl rfl rfl (sp _ _ _ _ _ om_ cells_ cells_) ?_; rintro _ w_ ⟨A_, c_, rfl, ho_, hx_⟩; have hz_ := hx_.size; have hr_ := own_rd ho_; have hq_ := own_cap ho_; refine ⟨_, rfl, ?_⟩) | (refine WL_isFn ?_; refine WL_call rfl rfl rfl (pe _ _ _ om_ cells_) ?_; rintro _ w_ ⟨rfl, hx_⟩; have hz_ := hx_.size; refine ⟨_, rfl, ?_⟩)) | (refine WC_is ?_; first | refine WC_seq (fun _ _ => ?_) | refine WC_orderE (.rd false 0 (.rd false 1 (.rd false 2 (.rd false 3 (.rd false 4 (.rd false 5 (.rd false 6 (.rd false 7 (.rd false 8 (.rd false 9 (.rd false 10 (.rd false 11 (.rd false 12 (.rd false 13 (.act true 14 (.act false 15 .nil .nil) .nil))))))))))))))) [[], [], [], [], [], [], [], [], [], [], [], [], [], [], [], [0, 1, 2, 3, 4, 5, 6, 7, 8, 9, 10, 11, 12, 13, 14]] [14, 15] (some 15) 7 (by kernel_rfl) (by kernel_rfl) (fun w_ hx_ hz_ => ?_) | refine wc_ ?_) | (refine WQ_is ?_; first | refine wq_ ?_) | (refine Kb.mk ?_; intro b_ w_ hb_ hl_ hx_ hB_) | (refine Ks.mk ?_; intro w_ hz_ hx_ hB_) | (refine Ko.mk ?_; intro A_ c_ w_ hx_ ho_ hr_; have hz_ := hx_.size; have hq_ := own_cap ho_) | (refine Kp.mk ?_; intro A_ c_ w_ hx_ hz_ ho_ hr_ hp_; have hq_ := own_cap ho_) | (refine Kl.mk ?_; intro b_ w_ hb_ hl_ hx_ hB_ ho_) | (refine Km.mk ?_; intro b_ w_ hb_ hl_ hx_ ho_) | (refine Ke.mk ?_; intro r_ hr_) | (refine Kg.mk ?_ ?_ <;> intro hs_ <;> (try simp only [strEq_t, strEq_f, decide_eq_true_eq, decide_eq_false_iff_not, beq_iff_eq, beq_eq_false_iff_ne, bne_iff_ne, bne_eq_false_iff_eq, Bool.not_eq_true', Bool.not_eq_false', Bool.not_true, Bool.not_false, gt_iff_lt, ge_iff_le, Int.not_lt, Int.not_le, ne_eq, Bool.false_eq_true, not_true_eq_false, reduceCtorEq] at hs_) <;> (try (exfalso; first | exact hs_ | (exact hs_ rfl) | omega))) | (refine WX_is ?_; first | refine wx_ ?_ | exact WX_altnil | (refine WX_isRd ?_; first | (refine WX_isT ?_; refine WX_readT rfl rfl rfl rfl rfl (by (first | refine wl_ ?_); refine WL_nil ?_; exact DR_mk rfl) ?_) | (refine WX_isF ?_; refine WX_read rfl rfl rfl rfl rfl (fun w_ hx_ => by (first | refine wl_ ?_); refine WL_nil ?_; exact DR_mk rfl) ?_) | refine wxg_ ?_) | (refine WX_isAct ?_; first | refine WX_eff1 rfl (fun _ _ => ?_) | refine WX_eff rfl (fun _ _ => ?_) ?_))))
        all_goals exact ⟨rfl, ext_⟩
    · have hR : ¬ OkRd bs := fun h => hE h.2.1
      rw [(rdR_f hR).1, (rdR_f hR).2]
      simp only [(show rdEE (chE bs) = 120 from by unfold rdEE; exact if_neg hE)] at pe
      (repeat' (first | (refine WL_is ?_; first | refine WL_nil ?_ | refine wl_ ?_ | (refine WL_isFn ?_; refine WL_call rfl rfl rfl (sp _ _ _ _ _ om_ cells_ cells_) ?_; rintro _ w_ ⟨A_, c_, rfl, ho_, hx_⟩; have hz_ := hx_.size; have hr_ := own_rd ho_; have hq_ := own_cap ho_; refine ⟨_, rfl, ?_⟩) | (refine WL_isFn ?_; refine WL_call rfl rfl rfl (pe _ _ _ om_ cells_) ?_; rintro _ w_ ⟨rfl, hx_⟩; have hz_ := hx_.size; refine ⟨_, rfl, ?_⟩)) | (refine WC_is ?_; first | refine WC_seq (fun _ _ => ?_) | refine WC_orderE (.rd false 0 (.rd false 1 (.rd false 2 (.rd false 3 (.rd false 4 (.rd false 5 (.rd false 6 (.rd false 7 (.rd false 8 (.rd false 9 (.rd false 10 (.rd false 11 (.rd false 12 (.rd false 13 (.act true 14 (.act false 15 .nil .nil) .nil))))))))))))))) [[], [], [], [], [], [], [], [], [], [], [], [], [], [], [], [0, 1, 2, 3, 4, 5, 6, 7, 8, 9, 10, 11, 12, 13, 14]] [14, 15] (some 15) 7 (by kernel_rfl) (by kernel_rfl) (fun w_ hx_ hz_ => ?_) | refine wc_ ?_) | (refine WQ_is ?_; first | refine wq_ ?_) | (refine Kb.mk ?_; intro b_ w_ hb_ hl_ hx_ hB_) | (refine Ks.mk ?_; intro w_ hz_ hx_ hB_) | (refine Ko.mk ?_; intro A_ c_ w_ hx_ ho_ hr_; have hz_ := hx_.size; have hq_ := own_cap ho_) | (refine Kp.mk ?_; intro A_ c_ w_ hx_ hz_ ho_ hr_ hp_; have hq_ := own_cap ho_) | (refine Kl.mk ?_; intro b_ w_ hb_ hl_ hx_ hB_ ho_) | (refine Km.mk ?_; intro b_ w_ hb_ hl_ hx_ ho_) | (refine Ke.mk ?_; intro r_ hr_) | (refine Kg.mk ?_ ?_ <;> intro hs_ <;> (try simp only [strEq_t, strEq_f, decide_eq_true_eq, decide_eq_false_iff_not, beq_iff_eq, beq_eq_false_iff_ne, bne_iff_ne, bne_eq_false_iff_eq, Bool.not_eq_true', Bool.not_eq_false', Bool.not_true, Bool.not_false, gt_iff_lt, ge_iff_le, Int.not_lt, Int.not_le, ne_eq, Bool.false_eq_true, not_true_eq_false, reduceCtorEq] at hs_) <;> (try (exfalso; first | exact hs_ | (exact hs_ rfl) | omega))) | (refine WX_is ?_; first | refine wx_ ?_ | exact WX_altnil | (refine WX_isRd ?_; first | (refine WX_isT ?_; refine WX_readT rfl rfl rfl rfl rfl (by (first | refine wl_ ?_); refine WL_nil ?_; exact DR_mk rfl) ?_) | (refine WX_isF ?_; refine WX_read rfl rfl rfl rfl rfl (fun w_ hx_ => by (first | refine wl_ ?_); refine WL_nil ?_; exact DR_mk rfl) ?_) | refine wxg_ ?_) | (refine WX_isAct ?_; first | refine WX_eff1 rfl (fun _ _ => ?_) | refine WX_eff rfl (fun _ _ => ?_) ?_))))
      all_goals exact ⟨rfl, ext_⟩
  · have hR : ¬ OkRd bs := fun h => h128 (by rw [← hl]; exact h.1)
    rw [(rdR_f hR).1, (rdR_f hR).2]
    (repeat' (first | (refine WL_is ?_; first | refine WL_nil ?_ | refine wl_ ?_ ) | (refine WC_is ?_; first | refine WC_seq (fun _ _ => ?_) | refine wc_ ?_) | (refine WQ_is ?_; first | refine wq_ ?_) | (refine Kb.mk ?_; intro b_ w_ hb_ hl_ hx_ hB_) | (refine Ks.mk ?_; intro w_ hz_ hx_ hB_) | (refine Ko.mk ?_; intro A_ c_ w_ hx_ ho_ hr_; have hz_ := hx_.size; have hq_ := own_cap ho_) | (refine Kp.mk ?_; intro A_ c_ w_ hx_ hz_ ho_ hr_ hp_; have hq_ := own_cap ho_) | (refine Kl.mk ?_; intro b_ w_ hb_ hl_ hx_ hB_ ho_) | (refine Km.mk ?_; intro b_ w_ hb_ hl_ hx_ ho_) | (refine Ke.mk ?_; intro r_ hr_) | (refine Kg.mk ?_ ?_ <;> intro hs_ <;> (try simp only [strEq_t, strEq_f, decide_eq_true_eq, decide_eq_false_iff_not, beq_iff_eq, beq_eq_false_iff_ne, bne_iff_ne, bne_eq_false_iff_eq, Bool.not_eq_true', Bool.not_eq_false', Bool.not_true, Bool.not_false, gt_iff_lt, ge_iff_le, Int.not_lt, Int.not_le, ne_eq, Bool.false_eq_true, not_true_eq_false, reduceCtorEq] at hs_) <;> (try (exfalso; first | exact hs_ | (exact hs_ rfl) | omega))) ))
    all_goals exact ⟨rfl, ext_⟩
end Go.Proofs.Ytejdjpjaahfnaaa.K
