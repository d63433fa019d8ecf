/- Chapter 13 (root): the law RootFresh. Seat-free. -/
import Derived.Test.YtejdjpjaahfnaaaV16
set_option linter.unusedVariables false
set_option linter.unusedSimpArgs false
set_option maxHeartbeats 4000000
set_option maxRecDepth 20000
namespace Go.Proofs.Ytejdjpjaahfnaaa.K
open Go.RowKit
attribute [local irreducible] strEq strOfNums Calls WL WC WQ WX Code.wp wpList bodyPost
theorem leB_inj {a b : Int} {k : Nat} (ha : 0 ≤ a ∧ a < 2 ^ (8 * k)) (hb : 0 ≤ b ∧ b < 2 ^ (8 * k)) (h : leB a k = leB b k) : a = b := by
  have := congrArg valL h
  rwa [valL_leB1 _ _ ha, valL_leB1 _ _ hb] at this
theorem fresh_parts {r : Rc} (hr : RcW r) : (wrA r).take 4 = [82, r.bl, 0, 0] ∧ ((wrA r).drop 4).take 4 = leB r.ep 4 ∧ ((wrA r).drop 8).take 116 = leB r.sq 8 ++ (enL r.t ++ (r.j ++ List.replicate 40 0)) := by
  refine ⟨by rw [wrA_eq]; rfl, ?_, ?_⟩
  · rw [wrA_eq, ← List.append_assoc [82], ← List.append_assoc ([82] ++ [r.bl])]
    exact seg_mid (by simp) (leB_length _ _)
  · rw [wrA_eq, ← List.append_assoc [82], ← List.append_assoc ([82] ++ [r.bl]), ← List.append_assoc ([82] ++ [r.bl] ++ [0, 0]),
      show leB r.sq 8 ++ (enL r.t ++ (r.j ++ (List.replicate 40 0 ++ leB (adS 1 (wrL r)) 4))) = (leB r.sq 8 ++ (enL r.t ++ (r.j ++ List.replicate 40 0))) ++ leB (adS 1 (wrL r)) 4 by simp only [List.append_assoc]]
    exact seg_mid (by simp [leB_length]) (by simp [leB_length, enL_length hr.ew.len, hr.len])
theorem RcW.ep {r : Rc} (h : RcW r) {e : Int} (he : 1 ≤ e ∧ e ≤ 2147483648) : RcW { r with ep := e } := ⟨h.ew, h.len, h.bytes, by dsimp only; omega, h.sb, h.bb⟩
theorem OkR.ep {r : Rc} (h : OkR r) {e : Int} (he : 1 ≤ e ∧ e ≤ 2147483648) : OkR { r with ep := e } := ⟨h.1, ⟨by dsimp only; omega, by dsimp only; omega⟩, h.2.2⟩
theorem OkR.ep' {r : Rc} {e : Int} (h : ¬ OkR r) (hr : 1 ≤ r.ep ∧ r.ep ≤ 4294967295) : ¬ OkR { r with ep := e } := fun h' => h ⟨h'.1, hr, h'.2.2⟩
theorem RootFresh_calls (w : World) (r : Rc) (n : Int) (hr : RcW r) (hn : 0 ≤ n ∧ n ≤ 4294967295) :
    Calls Try.prog 7 #[.agg (rcC r).toArray, .int .u32 n] w fun e w' => e = .returned (.bool true) ∧ Ext w w' := by
  have hmr : 1 ≤ 1 + n % 2147483648 ∧ 1 + n % 2147483648 ≤ 2147483648 := by omega
  have hs := hr.ep hmr
  have a1 := fun w => root_Write_calls r w hr
  have a2 := fun w => root_Write_calls { r with ep := 1 + n % 2147483648 } w hs
  have l0 := rcC_length RcW.zero
  have p0 := rcC_one rc0
  have lr := rcC_length hr
  have pr := rcC_one r
  have ls := rcC_length hs
  have ps := rcC_one { r with ep := 1 + n % 2147483648 }
  have hset : rcC { r with ep := 1 + n % 2147483648 } = setC (rcC r) (0 + 0) (.int .i64 (1 + n % 2147483648)) := rfl
  rw [hset] at ls ps
  simp only [hset] at a2
  by_cases hO : OkR r
  · have hP := hO.ep hmr
    rw [(wrB_t hO).1, (wrB_t hO).2, wrA_length hr] at a1
    rw [(wrB_t hP).1, (wrB_t hP).2, wrA_length hs] at a2
    obtain ⟨e1, e2, e3⟩ := fresh_parts hr
    obtain ⟨d1, d2, d3⟩ := fresh_parts hs
    have hXl := wrA_length hr
    have hYl := wrA_length hs
    have ge := rcE_facts hO
    generalize wrA r = X at *
    generalize hY : wrA { r with ep := 1 + n % 2147483648 } = Y at *
    have t1 : ∀ w A, Cells w A (X.map (.int .u8)) → Cells w A ((X.take 4).map (.int .u8)) := fun w A h => h.takeI 4
    have t2 : ∀ w A, Cells w A (Y.map (.int .u8)) → Cells w A ((Y.take 4).map (.int .u8)) := fun w A h => h.takeI 4
    have t3 : ∀ w A c, 124 ≤ c → Cells w A (X.map (.int .u8)) → Cells w (cutA A 1 8 c) (((X.drop 8).take 116).map (.int .u8)) := fun w A c hc h => h.cutI 8 124 c hc
    have t4 : ∀ w A c, 124 ≤ c → Cells w A (Y.map (.int .u8)) → Cells w (cutA A 1 8 c) (((Y.drop 8).take 116).map (.int .u8)) := fun w A c hc h => h.cutI 8 124 c hc
    have t5 : ∀ w A c, 124 ≤ c → Cells w A (X.map (.int .u8)) → Cells w (cutA A 1 4 c) (((X.drop 4).take 4).map (.int .u8)) := fun w A c hc h => h.cutI 4 8 c om_
    have t6 : ∀ w A c, 124 ≤ c → Cells w A (Y.map (.int .u8)) → Cells w (cutA A 1 4 c) (((Y.drop 4).take 4).map (.int .u8)) := fun w A c hc h => h.cutI 4 8 c om_
    have k1 : (X.take 4).length = 4 := by rw [e1]; rfl
    have k2 : (Y.take 4).length = 4 := by rw [d1]; rfl
    have k3 : ((X.drop 8).take 116).length = 116 := by rw [List.length_take, List.length_drop, hXl]; rfl
    have k4 : ((Y.drop 8).take 116).length = 116 := by rw [List.length_take, List.length_drop, hYl]; rfl
    have k5 : ((X.drop 4).take 4).length = 4 := by rw [List.length_take, List.length_drop, hXl]; rfl
    have k6 : ((Y.drop 4).take 4).length = 4 := by rw [List.length_take, List.length_drop, hYl]; rfl
    have f1 : X.take 4 = Y.take 4 := by rw [e1, d1]
    have f3 : (X.drop 8).take 116 = (Y.drop 8).take 116 := by rw [e3, d3]
    have j1 : strEq (strOfNums (X.take 4)) (strOfNums (Y.take 4)) = true := by rw [f1]; exact strEq_self
    have j3 : strEq (strOfNums ((X.drop 8).take 116)) (strOfNums ((Y.drop 8).take 116)) = true := by rw [f3]; exact strEq_self
    have j5 : strEq (strOfNums ((X.drop 4).take 4)) (strOfNums ((Y.drop 4).take 4)) = decide (r.ep = 1 + n % 2147483648) := by
      rw [e2, d2]
      by_cases h : r.ep = 1 + n % 2147483648
      · have h2 : (leB r.ep 4) = leB ({ r with ep := 1 + n % 2147483648 } : Rc).ep 4 := by rw [h]
        rw [h2, decide_eq_true h]; exact strEq_self
      · rw [decide_eq_false h]
        refine strEq_f.2 fun h2 => h ?_
        exact leB_inj (k := 4) ⟨ge.2.2.1, by show r.ep < 4294967296; omega⟩ ⟨by omega, by show 1 + n % 2147483648 < 4294967296; omega⟩ ((strOfNums_inj (leB_byte _ _) (leB_byte _ _)).1 h2)
    generalize X.take 4 = X1 at *
    generalize Y.take 4 = Y1 at *
    generalize (X.drop 8).take 116 = X2 at *
    generalize (Y.drop 8).take 116 = Y2 at *
    generalize (X.drop 4).take 4 = X3 at *
    generalize (Y.drop 4).take 4 = Y3 at *
    refine calls_W (args := [.agg (rcC r).toArray, .int .u32 n]) Try.func7 rfl 81 rfl ?_
    (repeat' (first | (refine WL_is ?_; first | refine WL_nil ?_ | (refine WL_isConv ?_; first | refine WL_str2 rfl rfl rfl (t4 _ _ _ om_ cells_) k4 ?_ | refine WL_str2 rfl rfl rfl (t3 _ _ _ om_ cells_) k3 ?_ | refine WL_str2 rfl rfl rfl (t6 _ _ _ om_ cells_) k6 ?_ | refine WL_str2 rfl rfl rfl (t5 _ _ _ om_ cells_) k5 ?_ | refine WL_str2 rfl rfl rfl (t2 _ _ cells_) k2 ?_ | refine WL_str2 rfl rfl rfl (t1 _ _ cells_) k1 ?_) | (refine WL_isBin ?_; first | refine WL_seqT rfl rfl rfl rfl j1 ?_ | refine WL_seqT rfl rfl rfl rfl j3 ?_) | refine wl_ ?_ | (refine WL_isFn ?_; refine WL_call rfl rfl rfl (law13_awake_calls _) ?_; rintro _ w_ ⟨rfl, hx_⟩; have hz_ := hx_.size; refine ⟨_, rfl, ?_⟩) | (refine WL_isFn ?_; refine WL_call rfl rfl rfl (a2 _) ?_; rintro _ w_ ⟨A_, c_, rfl, ho_, hx_⟩; have hz_ := hx_.size; have hr_ := own_rd ho_; have hq_ := own_cap ho_; refine ⟨_, rfl, ?_⟩) | (refine WL_isFn ?_; refine WL_call rfl rfl rfl (a1 _) ?_; rintro _ w_ ⟨A_, c_, rfl, ho_, hx_⟩; have hz_ := hx_.size; have hr_ := own_rd ho_; have hq_ := own_cap ho_; refine ⟨_, rfl, ?_⟩)) | (refine WC_is ?_; first | refine WC_seq (fun _ _ => ?_) | refine WC_orderT (.rd true 0 (.rd true 1 (.rd true 2 (.rd true 3 (.rd true 4 (.rd true 5 (.rd true 6 (.rd true 7 (.rd true 8 (.rd true 9 (.rd true 10 (.rd true 11 (.rd true 12 (.rd true 13 (.rd true 14 (.rd true 15 (.rd true 16 (.rd true 17 (.rd true 18 (.rd true 19 (.rd true 20 (.rd true 21 (.rd true 22 (.rd true 23 (.rd true 24 (.rd true 25 (.rd true 26 (.rd true 27 (.rd true 28 (.rd true 29 (.rd true 30 (.rd true 31 (.rd true 32 (.rd true 33 (.rd true 34 .nil))))))))))))))))))))))))))))))))))) [] [] 10 (by kernel_rfl) (by kernel_rfl) (fun w_ hx_ hz_ => ?_) | refine wc_ ?_) | (refine WQ_is ?_; first | refine wq_ ?_) | (refine Kb.mk ?_; intro b_ w_ hb_ hl_ hx_ hB_) | (refine Ks.mk ?_; intro w_ hz_ hx_ hB_) | (refine Ko.mk ?_; intro A_ c_ w_ hx_ ho_ hr_; have hz_ := hx_.size; have hq_ := own_cap ho_) | (refine Kp.mk ?_; intro A_ c_ w_ hx_ hz_ ho_ hr_ hp_; have hq_ := own_cap ho_) | (refine Kl.mk ?_; intro b_ w_ hb_ hl_ hx_ hB_ ho_) | (refine Km.mk ?_; intro b_ w_ hb_ hl_ hx_ ho_) | (refine Ke.mk ?_; intro r_ hr_) | (refine Kg.mk ?_ ?_ <;> intro hs_ <;> (try simp only [strEq_t, strEq_f, decide_eq_true_eq, decide_eq_false_iff_not, beq_iff_eq, beq_eq_false_iff_ne, bne_iff_ne, bne_eq_false_iff_eq, Bool.not_eq_true', Bool.not_eq_false', Bool.not_true, Bool.not_false, gt_iff_lt, ge_iff_le, Int.not_lt, Int.not_le, ne_eq, Bool.false_eq_true, not_true_eq_false, reduceCtorEq] at hs_) <;> (try (exfalso; first | exact hs_ | (exact hs_ rfl) | omega))) | (refine WX_is ?_; first | refine wx_ ?_ | exact WX_altnil | (refine WX_isRd ?_; first | (refine WX_isT ?_; refine WX_readT rfl rfl rfl rfl rfl (by (first | (refine WL_isConv ?_; first | refine WL_str2 rfl rfl rfl (t4 _ _ _ om_ cells_) k4 ?_ | refine WL_str2 rfl rfl rfl (t3 _ _ _ om_ cells_) k3 ?_ | refine WL_str2 rfl rfl rfl (t6 _ _ _ om_ cells_) k6 ?_ | refine WL_str2 rfl rfl rfl (t5 _ _ _ om_ cells_) k5 ?_ | refine WL_str2 rfl rfl rfl (t2 _ _ cells_) k2 ?_ | refine WL_str2 rfl rfl rfl (t1 _ _ cells_) k1 ?_) | (refine WL_isBin ?_; first | refine WL_seqT rfl rfl rfl rfl j1 ?_ | refine WL_seqT rfl rfl rfl rfl j3 ?_) | refine wl_ ?_); refine WL_nil ?_; exact DR_mk rfl) ?_) | (refine WX_isF ?_; refine WX_read rfl rfl rfl rfl rfl (fun w_ hx_ => by (first | (refine WL_isConv ?_; first | refine WL_str2 rfl rfl rfl (t4 _ _ _ om_ cells_) k4 ?_ | refine WL_str2 rfl rfl rfl (t3 _ _ _ om_ cells_) k3 ?_ | refine WL_str2 rfl rfl rfl (t6 _ _ _ om_ cells_) k6 ?_ | refine WL_str2 rfl rfl rfl (t5 _ _ _ om_ cells_) k5 ?_ | refine WL_str2 rfl rfl rfl (t2 _ _ cells_) k2 ?_ | refine WL_str2 rfl rfl rfl (t1 _ _ cells_) k1 ?_) | (refine WL_isBin ?_; first | refine WL_seqT rfl rfl rfl rfl j1 ?_ | refine WL_seqT rfl rfl rfl rfl j3 ?_) | refine wl_ ?_); refine WL_nil ?_; exact DR_mk rfl) ?_) | refine wxg_ ?_) | (refine WX_isAct ?_; first | refine WX_eff1 rfl (fun _ _ => ?_) | refine WX_eff rfl (fun _ _ => ?_) ?_))))
    all_goals exact ⟨by rw [j5]; congr 2; by_cases h : r.ep = 1 + n % 2147483648 <;> simp [h], ext_⟩
  · rw [(wrB_f hO).1, (wrB_f hO).2] at a1
    simp only [List.length_nil] at a1
    by_cases hP : OkR { r with ep := 1 + n % 2147483648 }
    · rw [(wrB_t hP).1, (wrB_t hP).2, wrA_length hs] at a2
      refine calls_W (args := [.agg (rcC r).toArray, .int .u32 n]) Try.func7 rfl 81 rfl ?_
      (repeat' (first | (refine WL_is ?_; first | refine WL_nil ?_ | refine wl_ ?_ | (refine WL_isFn ?_; refine WL_call rfl rfl rfl (law13_awake_calls _) ?_; rintro _ w_ ⟨rfl, hx_⟩; have hz_ := hx_.size; refine ⟨_, rfl, ?_⟩) | (refine WL_isFn ?_; refine WL_call rfl rfl rfl (a2 _) ?_; rintro _ w_ ⟨A_, c_, rfl, ho_, hx_⟩; have hz_ := hx_.size; have hr_ := own_rd ho_; have hq_ := own_cap ho_; refine ⟨_, rfl, ?_⟩) | (refine WL_isFn ?_; refine WL_call rfl rfl rfl (a1 _) ?_; rintro _ w_ ⟨A_, c_, rfl, ho_, hx_⟩; have hz_ := hx_.size; have hr_ := own_rd ho_; have hq_ := own_cap ho_; refine ⟨_, rfl, ?_⟩)) | (refine WC_is ?_; first | refine WC_seq (fun _ _ => ?_) | refine wc_ ?_) | (refine WQ_is ?_; first | refine wq_ ?_) | (refine Kb.mk ?_; intro b_ w_ hb_ hl_ hx_ hB_) | (refine Ks.mk ?_; intro w_ hz_ hx_ hB_) | (refine Ko.mk ?_; intro A_ c_ w_ hx_ ho_ hr_; have hz_ := hx_.size; have hq_ := own_cap ho_) | (refine Kp.mk ?_; intro A_ c_ w_ hx_ hz_ ho_ hr_ hp_; have hq_ := own_cap ho_) | (refine Kl.mk ?_; intro b_ w_ hb_ hl_ hx_ hB_ ho_) | (refine Km.mk ?_; intro b_ w_ hb_ hl_ hx_ ho_) | (refine Ke.mk ?_; intro r_ hr_) | (refine Kg.mk ?_ ?_ <;> intro hs_ <;> (try simp only [strEq_t, strEq_f, decide_eq_true_eq, decide_eq_false_iff_not, beq_iff_eq, beq_eq_false_iff_ne, bne_iff_ne, bne_eq_false_iff_eq, Bool.not_eq_true', Bool.not_eq_false', Bool.not_true, Bool.not_false, gt_iff_lt, ge_iff_le, Int.not_lt, Int.not_le, ne_eq, Bool.false_eq_true, not_true_eq_false, reduceCtorEq] at hs_) <;> (try (exfalso; first | exact hs_ | (exact hs_ rfl) | omega))) ))
      all_goals exact ⟨by first | rfl | simp, ext_⟩
    · rw [(wrB_f hP).1, (wrB_f hP).2] at a2
      simp only [List.length_nil] at a2
      refine calls_W (args := [.agg (rcC r).toArray, .int .u32 n]) Try.func7 rfl 81 rfl ?_
      (repeat' (first | (refine WL_is ?_; first | refine WL_nil ?_ | refine wl_ ?_ | (refine WL_isFn ?_; refine WL_call rfl rfl rfl (law13_awake_calls _) ?_; rintro _ w_ ⟨rfl, hx_⟩; have hz_ := hx_.size; refine ⟨_, rfl, ?_⟩) | (refine WL_isFn ?_; refine WL_call rfl rfl rfl (a2 _) ?_; rintro _ w_ ⟨A_, c_, rfl, ho_, hx_⟩; have hz_ := hx_.size; have hr_ := own_rd ho_; have hq_ := own_cap ho_; refine ⟨_, rfl, ?_⟩) | (refine WL_isFn ?_; refine WL_call rfl rfl rfl (a1 _) ?_; rintro _ w_ ⟨A_, c_, rfl, ho_, hx_⟩; have hz_ := hx_.size; have hr_ := own_rd ho_; have hq_ := own_cap ho_; refine ⟨_, rfl, ?_⟩)) | (refine WC_is ?_; first | refine WC_seq (fun _ _ => ?_) | refine wc_ ?_) | (refine WQ_is ?_; first | refine wq_ ?_) | (refine Kb.mk ?_; intro b_ w_ hb_ hl_ hx_ hB_) | (refine Ks.mk ?_; intro w_ hz_ hx_ hB_) | (refine Ko.mk ?_; intro A_ c_ w_ hx_ ho_ hr_; have hz_ := hx_.size; have hq_ := own_cap ho_) | (refine Kp.mk ?_; intro A_ c_ w_ hx_ hz_ ho_ hr_ hp_; have hq_ := own_cap ho_) | (refine Kl.mk ?_; intro b_ w_ hb_ hl_ hx_ hB_ ho_) | (refine Km.mk ?_; intro b_ w_ hb_ hl_ hx_ ho_) | (refine Ke.mk ?_; intro r_ hr_) | (refine Kg.mk ?_ ?_ <;> intro hs_ <;> (try simp only [strEq_t, strEq_f, decide_eq_true_eq, decide_eq_false_iff_not, beq_iff_eq, beq_eq_false_iff_ne, bne_iff_ne, bne_eq_false_iff_eq, Bool.not_eq_true', Bool.not_eq_false', Bool.not_true, Bool.not_false, gt_iff_lt, ge_iff_le, Int.not_lt, Int.not_le, ne_eq, Bool.false_eq_true, not_true_eq_false, reduceCtorEq] at hs_) <;> (try (exfalso; first | exact hs_ | (exact hs_ rfl) | omega))) ))
      all_goals exact ⟨by first | rfl | simp, ext_⟩
end Go.Proofs.Ytejdjpjaahfnaaa.K
