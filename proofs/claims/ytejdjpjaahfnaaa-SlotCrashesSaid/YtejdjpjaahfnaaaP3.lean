/- Chapter 12 (page): the entry that bytes are. Seat-free. -/
import Derived.Test.YtejdjpjaahfnaaaP2
set_option linter.unusedVariables false
set_option linter.unusedSimpArgs false
set_option maxHeartbeats 4000000
set_option maxRecDepth 20000
namespace Go.Proofs.Ytejdjpjaahfnaaa.K
open Go.RowKit
attribute [local irreducible] strEq strOfNums Calls WL WC WQ WX Code.wp wpList bodyPost
def b0 (bs : List Int) (i : Nat) : Int := bs.getD i 0
/-- The entry that bytes tell of, whether it may be or not. -/
def toE (bs : List Int) : En := ⟨decide (b0 bs 0 = 1), b0 bs 1, b0 bs 2 + 256 * b0 bs 3, bs.drop 4⟩
def OkB (bs : List Int) : Prop := bs.length = 36 ∧ b0 bs 0 ≤ 1 ∧ OkE (toE bs)
instance (bs : List Int) : Decidable (OkB bs) := by unfold OkB; infer_instance
def rdEn (bs : List Int) : En := if OkB bs then toE bs else en0
def rdEE (bs : List Int) : Int := if OkB bs then 0 else 120
theorem b0_in {bs : List Int} (hb : ∀ x ∈ bs, 0 ≤ x ∧ x < 256) (i : Nat) : 0 ≤ b0 bs i ∧ b0 bs i < 256 := by
  unfold b0
  rw [List.getD_eq_getElem?_getD]
  cases h : bs[i]? with
  | none => decide
  | some x => exact hb x (List.mem_of_getElem? h)
theorem toE_W {bs : List Int} (hl : bs.length = 36) (hb : ∀ x ∈ bs, 0 ≤ x ∧ x < 256) : EnW (toE bs) := by
  have h1 := b0_in hb 1
  have h2 := b0_in hb 2
  have h3 := b0_in hb 3
  exact ⟨by show (bs.drop 4).length = 32; rw [List.length_drop]; omega, fun x hx => hb x (List.mem_of_mem_drop hx), by show _ ≤ b0 bs 1 ∧ b0 bs 1 ≤ _; omega, by show _ ≤ b0 bs 2 + 256 * b0 bs 3 ∧ b0 bs 2 + 256 * b0 bs 3 ≤ _; omega⟩
theorem rdEn_W {bs : List Int} (hb : ∀ x ∈ bs, 0 ≤ x ∧ x < 256) : EnW (rdEn bs) := by
  unfold rdEn
  split
  · rename_i h; exact toE_W h.1 hb
  · exact EnW.zero
theorem spl112 {a b c d : Int} : splV [1, 1, 2] [a, b, c, d] = [a, b, c + 256 * d] ∧ splE [1, 1, 2] [a, b, c, d] = 0 := by
  have h : splitL [1, 1, 2] [a, b, c, d] = some [a, b, c + 256 * d] := by
    simp [splitL, mayS, valL]
  unfold splV splE
  rw [h]
  exact ⟨rfl, rfl⟩
theorem four {bs : List Int} (hl : bs.length = 36) : bs.take 4 = [b0 bs 0, b0 bs 1, b0 bs 2, b0 bs 3] := by
  match bs, hl with
  | a :: b :: c :: d :: r, _ => rfl
theorem fill_en {u : Bool} {z a : Int} {ks : List Int} (hk : ks.length = 32) : fillS [(0, 1), (1, 1), (2, 1), (3, 32)] (enC en0) [(0, .bool u), (1, .int .i64 z), (2, .int .i64 a), (3, .agg (ks.map (.int .u8)).toArray)] = some (enC ⟨u, z, a, ks⟩) := by
  have hz := enC_length EnW.zero.len
  have e1 : (Value.agg (ks.map (Value.int .u8)).toArray).cells.toList = ks.map (.int .u8) := by simp [Value.cells]
  have hlen : (ks.map (Value.int .u8)).length = 32 := by simpa using hk
  show (bif Nat.beq (Value.agg (ks.map (Value.int .u8)).toArray).cells.toList.length 32 && Nat.ble (3 + 32) _ then some (setAts (.bool u :: .int .i64 z :: .int .i64 a :: zk.map (.int .u8)) 3 (Value.agg (ks.map (Value.int .u8)).toArray).cells.toList) else none) = _
  rw [e1, hlen]
  show some (setAts _ 3 _) = _
  rw [setAts_spec _ _ _ (by rw [hlen]; exact Nat.le_refl _), hlen]
  show some (Value.bool u :: Value.int .i64 z :: Value.int .i64 a :: (ks.map (Value.int .u8) ++ [])) = _
  rw [List.append_nil]
  rfl
attribute [local irreducible] splV splE
theorem page_Entered_calls (bs : List Int) (A : Option Addr) (m c : Nat) (w : World) (hl : bs.length = m) (hb : ∀ x ∈ bs, 0 ≤ x ∧ x < 256) (hc : m ≤ c ∧ c ≤ 9223372036854775807) (hC : Cells w A (bs.map (.int .u8))) :
    Calls Try.prog 45 #[.slice A m c] w fun r w' => r = .returned (.tuple #[.agg (enC (rdEn bs)).toArray, .int .i64 (rdEE bs)]) ∧ Ext w w' := by
  have h0 := enC_length EnW.zero.len
  have ho := enC_one en0
  refine calls_W (args := [.slice A m c]) Try.func45 rfl 47 rfl ?_
  by_cases h36 : m = 36
  · have hbl : bs.length = 36 := by omega
    subst h36
    have h4 := four hbl
    have hcut := (hC.cutI 0 4 4 om_)
    rw [cutA_zero] at hcut
    simp only [List.drop_zero, Nat.sub_zero] at hcut
    have hcut2 := (hC.cutI 4 36 c om_)
    have hd4 : (bs.drop 4).take (36 - 4) = bs.drop 4 := List.take_of_length_le (by rw [List.length_drop]; omega)
    rw [hd4] at hcut2
    have hkl : (bs.drop 4).length = 32 := by rw [List.length_drop]; omega
    rw [h4] at hcut
    have q0 := b0_in hb 0
    have q1 := b0_in hb 1
    have q2 := b0_in hb 2
    have q3 := b0_in hb 3
    have sp := fun A0 A1 c0 c1 w (h : 4 ≤ c1 ∧ c1 ≤ 9223372036854775807) hC0 hC1 => fix_Split_calls [1, 1, 2] [b0 bs 0, b0 bs 1, b0 bs 2, b0 bs 3] A0 A1 3 c0 4 c1 w rfl rfl om_ (by decide) (by intro x hx; simp only [List.mem_cons, List.not_mem_nil, or_false] at hx; omega) hC0 hC1
    simp only [spl112.1, spl112.2, List.length_cons, List.length_nil, Nat.zero_add, Nat.reduceAdd] at sp
    have hkm : ((bs.drop 4).map (Value.int .u8)).length = 32 := by simpa using hkl
    have hne : 0 < ((bs.drop 4).map (Value.int .u8)).length := by omega
    have hid : ∀ j v, ((bs.drop 4).map (Value.int .u8))[j]? = some v → ((bs.drop 4).map (Value.int .u8))[0 + j]? = some v := fun j v h => by rw [Nat.zero_add]; exact h
    have hW := toE_W hbl hb
    have hel : (enC ⟨decide (b0 bs 0 = 1), b0 bs 1, b0 bs 2 + 256 * b0 bs 3, bs.drop 4⟩).length = 35 := enC_length hW.len
    have hone : ∀ u ∈ enC ⟨decide (b0 bs 0 = 1), b0 bs 1, b0 bs 2 + 256 * b0 bs 3, bs.drop 4⟩, u.oneCell' = true := enC_one (toE bs)
    have hf := fill_en (u := decide (b0 bs 0 = 1)) (z := b0 bs 1) (a := b0 bs 2 + 256 * b0 bs 3) hkl
    by_cases hq : b0 bs 0 ≤ 1
    · cases hok : okE (toE bs) with
      | true =>
        have hO : OkB bs := ⟨hbl, hq, okE_iff.1 hok⟩
        unfold rdEn rdEE
        rw [if_pos hO, if_pos hO]
        (repeat' (first | (refine WL_is ?_; first | refine WL_nil ?_ | (refine WL_isLoad ?_; refine WL_loadPA rfl rfl rfl cells_ hkm hne hid ?_) | refine wl_ ?_ | (refine WL_isFn ?_; refine WL_call rfl rfl rfl (sp _ _ _ _ _ om_ cells_ cells_) ?_; rintro _ w_ ⟨A_, c_, rfl, ho_, hx_⟩; have hz_ := hx_.size; have hr_ := own_rd ho_; have hq_ := own_cap ho_; refine ⟨_, rfl, ?_⟩) | (refine WL_isFn ?_; refine WL_call rfl rfl rfl (page_may_calls (toE bs) _ hW _ hok) ?_; rintro _ w_ ⟨rfl, hx_⟩; have hz_ := hx_.size; refine ⟨_, rfl, ?_⟩)) | (refine WC_is ?_; first | refine WC_seq (fun _ _ => ?_) | refine WC_orderT (.rd true 0 (.rd true 1 (.rd true 2 (.rd true 3 (.rd true 4 (.rd true 5 (.rd true 6 (.rd true 7 (.rd true 8 (.rd true 9 (.rd true 10 (.rd true 11 (.rd true 12 (.rd true 13 (.rd true 14 (.rd true 15 (.rd true 16 (.act true 17 .nil .nil)))))))))))))))))) [[], [], [], [], [], [], [], [], [], [], [], [], [], [], [], [], [], [0, 1, 2, 3, 4, 5, 6, 7, 8, 9, 10, 11, 12, 13, 14, 15, 16]] [17] 6 (by kernel_rfl) (by kernel_rfl) (fun w_ hx_ hz_ => ?_) | refine wc_ ?_) | (refine WQ_is ?_; first | refine wq_ ?_) | (refine Kb.mk ?_; intro b_ w_ hb_ hl_ hx_ hB_) | (refine Ks.mk ?_; intro w_ hz_ hx_ hB_) | (refine Ko.mk ?_; intro A_ c_ w_ hx_ ho_ hr_; have hz_ := hx_.size; have hq_ := own_cap ho_) | (refine Kp.mk ?_; intro A_ c_ w_ hx_ hz_ ho_ hr_ hp_; have hq_ := own_cap ho_) | (refine Kl.mk ?_; intro b_ w_ hb_ hl_ hx_ hB_ ho_) | (refine Km.mk ?_; intro b_ w_ hb_ hl_ hx_ ho_) | (refine Ke.mk ?_; intro r_ hr_) | (refine Kg.mk ?_ ?_ <;> intro hs_ <;> (try simp only [strEq_t, strEq_f, decide_eq_true_eq, decide_eq_false_iff_not, beq_iff_eq, beq_eq_false_iff_ne, bne_iff_ne, bne_eq_false_iff_eq, Bool.not_eq_true', Bool.not_eq_false', Bool.not_true, Bool.not_false, gt_iff_lt, ge_iff_le, Int.not_lt, Int.not_le, ne_eq, Bool.false_eq_true, not_true_eq_false, reduceCtorEq] at hs_) <;> (try (exfalso; first | exact hs_ | (exact hs_ rfl) | omega))) | (refine WX_is ?_; first | refine wx_ ?_ | exact WX_altnil | (refine WX_isRd ?_; first | (refine WX_isT ?_; refine WX_readT rfl rfl rfl rfl rfl (by (first | (refine WL_isLoad ?_; refine WL_loadPA rfl rfl rfl cells_ hkm hne hid ?_) | refine wl_ ?_); refine WL_nil ?_; exact DR_mk rfl) ?_) | (refine WX_isF ?_; refine WX_read rfl rfl rfl rfl rfl (fun w_ hx_ => by (first | (refine WL_isLoad ?_; refine WL_loadPA rfl rfl rfl cells_ hkm hne hid ?_) | refine wl_ ?_); refine WL_nil ?_; exact DR_mk rfl) ?_) | refine wxg_ ?_) | (refine WX_isAct ?_; first | refine WX_eff1 rfl (fun _ _ => ?_) | refine WX_eff rfl (fun _ _ => ?_) ?_))))
        all_goals exact ⟨rfl, ext_⟩
      | false =>
        have hO : ¬ OkB bs := fun h => by rw [okE_iff.2 h.2.2] at hok; cases hok
        unfold rdEn rdEE
        rw [if_neg hO, if_neg hO]
        (repeat' (first | (refine WL_is ?_; first | refine WL_nil ?_ | (refine WL_isLoad ?_; refine WL_loadPA rfl rfl rfl cells_ hkm hne hid ?_) | refine wl_ ?_ | (refine WL_isFn ?_; refine WL_call rfl rfl rfl (sp _ _ _ _ _ om_ cells_ cells_) ?_; rintro _ w_ ⟨A_, c_, rfl, ho_, hx_⟩; have hz_ := hx_.size; have hr_ := own_rd ho_; have hq_ := own_cap ho_; refine ⟨_, rfl, ?_⟩) | (refine WL_isFn ?_; refine WL_call rfl rfl rfl (page_may_calls (toE bs) _ hW _ hok) ?_; rintro _ w_ ⟨rfl, hx_⟩; have hz_ := hx_.size; refine ⟨_, rfl, ?_⟩)) | (refine WC_is ?_; first | refine WC_seq (fun _ _ => ?_) | refine WC_orderT (.rd true 0 (.rd true 1 (.rd true 2 (.rd true 3 (.rd true 4 (.rd true 5 (.rd true 6 (.rd true 7 (.rd true 8 (.rd true 9 (.rd true 10 (.rd true 11 (.rd true 12 (.rd true 13 (.rd true 14 (.rd true 15 (.rd true 16 (.act true 17 .nil .nil)))))))))))))))))) [[], [], [], [], [], [], [], [], [], [], [], [], [], [], [], [], [], [0, 1, 2, 3, 4, 5, 6, 7, 8, 9, 10, 11, 12, 13, 14, 15, 16]] [17] 6 (by kernel_rfl) (by kernel_rfl) (fun w_ hx_ hz_ => ?_) | refine wc_ ?_) | (refine WQ_is ?_; first | refine wq_ ?_) | (refine Kb.mk ?_; intro b_ w_ hb_ hl_ hx_ hB_) | (refine Ks.mk ?_; intro w_ hz_ hx_ hB_) | (refine Ko.mk ?_; intro A_ c_ w_ hx_ ho_ hr_; have hz_ := hx_.size; have hq_ := own_cap ho_) | (refine Kp.mk ?_; intro A_ c_ w_ hx_ hz_ ho_ hr_ hp_; have hq_ := own_cap ho_) | (refine Kl.mk ?_; intro b_ w_ hb_ hl_ hx_ hB_ ho_) | (refine Km.mk ?_; intro b_ w_ hb_ hl_ hx_ ho_) | (refine Ke.mk ?_; intro r_ hr_) | (refine Kg.mk ?_ ?_ <;> intro hs_ <;> (try simp only [strEq_t, strEq_f, decide_eq_true_eq, decide_eq_false_iff_not, beq_iff_eq, beq_eq_false_iff_ne, bne_iff_ne, bne_eq_false_iff_eq, Bool.not_eq_true', Bool.not_eq_false', Bool.not_true, Bool.not_false, gt_iff_lt, ge_iff_le, Int.not_lt, Int.not_le, ne_eq, Bool.false_eq_true, not_true_eq_false, reduceCtorEq] at hs_) <;> (try (exfalso; first | exact hs_ | (exact hs_ rfl) | omega))) | (refine WX_is ?_; first | refine wx_ ?_ | exact WX_altnil | (refine WX_isRd ?_; first | (refine WX_isT ?_; refine WX_readT rfl rfl rfl rfl rfl (by (first | (refine WL_isLoad ?_; refine WL_loadPA rfl rfl rfl cells_ hkm hne hid ?_) | refine wl_ ?_); refine WL_nil ?_; exact DR_mk rfl) ?_) | (refine WX_isF ?_; refine WX_read rfl rfl rfl rfl rfl (fun w_ hx_ => by (first | (refine WL_isLoad ?_; refine WL_loadPA rfl rfl rfl cells_ hkm hne hid ?_) | refine wl_ ?_); refine WL_nil ?_; exact DR_mk rfl) ?_) | refine wxg_ ?_) | (refine WX_isAct ?_; first | refine WX_eff1 rfl (fun _ _ => ?_) | refine WX_eff rfl (fun _ _ => ?_) ?_))))
        all_goals exact ⟨rfl, ext_⟩
    · have hO : ¬ OkB bs := fun h => hq h.2.1
      unfold rdEn rdEE
      rw [if_neg hO, if_neg hO]
      (repeat' (first | (refine WL_is ?_; first | refine WL_nil ?_ | (refine WL_isLoad ?_; refine WL_loadPA rfl rfl rfl cells_ hkm hne hid ?_) | refine wl_ ?_ | (refine WL_isFn ?_; refine WL_call rfl rfl rfl (sp _ _ _ _ _ om_ cells_ cells_) ?_; rintro _ w_ ⟨A_, c_, rfl, ho_, hx_⟩; have hz_ := hx_.size; have hr_ := own_rd ho_; have hq_ := own_cap ho_; refine ⟨_, rfl, ?_⟩) | (refine WL_isFn ?_; refine WL_call rfl rfl rfl (page_may_calls (toE bs) _ hW _ hok) ?_; rintro _ w_ ⟨rfl, hx_⟩; have hz_ := hx_.size; refine ⟨_, rfl, ?_⟩)) | (refine WC_is ?_; first | refine WC_seq (fun _ _ => ?_) | refine WC_orderT (.rd true 0 (.rd true 1 (.rd true 2 (.rd true 3 (.rd true 4 (.rd true 5 (.rd true 6 (.rd true 7 (.rd true 8 (.rd true 9 (.rd true 10 (.rd true 11 (.rd true 12 (.rd true 13 (.rd true 14 (.rd true 15 (.rd true 16 (.act true 17 .nil .nil)))))))))))))))))) [[], [], [], [], [], [], [], [], [], [], [], [], [], [], [], [], [], [0, 1, 2, 3, 4, 5, 6, 7, 8, 9, 10, 11, 12, 13, 14, 15, 16]] [17] 6 (by kernel_rfl) (by kernel_rfl) (fun w_ hx_ hz_ => ?_) | refine wc_ ?_) | (refine WQ_is ?_; first | refine wq_ ?_) | (refine Kb.mk ?_; intro b_ w_ hb_ hl_ hx_ hB_) | (refine Ks.mk ?_; intro w_ hz_ hx_ hB_) | (refine Ko.mk ?_; intro A_ c_ w_ hx_ ho_ hr_; have hz_ := hx_.size; have hq_ := own_cap ho_) | (refine Kp.mk ?_; intro A_ c_ w_ hx_ hz_ ho_ hr_ hp_; have hq_ := own_cap ho_) | (refine Kl.mk ?_; intro b_ w_ hb_ hl_ hx_ hB_ ho_) | (refine Km.mk ?_; intro b_ w_ hb_ hl_ hx_ ho_) | (refine Ke.mk ?_; intro r_ hr_) | (refine Kg.mk ?_ ?_ <;> intro hs_ <;> (try simp only [strEq_t, strEq_f, decide_eq_true_eq, decide_eq_false_iff_not, beq_iff_eq, beq_eq_false_iff_ne, bne_iff_ne, bne_eq_false_iff_eq, Bool.not_eq_true', Bool.not_eq_false', Bool.not_true, Bool.not_false, gt_iff_lt, ge_iff_le, Int.not_lt, Int.not_le, ne_eq, Bool.false_eq_true, not_true_eq_false, reduceCtorEq] at hs_) <;> (try (exfalso; first | exact hs_ | (exact hs_ rfl) | omega))) | (refine WX_is ?_; first | refine wx_ ?_ | exact WX_altnil | (refine WX_isRd ?_; first | (refine WX_isT ?_; refine WX_readT rfl rfl rfl rfl rfl (by (first | (refine WL_isLoad ?_; refine WL_loadPA rfl rfl rfl cells_ hkm hne hid ?_) | refine wl_ ?_); refine WL_nil ?_; exact DR_mk rfl) ?_) | (refine WX_isF ?_; refine WX_read rfl rfl rfl rfl rfl (fun w_ hx_ => by (first | (refine WL_isLoad ?_; refine WL_loadPA rfl rfl rfl cells_ hkm hne hid ?_) | refine wl_ ?_); refine WL_nil ?_; exact DR_mk rfl) ?_) | refine wxg_ ?_) | (refine WX_isAct ?_; first | refine WX_eff1 rfl (fun _ _ => ?_) | refine WX_eff rfl (fun _ _ => ?_) ?_))))
      all_goals exact ⟨rfl, ext_⟩
  · have hO : ¬ OkB bs := fun h => h36 (by rw [← hl]; exact h.1)
    unfold rdEn rdEE
    rw [if_neg hO, if_neg hO]
    (repeat' (first | (refine WL_is ?_; first | refine WL_nil ?_ | refine wl_ ?_ ) | (refine WC_is ?_; first | refine WC_seq (fun _ _ => ?_) | refine wc_ ?_) | (refine WQ_is ?_; first | refine wq_ ?_) | (refine Kb.mk ?_; intro b_ w_ hb_ hl_ hx_ hB_) | (refine Ks.mk ?_; intro w_ hz_ hx_ hB_) | (refine Ko.mk ?_; intro A_ c_ w_ hx_ ho_ hr_; have hz_ := hx_.size; have hq_ := own_cap ho_) | (refine Kp.mk ?_; intro A_ c_ w_ hx_ hz_ ho_ hr_ hp_; have hq_ := own_cap ho_) | (refine Kl.mk ?_; intro b_ w_ hb_ hl_ hx_ hB_ ho_) | (refine Km.mk ?_; intro b_ w_ hb_ hl_ hx_ ho_) | (refine Ke.mk ?_; intro r_ hr_) | (refine Kg.mk ?_ ?_ <;> intro hs_ <;> (try simp only [strEq_t, strEq_f, decide_eq_true_eq, decide_eq_false_iff_not, beq_iff_eq, beq_eq_false_iff_ne, bne_iff_ne, bne_eq_false_iff_eq, Bool.not_eq_true', Bool.not_eq_false', Bool.not_true, Bool.not_false, gt_iff_lt, ge_iff_le, Int.not_lt, Int.not_le, ne_eq, Bool.false_eq_true, not_true_eq_false, reduceCtorEq] at hs_) <;> (try (exfalso; first | exact hs_ | (exact hs_ rfl) | omega))) ))
    all_goals exact ⟨rfl, ext_⟩
end Go.Proofs.Ytejdjpjaahfnaaa.K
