import Derived.Test.YtcggdgcbhfgfiaaG3
set_option linter.unusedVariables false
set_option linter.unusedSimpArgs false
set_option maxHeartbeats 4000000
set_option maxRecDepth 20000
namespace Go.Proofs.Ytcggdgcbhfgfiaa.K
open Go.RowKit
attribute [local irreducible] Calls WL WC WQ Code.wp wpList bodyPost
theorem takes_mono (m m' d : Int) (h : m ≤ m') (hd : 0 < d) : m / d ≤ m' / d := Int.ediv_le_ediv hd h
theorem takes_anti (m d d' : Int) (h0 : 0 ≤ m) (hd : 0 < d) (h : d ≤ d') : m / d' ≤ m / d := by
  have hq := Int.ediv_nonneg h0 (show (0 : Int) ≤ d' by omega)
  have h1 := Int.ediv_mul_le m (show d' ≠ 0 by omega)
  have h2 := Int.mul_le_mul_of_nonneg_left h hq
  exact Int.le_ediv_of_mul_le hd (by omega)
theorem takes_sum (a b d : Int) (hd : 0 < d) : (a + b) / d ≤ a / d + b / d + 1 := by
  have h1 := Int.lt_ediv_add_one_mul_self a hd
  have h2 := Int.lt_ediv_add_one_mul_self b hd
  have h3 : (a + b) / d < a / d + b / d + 2 := by
    refine Int.ediv_lt_of_lt_mul hd ?_
    rw [show a / d + b / d + 2 = (a / d + 1) + (b / d + 1) by omega, Int.add_mul]
    omega
  omega
theorem takesS_pos (m s : Int) (h : 4096 ≤ s ∧ s ≤ 65536) : takesS m s = max m 0 / (s - 2409) + 1 := by unfold takesS; rw [if_pos h]
theorem takesS_mono (m m' s : Int) (h : m ≤ m') (hs : 4096 ≤ s ∧ s ≤ 65536) : takesS m s ≤ takesS m' s := by
  rw [takesS_pos _ _ hs, takesS_pos _ _ hs]
  have := takes_mono (max m 0) (max m' 0) (s - 2409) (by omega) (by omega)
  omega
theorem takesS_anti (m s t : Int) (h : s ≤ t) (hs : 4096 ≤ s ∧ t ≤ 65536) : takesS m t ≤ takesS m s := by
  rw [takesS_pos _ _ (by omega), takesS_pos _ _ (by omega)]
  have := takes_anti (max m 0) (s - 2409) (t - 2409) (by omega) (by omega) (by omega)
  omega
theorem takesS_one (m s : Int) (hs : 4096 ≤ s ∧ s ≤ 65536) : 1 ≤ takesS m s := by
  rw [takesS_pos _ _ hs]
  have := Int.ediv_nonneg (show (0 : Int) ≤ max m 0 by omega) (show (0 : Int) ≤ s - 2409 by omega)
  omega
theorem takesS_sum (a b s : Int) (ha : 0 ≤ a) (hb : 0 ≤ b) (hs : 4096 ≤ s ∧ s ≤ 65536) : takesS (a + b) s ≤ takesS a s + takesS b s := by
  rw [takesS_pos _ _ hs, takesS_pos _ _ hs, takesS_pos _ _ hs, Int.max_eq_left (by omega), Int.max_eq_left ha, Int.max_eq_left hb]
  have := takes_sum a b (s - 2409) (by omega)
  omega
theorem zonesS_pos (b s : Int) (hb : 1 ≤ b ∧ b ≤ 64) (hs : 4096 ≤ s ∧ s ≤ 65536) : zonesS b s = 4 + 2 * takesS (104 * b + 328 * (leavesS b + 1)) s + takesS (104 * b + 2409) s + 1 := by unfold zonesS; rw [if_pos ⟨hb, hs⟩]
theorem zonesS_least (b s : Int) (hb : 1 ≤ b ∧ b ≤ 64) (hs : 4096 ≤ s ∧ s ≤ 65536) : 8 ≤ zonesS b s := by
  rw [zonesS_pos b s hb hs]
  have h1 := takesS_one (104 * b + 328 * (leavesS b + 1)) s hs
  have h2 := takesS_one (104 * b + 2409) s hs
  omega
theorem zonesS_mono (b c s : Int) (hbc : b ≤ c) (hb : 1 ≤ b ∧ c ≤ 64) (hs : 4096 ≤ s ∧ s ≤ 65536) : zonesS b s ≤ zonesS c s := by
  rw [zonesS_pos b s (by omega) hs, zonesS_pos c s (by omega) hs]
  have h1 := takesS_mono (104 * b + 328 * (leavesS b + 1)) (104 * c + 328 * (leavesS c + 1)) s (by unfold leavesS; omega) hs
  have h2 := takesS_mono (104 * b + 2409) (104 * c + 2409) s (by omega) hs
  omega
theorem zonesS_anti (b s t : Int) (hst : s ≤ t) (hb : 1 ≤ b ∧ b ≤ 64) (hs : 4096 ≤ s ∧ t ≤ 65536) : zonesS b t ≤ zonesS b s := by
  rw [zonesS_pos b s hb (by omega), zonesS_pos b t hb (by omega)]
  have h1 := takesS_anti (104 * b + 328 * (leavesS b + 1)) s t hst hs
  have h2 := takesS_anti (104 * b + 2409) s t hst hs
  omega
theorem zonesS_bd (b s : Int) : 0 ≤ zonesS b s ∧ zonesS b s ≤ 10000000 := by
  unfold zonesS
  split
  · rename_i h
    have h1 := takesS_bd (104 * b + 328 * (leavesS b + 1)) s (by unfold leavesS; omega)
    have h2 := takesS_bd (104 * b + 2409) s (by omega)
    omega
  · omega
theorem checkS_ok (z s b : Int) : (checkS z s b = 0 ↔ zonesS b s ≠ 0 ∧ zonesS b s ≤ z ∧ z ≤ 64) ∧ (checkS z s b = 0 ∨ checkS z s b = 180) := by
  unfold checkS
  split <;> omega

theorem GeomTells_calls (a0 a1 a2 a3 : Int) (h0 : a0 ≤ 9223372036854775807) (w : World) : Calls Try.prog 3 #[.int .i64 a0, .int .i64 a1, .int .i64 a2, .int .i64 a3] w fun e w' => e = .returned (.bool true) ∧ Ext w w' := by
  refine calls_W (args := [.int .i64 a0, .int .i64 a1, .int .i64 a2, .int .i64 a3]) Try.func3 rfl _ rfl ?_
  (repeat' (first | refine WL_nil ?_ | refine WL_add rfl rfl rfl rfl (by omega) ?_ | refine WL_sub rfl rfl rfl rfl (by omega) ?_ | refine WL_mul rfl rfl rfl rfl (by omega) ?_ | refine WL_pure rfl rfl rfl rfl ?_ | refine WC_seq (fun _ _ => ?_) | refine WC_region ?_ | exact WQ_then (by assumption) ?_ | refine WQ_then (by assumption) ?_ | refine WQ_then_ret ?_ | refine WQ_then_exit ?_ | refine WQ_inBlock_exit ?_ | refine WQ_inBlock_normal ?_ | refine WQ_inBlock_ret ?_ | refine WQ_inBlock_other rfl ?_ | refine WC_skip ?_ | refine WC_ret ?_ | refine WC_exit ?_ | refine WC_block ?_ | refine WC_cond_true rfl ?_ | refine WC_cond_false rfl ?_ | refine WL_off rfl rfl rfl ?_ | refine WL_off_none rfl rfl ?_ | refine WL_len rfl rfl rfl ?_ | refine WL_conv_i64 rfl rfl rfl (by omega) ?_ | refine WL_conv_u64 rfl rfl rfl (by omega) ?_ | refine WL_conv_u8 rfl rfl rfl ?_ | refine WL_conv rfl rfl rfl ?_ | refine WL_quo rfl rfl rfl rfl (by omega) (by omega) ?_ | refine WL_mod rfl rfl rfl rfl (by omega) (by omega) ?_ | refine WL_max rfl rfl rfl ?_ | refine WL_min rfl rfl rfl ?_ | refine WL_and rfl rfl rfl rfl ?_ | refine WL_or rfl rfl rfl rfl ?_ | refine WL_xor rfl rfl rfl rfl ?_ | refine WL_box rfl rfl rfl (fun b_ w_ hb_ hl_ hx_ hB_ => ?_) | refine WL_alloc rfl rfl (fun b_ w_ hb_ hl_ hx_ hB_ => ?_) | refine WL_load rfl rfl rfl (by (repeat (first | assumption | (refine Blk.ext ?_ (by assumption)) | (refine Blk.extB ?_ (by assumption) ?hne; (case hne => omega))))) rfl ?_ | refine WL_store rfl rfl rfl (by (repeat (first | assumption | (refine Blk.ext ?_ (by assumption)) | (refine Blk.extB ?_ (by assumption) ?hne; (case hne => omega))))) rfl rfl (Nat.le_of_ble_eq_true rfl) (by first | exact one_int _ _ | exact one_bool _ | exact one_slice _ _ _ | exact one_pointer _ | assumption) (fun w_ hz_ hx_ hB_ => ?_) | refine WL_fieldAddr rfl rfl rfl ?_ | refine WL_beq rfl rfl rfl rfl rfl ?_ | refine WL_bne rfl rfl rfl rfl rfl ?_ | refine WQ_body1 (Or.inl rfl) rfl rfl ?_ | refine WQ_body2 (Or.inl rfl) rfl rfl rfl ?_ | refine WQ_body1 (Or.inr rfl) rfl rfl ?_ | refine WQ_body2 (Or.inr rfl) rfl rfl rfl ?_ | refine WQ_body0 (Or.inl rfl) rfl ?_ | refine WQ_body0 (Or.inr rfl) rfl ?_ | (refine WL_call rfl rfl rfl (geom_awake_calls _) ?_; rintro _ w_ ⟨rfl, hx_⟩; have hz_ := hx_.size; refine ⟨_, rfl, ?_⟩) | (refine WL_call rfl rfl rfl (geom_Takes_calls _ _ _ h0) ?_; rintro _ _ ⟨rfl, rfl⟩; refine ⟨_, rfl, ?_⟩) | (refine WL_call rfl rfl rfl (ref18_Takes_calls _ _ _ h0) ?_; rintro _ _ ⟨rfl, rfl⟩; refine ⟨_, rfl, ?_⟩) | (refine WL_call rfl rfl rfl (geom_Zones_calls _ _ _) ?_; rintro _ w_ ⟨rfl, hx_⟩; have hz_ := hx_.size; refine ⟨_, rfl, ?_⟩) | (refine WL_call rfl rfl rfl (ref18_Zones_calls _ _ _) ?_; rintro _ _ ⟨rfl, rfl⟩; refine ⟨_, rfl, ?_⟩) | (refine WL_call rfl rfl rfl (geom_Check_calls _ _ _ _) ?_; rintro _ w_ ⟨rfl, hx_⟩; have hz_ := hx_.size; refine ⟨_, rfl, ?_⟩) | (refine WL_call rfl rfl rfl (ref18_Check_calls _ _ _ _) ?_; rintro _ _ ⟨rfl, rfl⟩; refine ⟨_, rfl, ?_⟩) | (refine WL_call rfl rfl rfl (geom_Bound_calls _ _ _ _) ?_; rintro _ _ ⟨rfl, rfl⟩; refine ⟨_, rfl, ?_⟩) | (refine WL_call rfl rfl rfl (ref18_Bound_calls _ _ _ _) ?_; rintro _ _ ⟨rfl, rfl⟩; refine ⟨_, rfl, ?_⟩) | (refine WL_call rfl rfl rfl (geom_Draws_calls _ _ _) ?_; rintro _ _ ⟨rfl, rfl⟩; refine ⟨_, rfl, ?_⟩) | (refine WL_call rfl rfl rfl (ref18_Draws_calls _ _ _) ?_; rintro _ _ ⟨rfl, rfl⟩; refine ⟨_, rfl, ?_⟩) | ((first | refine WL_guard rfl rfl rfl rfl (fun hs_ => ?_) (fun hs_ => ?_) | refine WC_cond rfl (fun hs_ => ?_) (fun hs_ => ?_)) <;> (try simp only [decide_eq_true_eq, decide_eq_false_iff_not, beq_iff_eq, beq_eq_false_iff_ne, bne_iff_ne, bne_eq_false_iff_eq, Bool.not_eq_true', Bool.not_eq_false', Bool.not_true, Bool.not_false, gt_iff_lt, ge_iff_le, Int.not_lt, Int.not_le, ne_eq, Bool.false_eq_true, reduceCtorEq] at hs_) <;> (try (exfalso; first | exact hs_ | contradiction | omega)))))
  all_goals exact ⟨by simp, by (repeat' (first | exact Ext.refl' _ | assumption | (refine Ext.then ?_ (by assumption)) | (refine ExtB.ext ?_ (by assumption) (by omega))))⟩
theorem GeomTells_w (a0 a1 a2 a3 : Int) (h0 : -9223372036854775808 ≤ a0 ∧ a0 ≤ 9223372036854775807) (h1 : -9223372036854775808 ≤ a1 ∧ a1 ≤ 9223372036854775807) (h2 : -9223372036854775808 ≤ a2 ∧ a2 ≤ 9223372036854775807) (h3 : -9223372036854775808 ≤ a3 ∧ a3 ≤ 9223372036854775807) (w : World) : Calls Try.prog 3 #[.int .i64 a0, .int .i64 a1, .int .i64 a2, .int .i64 a3] w fun e w' => e = .returned (.bool true) ∧ Ext w w' :=
  GeomTells_calls a0 a1 a2 a3 h0.2 w
theorem GeomRoom_calls (a0 a1 : Int) (h0 : 0 ≤ a0 ∧ a0 ≤ 255) (h1 : 0 ≤ a1 ∧ a1 ≤ 65535) (w : World) : Calls Try.prog 5 #[.int .u8 a0, .int .u16 a1] w fun e w' => e = .returned (.bool true) ∧ Ext w w' := by
  have hz := zonesS_pos (1 + a0 % 64) (4096 + a1 % 60000) (by omega) (by omega)
  have ht1 := takesS_one (104 * (1 + a0 % 64) + 328 * (leavesS (1 + a0 % 64) + 1)) (4096 + a1 % 60000) (by omega)
  have ht2 := takesS_one (104 * (1 + a0 % 64) + 2409) (4096 + a1 % 60000) (by omega)
  have ht3 := takesS_bd (104 * (1 + a0 % 64) + 328 * (leavesS (1 + a0 % 64) + 1)) (4096 + a1 % 60000) (by unfold leavesS; omega)
  have ht4 := takesS_bd (104 * (1 + a0 % 64) + 2409) (4096 + a1 % 60000) (by omega)
  have hl : leavesS (1 + a0 % 64) = (1 + a0 % 64 + 7) / 8 := rfl
  rw [hl] at hz ht1 ht3
  clear hl
  refine calls_W (args := [.int .u8 a0, .int .u16 a1]) Try.func5 rfl _ rfl ?_
  (repeat' (first | refine WL_nil ?_ | refine WL_add rfl rfl rfl rfl (by omega) ?_ | refine WL_sub rfl rfl rfl rfl (by omega) ?_ | refine WL_mul rfl rfl rfl rfl (by omega) ?_ | refine WL_pure rfl rfl rfl rfl ?_ | refine WC_seq (fun _ _ => ?_) | refine WC_region ?_ | exact WQ_then (by assumption) ?_ | refine WQ_then (by assumption) ?_ | refine WQ_then_ret ?_ | refine WQ_then_exit ?_ | refine WQ_inBlock_exit ?_ | refine WQ_inBlock_normal ?_ | refine WQ_inBlock_ret ?_ | refine WQ_inBlock_other rfl ?_ | refine WC_skip ?_ | refine WC_ret ?_ | refine WC_exit ?_ | refine WC_block ?_ | refine WC_cond_true rfl ?_ | refine WC_cond_false rfl ?_ | refine WL_off rfl rfl rfl ?_ | refine WL_off_none rfl rfl ?_ | refine WL_len rfl rfl rfl ?_ | refine WL_conv_i64 rfl rfl rfl (by omega) ?_ | refine WL_conv_u64 rfl rfl rfl (by omega) ?_ | refine WL_conv_u8 rfl rfl rfl ?_ | refine WL_conv rfl rfl rfl ?_ | refine WL_quo rfl rfl rfl rfl (by omega) (by omega) ?_ | refine WL_mod rfl rfl rfl rfl (by omega) (by omega) ?_ | refine WL_max rfl rfl rfl ?_ | refine WL_min rfl rfl rfl ?_ | refine WL_and rfl rfl rfl rfl ?_ | refine WL_or rfl rfl rfl rfl ?_ | refine WL_xor rfl rfl rfl rfl ?_ | refine WL_box rfl rfl rfl (fun b_ w_ hb_ hl_ hx_ hB_ => ?_) | refine WL_alloc rfl rfl (fun b_ w_ hb_ hl_ hx_ hB_ => ?_) | refine WL_load rfl rfl rfl (by (repeat (first | assumption | (refine Blk.ext ?_ (by assumption)) | (refine Blk.extB ?_ (by assumption) ?hne; (case hne => omega))))) rfl ?_ | refine WL_store rfl rfl rfl (by (repeat (first | assumption | (refine Blk.ext ?_ (by assumption)) | (refine Blk.extB ?_ (by assumption) ?hne; (case hne => omega))))) rfl rfl (Nat.le_of_ble_eq_true rfl) (by first | exact one_int _ _ | exact one_bool _ | exact one_slice _ _ _ | exact one_pointer _ | assumption) (fun w_ hz_ hx_ hB_ => ?_) | refine WL_fieldAddr rfl rfl rfl ?_ | refine WL_beq rfl rfl rfl rfl rfl ?_ | refine WL_bne rfl rfl rfl rfl rfl ?_ | refine WQ_body1 (Or.inl rfl) rfl rfl ?_ | refine WQ_body2 (Or.inl rfl) rfl rfl rfl ?_ | refine WQ_body1 (Or.inr rfl) rfl rfl ?_ | refine WQ_body2 (Or.inr rfl) rfl rfl rfl ?_ | refine WQ_body0 (Or.inl rfl) rfl ?_ | refine WQ_body0 (Or.inr rfl) rfl ?_ | (refine WL_call rfl rfl rfl (geom_awake_calls _) ?_; rintro _ w_ ⟨rfl, hx_⟩; have hz_ := hx_.size; refine ⟨_, rfl, ?_⟩) | (refine WL_call rfl rfl rfl (geom_Takes_calls _ _ _ (by omega)) ?_; rintro _ _ ⟨rfl, rfl⟩; refine ⟨_, rfl, ?_⟩) | (refine WL_call rfl rfl rfl (geom_Zones_calls _ _ _) ?_; rintro _ w_ ⟨rfl, hx_⟩; have hz_ := hx_.size; refine ⟨_, rfl, ?_⟩) | ((first | refine WL_guard rfl rfl rfl rfl (fun hs_ => ?_) (fun hs_ => ?_) | refine WC_cond rfl (fun hs_ => ?_) (fun hs_ => ?_)) <;> (try simp only [decide_eq_true_eq, decide_eq_false_iff_not, beq_iff_eq, beq_eq_false_iff_ne, bne_iff_ne, bne_eq_false_iff_eq, Bool.not_eq_true', Bool.not_eq_false', Bool.not_true, Bool.not_false, gt_iff_lt, ge_iff_le, Int.not_lt, Int.not_le, ne_eq, Bool.false_eq_true, reduceCtorEq] at hs_) <;> (try (exfalso; first | exact hs_ | contradiction | omega)))))
  all_goals exact ⟨by simp; omega, by (repeat' (first | exact Ext.refl' _ | assumption | (refine Ext.then ?_ (by assumption)) | (refine ExtB.ext ?_ (by assumption) (by omega))))⟩
end Go.Proofs.Ytcggdgcbhfgfiaa.K
