import Derived.Test.YtcggdgcbhfgfiaaG4
set_option linter.unusedVariables false
set_option linter.unusedSimpArgs false
set_option maxHeartbeats 4000000
set_option maxRecDepth 20000
namespace Go.Proofs.Ytcggdgcbhfgfiaa.K
open Go.RowKit
attribute [local irreducible] Calls WL WC WQ Code.wp wpList bodyPost
theorem GeomSums_calls (a0 a1 a2 : Int) (h0 : 0 ≤ a0 ∧ a0 ≤ 4294967295) (h1 : 0 ≤ a1 ∧ a1 ≤ 4294967295) (h2 : 0 ≤ a2 ∧ a2 ≤ 65535) (w : World) : Calls Try.prog 6 #[.int .u32 a0, .int .u32 a1, .int .u16 a2] w fun e w' => e = .returned (.bool true) ∧ Ext w w' := by
  have hs : 4096 ≤ 4096 + a2 % 60000 ∧ 4096 + a2 % 60000 ≤ 65536 := by omega
  have t1 := takesS_sum a0 a1 (4096 + a2 % 60000) (by omega) (by omega) hs
  have t2 := takesS_mono a0 (a0 + a1) (4096 + a2 % 60000) (by omega) hs
  have t3 := takesS_mono a1 (a0 + a1) (4096 + a2 % 60000) (by omega) hs
  have t4 := takesS_one a0 (4096 + a2 % 60000) hs
  have b1 : ∀ m, 0 ≤ m → m ≤ 8589934590 → takesS m (4096 + a2 % 60000) ≤ 8589934591 := by
    intro m hm hm'
    rw [takesS_pos _ _ hs]
    have := takes_le (max m 0) (4096 + a2 % 60000) (by omega) hs.1
    omega
  have b2 := b1 a0 (by omega) (by omega)
  have b3 := b1 a1 (by omega) (by omega)
  clear b1
  refine calls_W (args := [.int .u32 a0, .int .u32 a1, .int .u16 a2]) Try.func6 rfl _ rfl ?_
  (repeat' (first | refine WL_nil ?_ | refine WL_add rfl rfl rfl rfl (by omega) ?_ | refine WL_sub rfl rfl rfl rfl (by omega) ?_ | refine WL_mul rfl rfl rfl rfl (by omega) ?_ | refine WL_pure rfl rfl rfl rfl ?_ | refine WC_seq (fun _ _ => ?_) | refine WC_region ?_ | exact WQ_then (by assumption) ?_ | refine WQ_then (by assumption) ?_ | refine WQ_then_ret ?_ | refine WQ_then_exit ?_ | refine WQ_inBlock_exit ?_ | refine WQ_inBlock_normal ?_ | refine WQ_inBlock_ret ?_ | refine WQ_inBlock_other rfl ?_ | refine WC_skip ?_ | refine WC_ret ?_ | refine WC_exit ?_ | refine WC_block ?_ | refine WC_cond_true rfl ?_ | refine WC_cond_false rfl ?_ | refine WL_off rfl rfl rfl ?_ | refine WL_off_none rfl rfl ?_ | refine WL_len rfl rfl rfl ?_ | refine WL_conv_i64 rfl rfl rfl (by omega) ?_ | refine WL_conv_u64 rfl rfl rfl (by omega) ?_ | refine WL_conv_u8 rfl rfl rfl ?_ | refine WL_conv rfl rfl rfl ?_ | refine WL_quo rfl rfl rfl rfl (by omega) (by omega) ?_ | refine WL_mod rfl rfl rfl rfl (by omega) (by omega) ?_ | refine WL_max rfl rfl rfl ?_ | refine WL_min rfl rfl rfl ?_ | refine WL_and rfl rfl rfl rfl ?_ | refine WL_or rfl rfl rfl rfl ?_ | refine WL_xor rfl rfl rfl rfl ?_ | refine WL_box rfl rfl rfl (fun b_ w_ hb_ hl_ hx_ hB_ => ?_) | refine WL_alloc rfl rfl (fun b_ w_ hb_ hl_ hx_ hB_ => ?_) | refine WL_load rfl rfl rfl (by (repeat (first | assumption | (refine Blk.ext ?_ (by assumption)) | (refine Blk.extB ?_ (by assumption) ?hne; (case hne => omega))))) rfl ?_ | refine WL_store rfl rfl rfl (by (repeat (first | assumption | (refine Blk.ext ?_ (by assumption)) | (refine Blk.extB ?_ (by assumption) ?hne; (case hne => omega))))) rfl rfl (Nat.le_of_ble_eq_true rfl) (by first | exact one_int _ _ | exact one_bool _ | exact one_slice _ _ _ | exact one_pointer _ | assumption) (fun w_ hz_ hx_ hB_ => ?_) | refine WL_fieldAddr rfl rfl rfl ?_ | refine WL_beq rfl rfl rfl rfl rfl ?_ | refine WL_bne rfl rfl rfl rfl rfl ?_ | refine WQ_body1 (Or.inl rfl) rfl rfl ?_ | refine WQ_body2 (Or.inl rfl) rfl rfl rfl ?_ | refine WQ_body1 (Or.inr rfl) rfl rfl ?_ | refine WQ_body2 (Or.inr rfl) rfl rfl rfl ?_ | refine WQ_body0 (Or.inl rfl) rfl ?_ | refine WQ_body0 (Or.inr rfl) rfl ?_ | (refine WL_call rfl rfl rfl (geom_awake_calls _) ?_; rintro _ w_ ⟨rfl, hx_⟩; have hz_ := hx_.size; refine ⟨_, rfl, ?_⟩) | (refine WL_call rfl rfl rfl (geom_Takes_calls _ _ _ (by omega)) ?_; rintro _ _ ⟨rfl, rfl⟩; refine ⟨_, rfl, ?_⟩) | ((first | refine WL_guard rfl rfl rfl rfl (fun hs_ => ?_) (fun hs_ => ?_) | refine WC_cond rfl (fun hs_ => ?_) (fun hs_ => ?_)) <;> (try simp only [decide_eq_true_eq, decide_eq_false_iff_not, beq_iff_eq, beq_eq_false_iff_ne, bne_iff_ne, bne_eq_false_iff_eq, Bool.not_eq_true', Bool.not_eq_false', Bool.not_true, Bool.not_false, gt_iff_lt, ge_iff_le, Int.not_lt, Int.not_le, ne_eq, Bool.false_eq_true, reduceCtorEq] at hs_) <;> (try (exfalso; first | exact hs_ | contradiction | omega)))))
  all_goals exact ⟨by simp; omega, by (repeat' (first | exact Ext.refl' _ | assumption | (refine Ext.then ?_ (by assumption)) | (refine ExtB.ext ?_ (by assumption) (by omega))))⟩
end Go.Proofs.Ytcggdgcbhfgfiaa.K
