/- Chapter 16 (log): where bytes are placed, on a device that has an empty zone. Seat-free. -/
import Derived.Test.YtemfngomfiimfaaL2
import Derived.Test.YtemfngomfiimfaaL0
set_option linter.unusedVariables false
set_option linter.unusedSimpArgs false
set_option maxHeartbeats 4000000
set_option maxRecDepth 20000
namespace Go.Proofs.Ytemfngomfiimfaa.K
open Go.RowKit
attribute [local irreducible] strEq strOfNums Calls WL WC WQ WX Code.wp wpList bodyPost
instance : TBld Try.prog CmT [.int .i64 0, .int .i64 0, .slice none 0 0] [(0, 1), (1, 1), (2, 1)] := ⟨by kernel_rfl, by kernel_rfl⟩
theorem opT_pos (zs : List Zo) : ∀ i, 0 < opT zs i → ∃ (j : Nat) (z : Zo), zs[j]? = some z ∧ z.s = 1
  | 0, h => absurd h (by unfold opT; omega)
  | i + 1, h => by
    rw [opT_step] at h
    by_cases he : (zs[i]?).map (·.s) = some 1
    · cases hz : zs[i]? with
      | none => rw [hz] at he; cases he
      | some z => rw [hz] at he; exact ⟨i, z, hz, Option.some.inj he⟩
    · rw [if_neg he] at h
      exact opT_pos zs i om_
/-- What is placed. -/
def Placed (d : Dv) (n : Int) (i : Nat) (z : Zo) (m : Nat) (cs : List Value) : Prop :=
  d.zs[i]? = some z ∧ ((m = 0 ∧ cs = [] ∧ Fits z 1 n d.sz) ∨ (m = 0 ∧ cs = [] ∧ Fits z 0 n d.sz ∧ (∀ z ∈ d.zs, ¬ Fits z 1 n d.sz) ∧ opD d < 4) ∨ (m = 1 ∧ Fits z 0 n d.sz ∧ (∀ z ∈ d.zs, ¬ Fits z 1 n d.sz) ∧ ∃ (j : Nat) (y : Zo), d.zs[j]? = some y ∧ y.s = 1 ∧ cs = [.int .i64 3, .int .i64 j, .slice none 0 0]))
theorem log_Place_calls (n : Int) (d : Dv) (s : Ds) (zp : List (Zo × Sl)) (w : World) (hW : DvW d) (hO : OkD d) (hM : DM w d s zp) (hn : 1 ≤ n ∧ n ≤ d.sz) (he : ∃ z ∈ d.zs, z.s = 0) :
    Calls Try.prog 14 #[.agg (dvC d s).toArray, .int .i64 n] w fun e w' => ∃ (i : Nat) (z : Zo) (at' : Int) (A : Option Addr) (m c : Nat) (cs : List Value), e = .returned (.tuple #[.int .i64 i, .int .i64 at', .slice A m c, .int .i64 0]) ∧ w'.ownsRow w.heap.size CmT 3 (.slice A m c) m cs ∧ Placed d n i z m cs ∧ Ext w w' := by
  have hzl := hW.zl
  have hlen := hM.len
  have hzz := hM.zz
  have hzm := hM.zm
  have hzs := hM.zs
  have hsz := hM.sz
  have p1 := dvC_one d s
  have he0 : ∃ z ∈ d.zs, Fits z 0 n d.sz := by
    obtain ⟨z, hz, h0⟩ := he
    refine ⟨z, hz, h0, ?_⟩
    have := hO.1 z hz
    unfold OkZ at this
    omega
  have a1 := fun w h => dev_Check_calls d s zp w hW h true (okD_iff.2 hO)
  have a2 := fun w h => log_first_calls 1 n d s zp w hW hO h
  have a3 := fun w h => log_first_calls 0 n d s zp w hW hO h
  have a4 := fun w h => log_first_calls 1 0 d s zp w hW hO h
  have a5 := fun w h => dev_Open_calls d s zp w hW h
  obtain ⟨⟨ZA, Zm, Zc⟩, r0, r1, f0, f1⟩ := s
  dsimp only at hlen hzz hzm hsz
  refine calls_W (args := [.agg (dvC d ⟨⟨ZA, Zm, Zc⟩, r0, r1, f0, f1⟩).toArray, .int .i64 n]) Try.func14 rfl 52 rfl ?_
  (repeat' (first | (refine WL_is ?_; first | refine WL_nil ?_ | refine wl_ ?_ | (refine WL_isFn ?_; refine WL_call rfl rfl rfl (a1 _ (DM.go hM ext_)) ?_; rintro _ w_ ⟨rfl, hx_⟩; have hz_ := hx_.size; refine ⟨_, rfl, ?_⟩) | (refine WL_isFn ?_; refine WL_call rfl rfl rfl (a2 _ (DM.go hM ext_)) ?_; rintro _ w_ ⟨r_, rfl, hr_, hx_⟩; have hz_ := hx_.size; refine ⟨_, rfl, ?_⟩)) | (refine WC_is ?_; first | ((fail_if_success (refine WC_isReg (id := 4) ?_)); refine WC_seq (fun _ _ => ?_)) | refine WC_orderT (.rd true 0 (.rd true 1 (.rd true 2 (.rd true 3 (.rd true 4 (.rd true 5 (.rd true 6 (.rd true 7 (.rd true 8 (.rd true 9 (.rd true 10 (.rd true 11 .nil)))))))))))) [] [] 5 (by kernel_rfl) (by kernel_rfl) (fun w_ hx_ hz_ => ?_) | refine wc_ ?_ | refine WC_scope ?_ | refine WC_label ?_) | (refine WQ_is ?_; first | refine wq_ ?_ | refine WQ_bodyT4 (Or.inl rfl) rfl rfl rfl rfl rfl ?_ | refine WQ_bodyC4 (Or.inl rfl) rfl rfl rfl rfl rfl rfl blk_ lr_ ?_ | refine WQ_bodyT4 (Or.inr rfl) rfl rfl rfl rfl rfl ?_ | refine WQ_bodyC4 (Or.inr rfl) rfl rfl rfl rfl rfl rfl blk_ lr_ ?_ | refine WQ_noGotoN ?_ | refine WQ_noGotoR ?_ | refine WQ_noGotoE ?_) | (refine Kb.mk ?_; intro b_ w_ hb_ hl_ hx_ hB_) | (refine Ks.mk ?_; intro w_ hz_ hx_ hB_) | (refine Ko.mk ?_; intro A_ c_ w_ hx_ ho_ hr_; have hz_ := hx_.size; have hq_ := own_cap ho_) | (refine Kp.mk ?_; intro A_ c_ w_ hx_ hz_ ho_ hr_ hp_; have hq_ := own_cap ho_) | (refine Kl.mk ?_; intro b_ w_ hb_ hl_ hx_ hB_ ho_) | (refine Km.mk ?_; intro b_ w_ hb_ hl_ hx_ ho_) | (refine Ke.mk ?_; intro r_ hr_) | (refine Kg.mk ?_ ?_ <;> intro hs_ <;> (try simp only [strEq_t, strEq_f, decide_eq_true_eq, decide_eq_false_iff_not, beq_iff_eq, beq_eq_false_iff_ne, bne_iff_ne, bne_eq_false_iff_eq, Bool.not_eq_true', Bool.not_eq_false', Bool.not_true, Bool.not_false, gt_iff_lt, ge_iff_le, Int.not_lt, Int.not_le, ne_eq, Bool.false_eq_true, not_true_eq_false, reduceCtorEq] at hs_) <;> (try (exfalso; first | exact hs_ | (exact hs_ rfl) | omega))) | (refine WX_is ?_; first | refine wx_ ?_ | exact WX_altnil | (refine WX_isRd ?_; first | (refine WX_isT ?_; refine WX_readT rfl rfl rfl rfl rfl (by (first | refine wl_ ?_); refine WL_nil ?_; exact DR_mk rfl) ?_) | (refine WX_isF ?_; refine WX_read rfl rfl rfl rfl rfl (fun w_ hx_ => by (first | refine wl_ ?_); refine WL_nil ?_; exact DR_mk rfl) ?_) | refine wxg_ ?_) | (refine WX_isAct ?_; first | refine WX_eff1 rfl (fun _ _ => ?_) | refine WX_eff rfl (fun _ _ => ?_) ?_))))
  all_goals first | (exfalso; omega) | skip
  rcases hr_ with ⟨rfl, hno⟩ | ⟨i, z, rfl, hz, hf⟩
  · (repeat' (first | (refine WL_is ?_; first | refine WL_nil ?_ | refine wl_ ?_ | (refine WL_isFn ?_; refine WL_call rfl rfl rfl (a3 _ (DM.go hM ext_)) ?_; rintro _ w_ ⟨r_, rfl, hr_, hx_⟩; have hz_ := hx_.size; refine ⟨_, rfl, ?_⟩)) | (refine WC_is ?_; first | ((fail_if_success (refine WC_isReg (id := 7) ?_)); refine WC_seq (fun _ _ => ?_)) | refine WC_orderT (.rd true 0 (.rd true 1 (.rd true 2 (.rd true 3 (.rd true 4 (.rd true 5 (.rd true 6 (.rd true 7 (.rd true 8 (.rd true 9 (.rd true 10 (.rd true 11 .nil)))))))))))) [] [] 5 (by kernel_rfl) (by kernel_rfl) (fun w_ hx_ hz_ => ?_) | refine wc_ ?_ | refine WC_scope ?_ | refine WC_label ?_) | (refine WQ_is ?_; first | refine wq_ ?_ | refine WQ_bodyT4 (Or.inl rfl) rfl rfl rfl rfl rfl ?_ | refine WQ_bodyC4 (Or.inl rfl) rfl rfl rfl rfl rfl rfl blk_ lr_ ?_ | refine WQ_bodyT4 (Or.inr rfl) rfl rfl rfl rfl rfl ?_ | refine WQ_bodyC4 (Or.inr rfl) rfl rfl rfl rfl rfl rfl blk_ lr_ ?_ | refine WQ_noGotoN ?_ | refine WQ_noGotoR ?_ | refine WQ_noGotoE ?_) | (refine Kb.mk ?_; intro b_ w_ hb_ hl_ hx_ hB_) | (refine Ks.mk ?_; intro w_ hz_ hx_ hB_) | (refine Ko.mk ?_; intro A_ c_ w_ hx_ ho_ hr_; have hz_ := hx_.size; have hq_ := own_cap ho_) | (refine Kp.mk ?_; intro A_ c_ w_ hx_ hz_ ho_ hr_ hp_; have hq_ := own_cap ho_) | (refine Kl.mk ?_; intro b_ w_ hb_ hl_ hx_ hB_ ho_) | (refine Km.mk ?_; intro b_ w_ hb_ hl_ hx_ ho_) | (refine Ke.mk ?_; intro r_ hr_) | (refine Kg.mk ?_ ?_ <;> intro hs_ <;> (try simp only [strEq_t, strEq_f, decide_eq_true_eq, decide_eq_false_iff_not, beq_iff_eq, beq_eq_false_iff_ne, bne_iff_ne, bne_eq_false_iff_eq, Bool.not_eq_true', Bool.not_eq_false', Bool.not_true, Bool.not_false, gt_iff_lt, ge_iff_le, Int.not_lt, Int.not_le, ne_eq, Bool.false_eq_true, not_true_eq_false, reduceCtorEq] at hs_) <;> (try (exfalso; first | exact hs_ | (exact hs_ rfl) | omega))) | (refine WX_is ?_; first | refine wx_ ?_ | exact WX_altnil | (refine WX_isRd ?_; first | (refine WX_isT ?_; refine WX_readT rfl rfl rfl rfl rfl (by (first | refine wl_ ?_); refine WL_nil ?_; exact DR_mk rfl) ?_) | (refine WX_isF ?_; refine WX_read rfl rfl rfl rfl rfl (fun w_ hx_ => by (first | refine wl_ ?_); refine WL_nil ?_; exact DR_mk rfl) ?_) | refine wxg_ ?_) | (refine WX_isAct ?_; first | refine WX_eff1 rfl (fun _ _ => ?_) | refine WX_eff rfl (fun _ _ => ?_) ?_))))
    all_goals first | (exfalso; omega) | skip
    rcases hr_ with ⟨rfl, hno0⟩ | ⟨i, z, rfl, hz, hf⟩
    · obtain ⟨z, hz, hf⟩ := he0
      exact absurd hf (hno0 z hz)
    · (repeat' (first | (refine WL_is ?_; first | refine WL_nil ?_ | (refine WL_isLit ?_; refine WL_litA rfl rfl rfl rfl rfl rfl rfl rfl ?_; intro b_ w_ hb_ hl_ hx_ hB_ ho_ hr_) | refine wl_ ?_ | (refine WL_isFn ?_; refine WL_call rfl rfl rfl (a5 _ (DM.go hM ext_)) ?_; rintro _ w_ ⟨rfl, hx_⟩; have hz_ := hx_.size; refine ⟨_, rfl, ?_⟩) | (refine WL_isFn ?_; refine WL_call rfl rfl rfl (a4 _ (DM.go hM ext_)) ?_; rintro _ w_ ⟨r_, rfl, hfin_, hx_⟩; have hz_ := hx_.size; refine ⟨_, rfl, ?_⟩)) | (refine WC_is ?_; first | refine WC_seq (fun _ _ => ?_) | refine WC_orderT (.rd true 0 (.rd true 1 (.rd true 2 (.rd true 3 (.rd true 4 (.rd true 5 (.rd true 6 (.rd true 7 (.rd true 8 (.rd true 9 (.rd true 10 (.rd true 11 .nil)))))))))))) [] [] 5 (by kernel_rfl) (by kernel_rfl) (fun w_ hx_ hz_ => ?_) | refine wc_ ?_ | refine WC_scope ?_ | refine WC_label ?_) | (refine WQ_is ?_; first | refine wq_ ?_ | refine WQ_bodyT4 (Or.inl rfl) rfl rfl rfl rfl rfl ?_ | refine WQ_bodyC4 (Or.inl rfl) rfl rfl rfl rfl rfl rfl blk_ lr_ ?_ | refine WQ_bodyT4 (Or.inr rfl) rfl rfl rfl rfl rfl ?_ | refine WQ_bodyC4 (Or.inr rfl) rfl rfl rfl rfl rfl rfl blk_ lr_ ?_ | refine WQ_noGotoN ?_ | refine WQ_noGotoR ?_ | refine WQ_noGotoE ?_) | (refine Kb.mk ?_; intro b_ w_ hb_ hl_ hx_ hB_) | (refine Ks.mk ?_; intro w_ hz_ hx_ hB_) | (refine Ko.mk ?_; intro A_ c_ w_ hx_ ho_ hr_; have hz_ := hx_.size; have hq_ := own_cap ho_) | (refine Kp.mk ?_; intro A_ c_ w_ hx_ hz_ ho_ hr_ hp_; have hq_ := own_cap ho_) | (refine Kl.mk ?_; intro b_ w_ hb_ hl_ hx_ hB_ ho_) | (refine Km.mk ?_; intro b_ w_ hb_ hl_ hx_ ho_) | (refine Ke.mk ?_; intro r_ hr_) | (refine Kg.mk ?_ ?_ <;> intro hs_ <;> (try simp only [strEq_t, strEq_f, decide_eq_true_eq, decide_eq_false_iff_not, beq_iff_eq, beq_eq_false_iff_ne, bne_iff_ne, bne_eq_false_iff_eq, Bool.not_eq_true', Bool.not_eq_false', Bool.not_true, Bool.not_false, gt_iff_lt, ge_iff_le, Int.not_lt, Int.not_le, ne_eq, Bool.false_eq_true, not_true_eq_false, reduceCtorEq] at hs_) <;> (try (exfalso; first | exact hs_ | (exact hs_ rfl) | omega))) | (refine WX_is ?_; first | refine wx_ ?_ | exact WX_altnil | (refine WX_isRd ?_; first | (refine WX_isT ?_; refine WX_readT rfl rfl rfl rfl rfl (by (first | (refine WL_isLit ?_; refine WL_litA rfl rfl rfl rfl rfl rfl rfl rfl ?_; intro b_ w_ hb_ hl_ hx_ hB_ ho_ hr_) | refine wl_ ?_); refine WL_nil ?_; exact DR_mk rfl) ?_) | (refine WX_isF ?_; refine WX_read rfl rfl rfl rfl rfl (fun w_ hx_ => by (first | (refine WL_isLit ?_; refine WL_litA rfl rfl rfl rfl rfl rfl rfl rfl ?_; intro b_ w_ hb_ hl_ hx_ hB_ ho_ hr_) | refine wl_ ?_); refine WL_nil ?_; exact DR_mk rfl) ?_) | refine wxg_ ?_) | (refine WX_isAct ?_; first | refine WX_eff1 rfl (fun _ _ => ?_) | refine WX_eff rfl (fun _ _ => ?_) ?_))))
      all_goals first
        | (exfalso; omega)
        | exact ⟨i, z, _, none, 0, 0, [], rfl, own_nil _ _ _ _, ⟨hz, .inr (.inl ⟨rfl, rfl, hf, hno, by omega⟩)⟩, ext_⟩
        | skip
      rcases hfin_ with ⟨rfl, hno4⟩ | ⟨j, y, rfl, hy, hfy⟩
      · obtain ⟨j, y, hy, hy1⟩ := opT_pos d.zs d.zs.length (by unfold opD at hs_; omega)
        have := hO.1 y (List.mem_of_getElem? hy)
        unfold OkZ at this
        exact absurd ⟨hy1, by omega⟩ (hno4 y (List.mem_of_getElem? hy))
      · exact ⟨i, z, _, _, 1, 1, [.int .i64 3, .int .i64 j, .slice none 0 0], rfl, own_mono ho_ om_, ⟨hz, .inr (.inr ⟨rfl, hf, hno, j, y, hy, hfy.1, rfl⟩)⟩, ext_⟩
  · have hiz : i < zp.length := by rw [hzm, ← hlen]; exact (List.getElem?_eq_some_iff.1 hz).1
    obtain ⟨p, hp⟩ : ∃ p, zp[i]? = some p := ⟨_, List.getElem?_eq_getElem hiz⟩
    obtain ⟨v0, v1, v2⟩ := zp_at hp
    have hpos : 0 < (catC zpC zp).length := by omega
    have h0i : (0 : Int) ≤ (i : Int) := by omega
    have h1i : (i : Int) < (Zm : Int) := by omega
    (repeat' (first | (refine WL_is ?_; first | refine WL_nil ?_ | (refine WL_isIndexAddr ?_; refine WL_indexS (m := Zm) (A := ZA) rfl rfl rfl rfl (Cells.ext hzz ext_) hpos h0i h1i ?_) | (refine WL_isFieldAddr ?_; refine WL_fieldP rfl rfl rfl (Cells.ext hzz ext_) hpos ?_) | (refine WL_isLoad ?_; refine WL_loadP rfl rfl rfl (Cells.ext hzz ext_) v1 ?_) | refine wl_ ?_ ) | (refine WC_is ?_; first | refine WC_seq (fun _ _ => ?_) | refine WC_orderT (.rd true 0 (.rd true 1 (.rd true 2 (.rd true 3 (.rd true 4 (.rd true 5 (.rd true 6 (.rd true 7 (.rd true 8 (.rd true 9 (.rd true 10 (.rd true 11 .nil)))))))))))) [] [] 5 (by kernel_rfl) (by kernel_rfl) (fun w_ hx_ hz_ => ?_) | refine wc_ ?_ | refine WC_scope ?_ | refine WC_label ?_) | (refine WQ_is ?_; first | refine wq_ ?_ | refine WQ_bodyT4 (Or.inl rfl) rfl rfl rfl rfl rfl ?_ | refine WQ_bodyC4 (Or.inl rfl) rfl rfl rfl rfl rfl rfl blk_ lr_ ?_ | refine WQ_bodyT4 (Or.inr rfl) rfl rfl rfl rfl rfl ?_ | refine WQ_bodyC4 (Or.inr rfl) rfl rfl rfl rfl rfl rfl blk_ lr_ ?_ | refine WQ_noGotoN ?_ | refine WQ_noGotoR ?_ | refine WQ_noGotoE ?_) | (refine Kb.mk ?_; intro b_ w_ hb_ hl_ hx_ hB_) | (refine Ks.mk ?_; intro w_ hz_ hx_ hB_) | (refine Ko.mk ?_; intro A_ c_ w_ hx_ ho_ hr_; have hz_ := hx_.size; have hq_ := own_cap ho_) | (refine Kp.mk ?_; intro A_ c_ w_ hx_ hz_ ho_ hr_ hp_; have hq_ := own_cap ho_) | (refine Kl.mk ?_; intro b_ w_ hb_ hl_ hx_ hB_ ho_) | (refine Km.mk ?_; intro b_ w_ hb_ hl_ hx_ ho_) | (refine Ke.mk ?_; intro r_ hr_) | (refine Kg.mk ?_ ?_ <;> intro hs_ <;> (try simp only [strEq_t, strEq_f, decide_eq_true_eq, decide_eq_false_iff_not, beq_iff_eq, beq_eq_false_iff_ne, bne_iff_ne, bne_eq_false_iff_eq, Bool.not_eq_true', Bool.not_eq_false', Bool.not_true, Bool.not_false, gt_iff_lt, ge_iff_le, Int.not_lt, Int.not_le, ne_eq, Bool.false_eq_true, not_true_eq_false, reduceCtorEq] at hs_) <;> (try (exfalso; first | exact hs_ | (exact hs_ rfl) | omega))) | (refine WX_is ?_; first | refine wx_ ?_ | exact WX_altnil | (refine WX_isRd ?_; first | (refine WX_isT ?_; refine WX_readT rfl rfl rfl rfl rfl (by (first | (refine WL_isIndexAddr ?_; refine WL_indexS (m := Zm) (A := ZA) rfl rfl rfl rfl (Cells.ext hzz ext_) hpos h0i h1i ?_) | (refine WL_isFieldAddr ?_; refine WL_fieldP rfl rfl rfl (Cells.ext hzz ext_) hpos ?_) | (refine WL_isLoad ?_; refine WL_loadP rfl rfl rfl (Cells.ext hzz ext_) v1 ?_) | refine wl_ ?_); refine WL_nil ?_; exact DR_mk rfl) ?_) | (refine WX_isF ?_; refine WX_read rfl rfl rfl rfl rfl (fun w_ hx_ => by (first | (refine WL_isIndexAddr ?_; refine WL_indexS (m := Zm) (A := ZA) rfl rfl rfl rfl (Cells.ext hzz ext_) hpos h0i h1i ?_) | (refine WL_isFieldAddr ?_; refine WL_fieldP rfl rfl rfl (Cells.ext hzz ext_) hpos ?_) | (refine WL_isLoad ?_; refine WL_loadP rfl rfl rfl (Cells.ext hzz ext_) v1 ?_) | refine wl_ ?_); refine WL_nil ?_; exact DR_mk rfl) ?_) | refine wxg_ ?_) | (refine WX_isAct ?_; first | refine WX_eff1 rfl (fun _ _ => ?_) | refine WX_eff rfl (fun _ _ => ?_) ?_))))
    all_goals first | (exfalso; omega) | exact ⟨i, z, _, none, 0, 0, [], rfl, own_nil _ _ _ _, ⟨hz, .inl ⟨rfl, rfl, hf⟩⟩, ext_⟩
end Go.Proofs.Ytemfngomfiimfaa.K
