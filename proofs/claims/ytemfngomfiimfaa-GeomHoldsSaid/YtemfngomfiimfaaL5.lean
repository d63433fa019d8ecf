/- Chapter 16 (log): Append, on a device that goes on, and has an empty zone. Seat-free. -/
import Derived.Test.YtemfngomfiimfaaL4
set_option linter.unusedVariables false
set_option linter.unusedSimpArgs false
set_option maxHeartbeats 4000000
set_option maxRecDepth 20000
namespace Go.Proofs.Ytemfngomfiimfaa.K
open Go.RowKit
attribute [local irreducible] strEq strOfNums Calls WL WC WQ WX Code.wp wpList bodyPost
theorem cmV_one (k n : Int) (b : Sl) : ∀ u ∈ cmV k n b, u.oneCell' = true := by
  intro u hu
  simp only [List.mem_cons, List.not_mem_nil, or_false] at hu
  rcases hu with rfl | rfl | rfl <;> rfl
theorem log_Append_calls (b : Sl) (bs : List Int) (d : Dv) (s : Ds) (zp : List (Zo × Sl)) (w : World) (hW : DvW d) (hG : Go1 d) (hM : DM w d s zp) (hb : SlB w b bs) (hn : 1 ≤ bs.length) (hns : (bs.length : Int) ≤ d.sz) (hde : d.de ≤ 999990) (hop : opD d ≤ 4) (he : ∃ z ∈ d.zs, z.s = 0) :
    Calls Try.prog 6 #[.agg (dvC d s).toArray, slV b] w fun e w' => ∃ d2 s2 zp2 v1 v2 v3, e = .returned (.tuple #[.agg (dvC d2 s2).toArray, v1, v2, v3, .int .i64 0]) ∧ AppD d bs d2 ∧ DRw w.heap.size w' d2 s2 zp2 ∧ Ext w w' := by
  have hO := hG.1
  have hsz := hO.2.2.2.2
  have hbl := hb.1
  have a1 := fun w h => log_Place_calls bs.length d s zp w hW hO h om_ he
  have rnd := fun (i m : Nat) (z : Zo) (cs : List Value) hp => append_rounds (i := i) (m := m) (z := z) (cs := cs) hW hG hb hn om_ hde hop hp
  have p1 := dvC_one d s
  obtain ⟨bA, bm, bc⟩ := b
  dsimp only at hbl
  subst hbl
  refine calls_W (args := [.agg (dvC d s).toArray, .slice bA bs.length bc]) Try.func6 rfl 62 rfl ?_
  (repeat' (first | (refine WL_is ?_; first | refine WL_nil ?_ | refine wl_ ?_ ) | (refine WC_is ?_; first | ((fail_if_success (refine WC_isReg (id := 1) ?_)); refine WC_seq (fun _ _ => ?_)) | refine wc_ ?_ | refine WC_scope ?_ | refine WC_label ?_) | (refine WQ_is ?_; first | refine wq_ ?_ | refine WQ_bodyT4 (Or.inl rfl) rfl rfl rfl rfl rfl ?_ | refine WQ_bodyC4 (Or.inl rfl) rfl rfl rfl rfl rfl rfl blk_ lr_ ?_ | refine WQ_bodyT4 (Or.inr rfl) rfl rfl rfl rfl rfl ?_ | refine WQ_bodyC4 (Or.inr rfl) rfl rfl rfl rfl rfl rfl blk_ lr_ ?_ | refine WQ_noGotoN ?_ | refine WQ_noGotoR ?_ | refine WQ_noGotoE ?_) | (refine Kb.mk ?_; intro b_ w_ hb_ hl_ hx_ hB_) | (refine Ks.mk ?_; intro w_ hz_ hx_ hB_) | (refine Ko.mk ?_; intro A_ c_ w_ hx_ ho_ hr_; have hz_ := hx_.size; have hq_ := own_cap ho_) | (refine Kp.mk ?_; intro A_ c_ w_ hx_ hz_ ho_ hr_ hp_; have hq_ := own_cap ho_) | (refine Kl.mk ?_; intro b_ w_ hb_ hl_ hx_ hB_ ho_) | (refine Km.mk ?_; intro b_ w_ hb_ hl_ hx_ ho_) | (refine Ke.mk ?_; intro r_ hr_) | (refine Kg.mk ?_ ?_ <;> intro hs_ <;> (try simp only [strEq_t, strEq_f, decide_eq_true_eq, decide_eq_false_iff_not, beq_iff_eq, beq_eq_false_iff_ne, bne_iff_ne, bne_eq_false_iff_eq, Bool.not_eq_true', Bool.not_eq_false', Bool.not_true, Bool.not_false, gt_iff_lt, ge_iff_le, Int.not_lt, Int.not_le, ne_eq, Bool.false_eq_true, not_true_eq_false, reduceCtorEq] at hs_) <;> (try (exfalso; first | exact hs_ | (exact hs_ rfl) | omega))) ))
  rename_i b2 w2 hb2 hl2 hx2 hB2
  obtain ⟨b4, rfl⟩ : ∃ x, x = b_ := ⟨_, rfl⟩
  have hB2' : Blk w_ b2 (dvC d s) DeT := blk_
  have hB4' : Blk w_ b4 (dvC dv0 ds0) DeT := hB_
  have h24 : w.heap.size ≤ b2 ∧ b2 < b4 ∧ b4 < w_.heap.size := by omega
  (repeat' (first | (refine WL_is ?_; first | refine WL_nil ?_ | refine wl_ ?_ | (refine WL_isFn ?_; refine WL_call rfl rfl rfl (a1 _ (DM.go hM ext_)) ?_; rintro _ w_ ⟨i_, z_, at_, PA_, Pm_, Pc_, cs_, rfl, ho_, hpl_, hx_⟩; have hz_ := hx_.size; have hr_ := own_rd ho_; have hq_ := own_cap ho_; refine ⟨_, rfl, ?_⟩)) | (refine WC_is ?_; first | ((fail_if_success (refine WC_isReg (id := 5) ?_)); refine WC_seq (fun _ _ => ?_)) | refine wc_ ?_ | refine WC_scope ?_ | refine WC_label ?_) | (refine WQ_is ?_; first | refine wq_ ?_ | refine WQ_bodyT4 (Or.inl rfl) rfl rfl rfl rfl rfl ?_ | refine WQ_bodyC4 (Or.inl rfl) rfl rfl rfl rfl rfl rfl blk_ lr_ ?_ | refine WQ_bodyT4 (Or.inr rfl) rfl rfl rfl rfl rfl ?_ | refine WQ_bodyC4 (Or.inr rfl) rfl rfl rfl rfl rfl rfl blk_ lr_ ?_ | refine WQ_noGotoN ?_ | refine WQ_noGotoR ?_ | refine WQ_noGotoE ?_) | (refine Kb.mk ?_; intro b_ w_ hb_ hl_ hx_ hB_) | (refine Ks.mk ?_; intro w_ hz_ hx_ hB_) | (refine Ko.mk ?_; intro A_ c_ w_ hx_ ho_ hr_; have hz_ := hx_.size; have hq_ := own_cap ho_) | (refine Kp.mk ?_; intro A_ c_ w_ hx_ hz_ ho_ hr_ hp_; have hq_ := own_cap ho_) | (refine Kl.mk ?_; intro b_ w_ hb_ hl_ hx_ hB_ ho_) | (refine Km.mk ?_; intro b_ w_ hb_ hl_ hx_ ho_) | (refine Ke.mk ?_; intro r_ hr_) | (refine Kg.mk ?_ ?_ <;> intro hs_ <;> (try simp only [strEq_t, strEq_f, decide_eq_true_eq, decide_eq_false_iff_not, beq_iff_eq, beq_eq_false_iff_ne, bne_iff_ne, bne_eq_false_iff_eq, Bool.not_eq_true', Bool.not_eq_false', Bool.not_true, Bool.not_false, gt_iff_lt, ge_iff_le, Int.not_lt, Int.not_le, ne_eq, Bool.false_eq_true, not_true_eq_false, reduceCtorEq] at hs_) <;> (try (exfalso; first | exact hs_ | (exact hs_ rfl) | omega))) ))
  all_goals first | (exfalso; omega) | skip
  obtain ⟨hm1, hcl, hco, ds, hd0, hdK, hR⟩ := rnd _ _ _ _ hpl_
  have hone : ∀ u ∈ cmV 1 (i_ : Int) ⟨bA, bs.length, bc⟩, u.oneCell' = true := cmV_one _ _ _
  have hoP : w_.ownsRow (b4 + 1) CmT 3 (.slice PA_ Pm_ Pc_) Pm_ cs_ := own_mono ho_ om_
  have hw4 : b4 + 1 ≤ w_.heap.size := by omega
  clear ho_ hr_
  (repeat' (first | (refine WL_is ?_; first | refine WL_nil ?_ | (refine WL_isLit ?_; refine WL_litA (cs := cmV 1 (i_ : Int) ⟨bA, bs.length, bc⟩) rfl rfl rfl rfl rfl rfl rfl rfl ?_; intro b_ w_ hb_ hl_ hx_ hB_ ho_ hr_) | (refine WL_isCall ?_; refine WL_isApp ?_; refine WL_appS rfl rfl rfl rfl rfl rfl hoP keepo_ om_ cells_ rfl hone om_ om_ ?_; intro A_ c_ w_ hx_ hz_ ho_ hr_ hp_; have hq_ := own_cap ho_) | refine wl_ ?_ ) | (refine WC_is ?_; first | refine WC_seq (fun _ _ => ?_) | refine wc_ ?_ | refine WC_scope ?_ | refine WC_label ?_) | (refine WQ_is ?_; first | refine wq_ ?_ | refine WQ_bodyT4 (Or.inl rfl) rfl rfl rfl rfl rfl ?_ | refine WQ_bodyC4 (Or.inl rfl) rfl rfl rfl rfl rfl rfl blk_ lr_ ?_ | refine WQ_bodyT4 (Or.inr rfl) rfl rfl rfl rfl rfl ?_ | refine WQ_bodyC4 (Or.inr rfl) rfl rfl rfl rfl rfl rfl blk_ lr_ ?_ | refine WQ_noGotoN ?_ | refine WQ_noGotoR ?_ | refine WQ_noGotoE ?_) | (refine Kb.mk ?_; intro b_ w_ hb_ hl_ hx_ hB_) | (refine Ks.mk ?_; intro w_ hz_ hx_ hB_) | (refine Ko.mk ?_; intro A_ c_ w_ hx_ ho_ hr_; have hz_ := hx_.size; have hq_ := own_cap ho_) | (refine Kp.mk ?_; intro A_ c_ w_ hx_ hz_ ho_ hr_ hp_; have hq_ := own_cap ho_) | (refine Kl.mk ?_; intro b_ w_ hb_ hl_ hx_ hB_ ho_) | (refine Km.mk ?_; intro b_ w_ hb_ hl_ hx_ ho_) | (refine Ke.mk ?_; intro r_ hr_) | (refine Kg.mk ?_ ?_ <;> intro hs_ <;> (try simp only [strEq_t, strEq_f, decide_eq_true_eq, decide_eq_false_iff_not, beq_iff_eq, beq_eq_false_iff_ne, bne_iff_ne, bne_eq_false_iff_eq, Bool.not_eq_true', Bool.not_eq_false', Bool.not_true, Bool.not_false, gt_iff_lt, ge_iff_le, Int.not_lt, Int.not_le, ne_eq, Bool.false_eq_true, not_true_eq_false, reduceCtorEq] at hs_) <;> (try (exfalso; first | exact hs_ | (exact hs_ rfl) | omega))) ))
  all_goals first | (exfalso; omega) | skip
  obtain ⟨W0, rfl⟩ : ∃ x, x = w_ := ⟨_, rfl⟩
  obtain ⟨AL, rfl⟩ : ∃ x, x = A_ := ⟨_, rfl⟩
  obtain ⟨cL, rfl⟩ : ∃ x, x = c_ := ⟨_, rfl⟩
  have hL0 : W0.ownsRow (b4 + 1) CmT 3 (.slice AL (Pm_ + 1) cL) (Pm_ + 1) (cs_ ++ cmV 1 (i_ : Int) ⟨bA, bs.length, bc⟩) := ho_
  have hqL : Pm_ + 1 ≤ cL ∧ cL ≤ 9223372036854775807 := hq_
  have hB20 : Blk W0 b2 (dvC (ds 0) s) DeT := by rw [hd0]; exact blk_
  have hB40 : Blk W0 b4 (dvC dv0 ds0) DeT := blk_
  have hx0 : Ext w W0 := ext_
  have hz0 := hx0.size
  have hw4 : b4 + 1 ≤ W0.heap.size := by omega
  have hM0 : DM W0 (ds 0) s zp := by rw [hd0]; exact hM.ext hx0
  have hpos : 0 < (cs_ ++ cmV 1 (i_ : Int) ⟨bA, bs.length, bc⟩).length := by rw [List.length_append]; exact Nat.lt_of_lt_of_le (by decide) (Nat.le_add_left 3 _)
  refine WC_loopL (X := Nat × Ds × List (Zo × Sl) × Option Addr × Nat × List Value) [2, 4, 5, 6, 7, 8, 9, 10, 34, 35, 53, 54, 55, 56, 57, 58, 59, 60, 61] rfl (fun x w' => (x.1 ≤ Pm_ + 1 ∧ DM w' (ds x.1) x.2.1 x.2.2.1 ∧ (0 < x.1 → DRw w.heap.size w' (ds x.1) x.2.1 x.2.2.1)) ∧ (Ext w w' ∧ W0.heap.size ≤ w'.heap.size) ∧ (Blk w' b2 (dvC (ds x.1) x.2.1) DeT ∧ Blk w' b4 (dvC dv0 ds0) DeT) ∧ KeepO (b4 + 1) W0.heap.size 0 0 W0 w' ∧ w'.ownsRow W0.heap.size CmT 3 (.slice x.2.2.2.1 x.1 x.2.2.2.2.1) x.1 x.2.2.2.2.2) (fun x => [(36, .int .i64 x.1), (12, .int .i64 0), (13, .slice x.2.2.2.1 x.1 x.2.2.2.2.1)]) (fun x => Pm_ + 1 - x.1) (0, s, zp, none, 0, []) ⟨⟨om_, hM0, fun h => absurd h (by simp)⟩, ⟨hx0, om_⟩, ⟨hB20, hB40⟩, KeepO.refl _ _ _ _ _, own_nil _ _ _ _⟩ env_ ?_
  intro ⟨k, sd, zd, DA, Dc, dxs⟩ w4 ⟨⟨hk, hD4, hDr4⟩, ⟨hx4, hz4⟩, ⟨hB24, hB44⟩, hKp, hDn4⟩ K hK
  dsimp only at hk hD4 hDr4 hB24 hDn4 ⊢
  have hz40 := hx4.size
  have hL4 := own_go hL0 (Nat.le_refl _) hKp
  have hT4 := own_rd hL4
  rcases Nat.lt_or_ge k (Pm_ + 1) with hlt | hge
  · obtain ⟨ck, cn, cb, hcv, cX⟩ := hR k hlt
    have hone2 : ∀ u ∈ cmV ck cn cb, u.oneCell' = true := cmV_one _ _ _
    have pX := dvC_one (ds (k + 1))
    have pY := dvC_one (ds k)
    (repeat' (first | (refine WL_is ?_; first | refine WL_nil ?_ | (refine WL_isIndexAddr ?_; refine WL_indexS rfl rfl rfl rfl (Cells.ext hT4 ext_) hpos om_ om_ ?_) | (refine WL_isLoad ?_; refine WL_loadPA (vs := cmV ck cn cb) rfl rfl rfl (Cells.ext hT4 ext_) rfl hpos hcv ?_) | (refine WL_isLit ?_; refine WL_litA (cs := cmV ck cn cb) rfl rfl rfl rfl rfl rfl rfl rfl ?_; intro b_ w_ hb_ hl_ hx_ hB_ ho_ hr_) | (refine WL_isCall ?_; refine WL_isApp ?_; refine WL_appS rfl rfl rfl rfl rfl rfl hDn4 keepo_ om_ cells_ rfl hone2 om_ om_ ?_; intro A_ c_ w_ hx_ hz_ ho_ hr_ hp_; have hq_ := own_cap ho_) | refine wl_ ?_ | (refine WL_isFn ?_; refine WL_call rfl rfl rfl (cX _ _ _ ext_ (DM.go hD4 ext_)) ?_; rintro _ w_ ⟨sE_, zE_, rfl, hE_, hx_⟩; have hz_ := hx_.size; refine ⟨_, rfl, ?_⟩)) | (refine WC_is ?_; first | refine WC_seq (fun _ _ => ?_) | refine wc_ ?_ | refine WC_scope ?_ | refine WC_label ?_) | (refine WQ_is ?_; first | refine wq_ ?_ | refine WQ_bodyT4 (Or.inl rfl) rfl rfl rfl rfl rfl ?_ | refine WQ_bodyC4 (Or.inl rfl) rfl rfl rfl rfl rfl rfl blk_ lr_ ?_ | refine WQ_bodyT4 (Or.inr rfl) rfl rfl rfl rfl rfl ?_ | refine WQ_bodyC4 (Or.inr rfl) rfl rfl rfl rfl rfl rfl blk_ lr_ ?_ | refine WQ_noGotoN ?_ | refine WQ_noGotoR ?_ | refine WQ_noGotoE ?_) | (refine Kb.mk ?_; intro b_ w_ hb_ hl_ hx_ hB_) | (refine Ks.mk ?_; intro w_ hz_ hx_ hB_) | (refine Ko.mk ?_; intro A_ c_ w_ hx_ ho_ hr_; have hz_ := hx_.size; have hq_ := own_cap ho_) | (refine Kp.mk ?_; intro A_ c_ w_ hx_ hz_ ho_ hr_ hp_; have hq_ := own_cap ho_) | (refine Kl.mk ?_; intro b_ w_ hb_ hl_ hx_ hB_ ho_) | (refine Km.mk ?_; intro b_ w_ hb_ hl_ hx_ ho_) | (refine Ke.mk ?_; intro r_ hr_) | (refine Kg.mk ?_ ?_ <;> intro hs_ <;> (try simp only [strEq_t, strEq_f, decide_eq_true_eq, decide_eq_false_iff_not, beq_iff_eq, beq_eq_false_iff_ne, bne_iff_ne, bne_eq_false_iff_eq, Bool.not_eq_true', Bool.not_eq_false', Bool.not_true, Bool.not_false, gt_iff_lt, ge_iff_le, Int.not_lt, Int.not_le, ne_eq, Bool.false_eq_true, not_true_eq_false, reduceCtorEq] at hs_) <;> (try (exfalso; first | exact hs_ | (exact hs_ rfl) | omega))) ))
    all_goals first | (exfalso; omega) | skip
    all_goals
      have hB5 : Blk w_ b2 (dvC (ds (k + 1)) sE_) DeT := blk_
      have hB6 : Blk w_ b4 (dvC dv0 ds0) DeT := blk_
      have z1 : DRw w.heap.size w_ (ds (k + 1)) sE_ zE_ := dr_
      have k1 : KeepO (b4 + 1) W0.heap.size 0 0 w4 w_ := keepo_
      exact WQ_againL hK (k + 1, sE_, zE_, A_, c_, dxs ++ cmV ck cn cb) ⟨⟨om_, z1.dm, fun _ => z1⟩, ⟨ext_, om_⟩, ⟨hB5, hB6⟩, fun e s base v n xs h ht => k1 _ _ _ _ _ _ (hKp _ _ _ _ _ _ h ht) ht, ho_⟩ env_ om_
  · obtain rfl : k = Pm_ + 1 := by omega
    (repeat' (first | (refine WL_is ?_; first | refine WL_nil ?_ | refine wl_ ?_ ) | (refine WC_is ?_; first | refine WC_seq (fun _ _ => ?_) | refine wc_ ?_ | refine WC_scope ?_ | refine WC_label ?_) | (refine WQ_is ?_; first | refine wq_ ?_ | refine WQ_bodyT4 (Or.inl rfl) rfl rfl rfl rfl rfl ?_ | refine WQ_bodyC4 (Or.inl rfl) rfl rfl rfl rfl rfl rfl blk_ lr_ ?_ | refine WQ_bodyT4 (Or.inr rfl) rfl rfl rfl rfl rfl ?_ | refine WQ_bodyC4 (Or.inr rfl) rfl rfl rfl rfl rfl rfl blk_ lr_ ?_ | refine WQ_noGotoN ?_ | refine WQ_noGotoR ?_ | refine WQ_noGotoE ?_) | (refine Kb.mk ?_; intro b_ w_ hb_ hl_ hx_ hB_) | (refine Ks.mk ?_; intro w_ hz_ hx_ hB_) | (refine Ko.mk ?_; intro A_ c_ w_ hx_ ho_ hr_; have hz_ := hx_.size; have hq_ := own_cap ho_) | (refine Kp.mk ?_; intro A_ c_ w_ hx_ hz_ ho_ hr_ hp_; have hq_ := own_cap ho_) | (refine Kl.mk ?_; intro b_ w_ hb_ hl_ hx_ hB_ ho_) | (refine Km.mk ?_; intro b_ w_ hb_ hl_ hx_ ho_) | (refine Ke.mk ?_; intro r_ hr_) | (refine Kg.mk ?_ ?_ <;> intro hs_ <;> (try simp only [strEq_t, strEq_f, decide_eq_true_eq, decide_eq_false_iff_not, beq_iff_eq, beq_eq_false_iff_ne, bne_iff_ne, bne_eq_false_iff_eq, Bool.not_eq_true', Bool.not_eq_false', Bool.not_true, Bool.not_false, gt_iff_lt, ge_iff_le, Int.not_lt, Int.not_le, ne_eq, Bool.false_eq_true, not_true_eq_false, reduceCtorEq] at hs_) <;> (try (exfalso; first | exact hs_ | (exact hs_ rfl) | omega))) ))
    all_goals first | (exfalso; omega) | skip
    all_goals exact ⟨_, _, _, _, _, _, rfl, hdK, (hDr4 om_).other hB44 hx_ (by decide) (by decide), ext_⟩
end Go.Proofs.Ytemfngomfiimfaa.K
