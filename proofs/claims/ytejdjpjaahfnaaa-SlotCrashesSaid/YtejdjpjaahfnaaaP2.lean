/- Chapter 12 (page): an entry's bytes, both functions. Seat-free. -/
import Derived.Test.YtejdjpjaahfnaaaP1
import Derived.Test.YtejdjpjaahfnaaaF6
set_option linter.unusedVariables false
set_option linter.unusedSimpArgs false
set_option maxHeartbeats 4000000
set_option maxRecDepth 20000
namespace Go.Proofs.Ytejdjpjaahfnaaa.K
open Go.RowKit
attribute [local irreducible] strEq strOfNums Calls WL WC WQ WX Code.wp wpList bodyPost
def uN (b : Bool) : Int := if b = true then 1 else 0
/-- An entry's bytes. -/
def enL (e : En) : List Int := [uN e.u, e.z, e.a % 256, e.a / 256] ++ e.k
def enB (e : En) : List Int := if OkE e then enL e else []
def enE (e : En) : Int := if OkE e then 0 else 120
theorem fld112 {u z a : Int} (hu : 0 ≤ u ∧ u < 256) (hz : 0 ≤ z ∧ z < 256) (ha : 0 ≤ a ∧ a < 65536) : fldB [1, 1, 2] [u, z, a] = [u, z, a % 256, a / 256] ∧ fldE [1, 1, 2] [u, z, a] = 0 := by
  have p1 : putOk u 1 = true := by unfold putOk; rw [show mayS 1 = true from rfl, Bool.true_and]; exact decide_eq_true (by show u < 256; omega)
  have p2 : putOk z 1 = true := by unfold putOk; rw [show mayS 1 = true from rfl, Bool.true_and]; exact decide_eq_true (by show z < 256; omega)
  have p3 : putOk a 2 = true := by unfold putOk; rw [show mayS 2 = true from rfl, Bool.true_and]; exact decide_eq_true (by show a < 65536; omega)
  have hok : fldOk [1, 1, 2] [u, z, a] = true := by
    unfold fldOk
    simp [okN, p1, p2, p3]
  have l1 : ∀ n : Int, leB n 1 = [n % 256] := fun n => by simp [leB]
  have l2 : ∀ n : Int, leB n 2 = [n % 256, n / 256 % 256] := fun n => by simp [leB]
  constructor
  · unfold fldB
    rw [if_pos hok]
    show catB _ _ 3 = _
    simp only [catB, putB]
    simp [p1, p2, p3, l1, l2]
    omega
  · unfold fldE
    rw [if_pos hok]
theorem OkE.range {e : En} (h : OkE e) : (0 ≤ e.z ∧ e.z < 64) ∧ 0 ≤ e.a ∧ e.a < 65536 := by
  unfold OkE at h
  split at h
  · exact ⟨h.1, h.2.1⟩
  · omega
theorem uN_range (b : Bool) : 0 ≤ uN b ∧ uN b ≤ 1 := by cases b <;> decide
theorem enL_length {e : En} (h : e.k.length = 32) : (enL e).length = 36 := by simp [enL, h]
theorem enL_bytes {e : En} (h : OkE e) (hw : EnW e) : ∀ x ∈ enL e, 0 ≤ x ∧ x < 256 := by
  have hr := h.range
  have hu := uN_range e.u
  intro x hx
  rcases List.mem_append.1 hx with hx | hx
  · simp only [List.mem_cons, List.not_mem_nil, or_false] at hx
    omega
  · exact hw.bytes x hx
attribute [local irreducible] fldB fldE
theorem page_Entry_calls (e : En) (w : World) (he : EnW e) :
    Calls Try.prog 38 #[.agg (enC e).toArray] w fun r w' => ∃ A c, r = .returned (.tuple #[.slice A (enB e).length c, .int .i64 (enE e)]) ∧ w'.ownsRow w.heap.size 5 1 (.slice A (enB e).length c) (enB e).length ((enB e).map (.int .u8)) ∧ Ext w w' := by
  have hel := enC_length he.len
  have hkl := he.len
  refine calls_W (args := [.agg (enC e).toArray]) Try.func38 rfl 31 rfl ?_
  cases hok : okE e with
  | false =>
    have hO : ¬ OkE e := fun h => by rw [okE_iff.2 h] at hok; cases hok
    unfold enB enE
    rw [if_neg hO, if_neg hO]
    (repeat' (first | (refine WL_is ?_; first | refine WL_nil ?_ | refine wl_ ?_ | (refine WL_isFn ?_; refine WL_call rfl rfl rfl (page_may_calls e _ he _ hok) ?_; rintro _ w_ ⟨rfl, hx_⟩; have hz_ := hx_.size; refine ⟨_, rfl, ?_⟩)) | (refine WC_is ?_; first | refine WC_seq (fun _ _ => ?_) | refine wc_ ?_) | (refine WQ_is ?_; first | refine wq_ ?_) | (refine Kb.mk ?_; intro b_ w_ hb_ hl_ hx_ hB_) | (refine Ks.mk ?_; intro w_ hz_ hx_ hB_) | (refine Ko.mk ?_; intro A_ c_ w_ hx_ ho_ hr_; have hz_ := hx_.size; have hq_ := own_cap ho_) | (refine Kp.mk ?_; intro A_ c_ w_ hx_ hz_ ho_ hr_ hp_; have hq_ := own_cap ho_) | (refine Kl.mk ?_; intro b_ w_ hb_ hl_ hx_ hB_ ho_) | (refine Km.mk ?_; intro b_ w_ hb_ hl_ hx_ ho_) | (refine Ke.mk ?_; intro r_ hr_) | (refine Kg.mk ?_ ?_ <;> intro hs_ <;> (try simp only [strEq_t, strEq_f, decide_eq_true_eq, decide_eq_false_iff_not, beq_iff_eq, beq_eq_false_iff_ne, bne_iff_ne, bne_eq_false_iff_eq, Bool.not_eq_true', Bool.not_eq_false', Bool.not_true, Bool.not_false, gt_iff_lt, ge_iff_le, Int.not_lt, Int.not_le, ne_eq, Bool.false_eq_true, not_true_eq_false, reduceCtorEq] at hs_) <;> (try (exfalso; first | exact hs_ | (exact hs_ rfl) | omega))) ))
    all_goals exact ⟨none, 0, rfl, own_nil _ _ _ _, ext_⟩
  | true =>
    have hO := okE_iff.1 hok
    have hr := hO.range
    unfold enB enE
    rw [if_pos hO, if_pos hO]
    have hlen : (enL e).length = 4 + 32 := enL_length he.len
    rw [hlen]
    have f := fun u A0 A1 c0 c1 w (hu : 0 ≤ u ∧ u ≤ 1) hC0 hC1 => fix_Fields_calls [1, 1, 2] [u, e.z, e.a] A0 A1 3 c0 3 c1 w rfl rfl (by decide) (by decide) (by intro x hx; simp only [List.mem_cons, List.not_mem_nil, or_false] at hx; omega) hC0 hC1
    have fv := fun u (hu : 0 ≤ u ∧ u < 256) => fld112 (u := u) (z := e.z) (a := e.a) hu om_ om_
    cases hu : e.u with
    | false =>
      have hbr : (enC e)[0]? = some (.bool false) := by rw [← hu]; rfl
      have f0 := fun A0 A1 c0 c1 w hC0 hC1 => f 0 A0 A1 c0 c1 w (by decide) hC0 hC1
      simp only [(fv 0 (by decide)).1, (fv 0 (by decide)).2, List.length_cons, List.length_nil, Nat.zero_add, Nat.reduceAdd] at f0
      have eL : enL e = [0, e.z, e.a % 256, e.a / 256] ++ e.k := by unfold enL; rw [hu]; rfl
      rw [eL]
      (repeat' (first | (refine WL_is ?_; first | refine WL_nil ?_ | (refine WL_isLoad ?_; refine WL_load rfl rfl rfl blk_ hbr ?_) | refine wl_ ?_ | (refine WL_isFn ?_; refine WL_call rfl rfl rfl (page_may_calls e _ he _ hok) ?_; rintro _ w_ ⟨rfl, hx_⟩; have hz_ := hx_.size; refine ⟨_, rfl, ?_⟩) | (refine WL_isFn ?_; refine WL_call rfl rfl rfl (f0 _ _ _ _ _ cells_ cells_) ?_; rintro _ w_ ⟨A_, c_, rfl, ho_, hx_⟩; have hz_ := hx_.size; have hr_ := own_rd ho_; have hq_ := own_cap ho_; refine ⟨_, rfl, ?_⟩)) | (refine WC_is ?_; first | refine WC_seq (fun _ _ => ?_) | refine wc_ ?_) | (refine WQ_is ?_; first | refine wq_ ?_) | (refine Kb.mk ?_; intro b_ w_ hb_ hl_ hx_ hB_) | (refine Ks.mk ?_; intro w_ hz_ hx_ hB_) | (refine Ko.mk ?_; intro A_ c_ w_ hx_ ho_ hr_; have hz_ := hx_.size; have hq_ := own_cap ho_) | (refine Kp.mk ?_; intro A_ c_ w_ hx_ hz_ ho_ hr_ hp_; have hq_ := own_cap ho_) | (refine Kl.mk ?_; intro b_ w_ hb_ hl_ hx_ hB_ ho_) | (refine Km.mk ?_; intro b_ w_ hb_ hl_ hx_ ho_) | (refine Ke.mk ?_; intro r_ hr_) | (refine Kg.mk ?_ ?_ <;> intro hs_ <;> (try simp only [strEq_t, strEq_f, decide_eq_true_eq, decide_eq_false_iff_not, beq_iff_eq, beq_eq_false_iff_ne, bne_iff_ne, bne_eq_false_iff_eq, Bool.not_eq_true', Bool.not_eq_false', Bool.not_true, Bool.not_false, gt_iff_lt, ge_iff_le, Int.not_lt, Int.not_le, ne_eq, Bool.false_eq_true, not_true_eq_false, reduceCtorEq] at hs_) <;> (try (exfalso; first | exact hs_ | (exact hs_ rfl) | omega))) ))
      all_goals exact ⟨_, _, rfl, own_, ext_⟩
    | true =>
      have hbr : (enC e)[0]? = some (.bool true) := by rw [← hu]; rfl
      have f0 := fun A0 A1 c0 c1 w hC0 hC1 => f 1 A0 A1 c0 c1 w (by decide) hC0 hC1
      simp only [(fv 1 (by decide)).1, (fv 1 (by decide)).2, List.length_cons, List.length_nil, Nat.zero_add, Nat.reduceAdd] at f0
      have eL : enL e = [1, e.z, e.a % 256, e.a / 256] ++ e.k := by unfold enL; rw [hu]; rfl
      rw [eL]
      (repeat' (first | (refine WL_is ?_; first | refine WL_nil ?_ | (refine WL_isLoad ?_; refine WL_load rfl rfl rfl blk_ hbr ?_) | refine wl_ ?_ | (refine WL_isFn ?_; refine WL_call rfl rfl rfl (page_may_calls e _ he _ hok) ?_; rintro _ w_ ⟨rfl, hx_⟩; have hz_ := hx_.size; refine ⟨_, rfl, ?_⟩) | (refine WL_isFn ?_; refine WL_call rfl rfl rfl (f0 _ _ _ _ _ cells_ cells_) ?_; rintro _ w_ ⟨A_, c_, rfl, ho_, hx_⟩; have hz_ := hx_.size; have hr_ := own_rd ho_; have hq_ := own_cap ho_; refine ⟨_, rfl, ?_⟩)) | (refine WC_is ?_; first | refine WC_seq (fun _ _ => ?_) | refine wc_ ?_) | (refine WQ_is ?_; first | refine wq_ ?_) | (refine Kb.mk ?_; intro b_ w_ hb_ hl_ hx_ hB_) | (refine Ks.mk ?_; intro w_ hz_ hx_ hB_) | (refine Ko.mk ?_; intro A_ c_ w_ hx_ ho_ hr_; have hz_ := hx_.size; have hq_ := own_cap ho_) | (refine Kp.mk ?_; intro A_ c_ w_ hx_ hz_ ho_ hr_ hp_; have hq_ := own_cap ho_) | (refine Kl.mk ?_; intro b_ w_ hb_ hl_ hx_ hB_ ho_) | (refine Km.mk ?_; intro b_ w_ hb_ hl_ hx_ ho_) | (refine Ke.mk ?_; intro r_ hr_) | (refine Kg.mk ?_ ?_ <;> intro hs_ <;> (try simp only [strEq_t, strEq_f, decide_eq_true_eq, decide_eq_false_iff_not, beq_iff_eq, beq_eq_false_iff_ne, bne_iff_ne, bne_eq_false_iff_eq, Bool.not_eq_true', Bool.not_eq_false', Bool.not_true, Bool.not_false, gt_iff_lt, ge_iff_le, Int.not_lt, Int.not_le, ne_eq, Bool.false_eq_true, not_true_eq_false, reduceCtorEq] at hs_) <;> (try (exfalso; first | exact hs_ | (exact hs_ rfl) | omega))) ))
      all_goals exact ⟨_, _, rfl, own_, ext_⟩
theorem ref12_Entry_calls (e : En) (w : World) (he : EnW e) :
    Calls Try.prog 41 #[.agg (enC e).toArray] w fun r w' => ∃ A c, r = .returned (.tuple #[.slice A (enB e).length c, .int .i64 (enE e)]) ∧ w'.ownsRow w.heap.size 5 1 (.slice A (enB e).length c) (enB e).length ((enB e).map (.int .u8)) ∧ Ext w w' := by
  have hel := enC_length he.len
  have hkl := he.len
  refine calls_W (args := [.agg (enC e).toArray]) Try.func41 rfl 31 rfl ?_
  cases hok : okE e with
  | false =>
    have hO : ¬ OkE e := fun h => by rw [okE_iff.2 h] at hok; cases hok
    unfold enB enE
    rw [if_neg hO, if_neg hO]
    (repeat' (first | (refine WL_is ?_; first | refine WL_nil ?_ | refine wl_ ?_ | (refine WL_isFn ?_; refine WL_call rfl rfl rfl (ref12_May_calls e _ he _ hok) ?_; rintro _ w_ ⟨rfl, hx_⟩; have hz_ := hx_.size; refine ⟨_, rfl, ?_⟩)) | (refine WC_is ?_; first | refine WC_seq (fun _ _ => ?_) | refine wc_ ?_) | (refine WQ_is ?_; first | refine wq_ ?_) | (refine Kb.mk ?_; intro b_ w_ hb_ hl_ hx_ hB_) | (refine Ks.mk ?_; intro w_ hz_ hx_ hB_) | (refine Ko.mk ?_; intro A_ c_ w_ hx_ ho_ hr_; have hz_ := hx_.size; have hq_ := own_cap ho_) | (refine Kp.mk ?_; intro A_ c_ w_ hx_ hz_ ho_ hr_ hp_; have hq_ := own_cap ho_) | (refine Kl.mk ?_; intro b_ w_ hb_ hl_ hx_ hB_ ho_) | (refine Km.mk ?_; intro b_ w_ hb_ hl_ hx_ ho_) | (refine Ke.mk ?_; intro r_ hr_) | (refine Kg.mk ?_ ?_ <;> intro hs_ <;> (try simp only [strEq_t, strEq_f, decide_eq_true_eq, decide_eq_false_iff_not, beq_iff_eq, beq_eq_false_iff_ne, bne_iff_ne, bne_eq_false_iff_eq, Bool.not_eq_true', Bool.not_eq_false', Bool.not_true, Bool.not_false, gt_iff_lt, ge_iff_le, Int.not_lt, Int.not_le, ne_eq, Bool.false_eq_true, not_true_eq_false, reduceCtorEq] at hs_) <;> (try (exfalso; first | exact hs_ | (exact hs_ rfl) | omega))) ))
    all_goals exact ⟨none, 0, rfl, own_nil _ _ _ _, ext_⟩
  | true =>
    have hO := okE_iff.1 hok
    have hr := hO.range
    unfold enB enE
    rw [if_pos hO, if_pos hO]
    have hlen : (enL e).length = 4 + 32 := enL_length he.len
    rw [hlen]
    have f := fun u A0 A1 c0 c1 w (hu : 0 ≤ u ∧ u ≤ 1) hC0 hC1 => ref01_Fields_calls [1, 1, 2] [u, e.z, e.a] A0 A1 3 c0 3 c1 w rfl rfl (by decide) (by decide) (by intro x hx; simp only [List.mem_cons, List.not_mem_nil, or_false] at hx; omega) hC0 hC1
    have fv := fun u (hu : 0 ≤ u ∧ u < 256) => fld112 (u := u) (z := e.z) (a := e.a) hu om_ om_
    cases hu : e.u with
    | false =>
      have hbr : (enC e)[0]? = some (.bool false) := by rw [← hu]; rfl
      have f0 := fun A0 A1 c0 c1 w hC0 hC1 => f 0 A0 A1 c0 c1 w (by decide) hC0 hC1
      simp only [(fv 0 (by decide)).1, (fv 0 (by decide)).2, List.length_cons, List.length_nil, Nat.zero_add, Nat.reduceAdd] at f0
      have eL : enL e = [0, e.z, e.a % 256, e.a / 256] ++ e.k := by unfold enL; rw [hu]; rfl
      rw [eL]
      (repeat' (first | (refine WL_is ?_; first | refine WL_nil ?_ | (refine WL_isLoad ?_; refine WL_load rfl rfl rfl blk_ hbr ?_) | refine wl_ ?_ | (refine WL_isFn ?_; refine WL_call rfl rfl rfl (ref12_May_calls e _ he _ hok) ?_; rintro _ w_ ⟨rfl, hx_⟩; have hz_ := hx_.size; refine ⟨_, rfl, ?_⟩) | (refine WL_isFn ?_; refine WL_call rfl rfl rfl (f0 _ _ _ _ _ cells_ cells_) ?_; rintro _ w_ ⟨A_, c_, rfl, ho_, hx_⟩; have hz_ := hx_.size; have hr_ := own_rd ho_; have hq_ := own_cap ho_; refine ⟨_, rfl, ?_⟩)) | (refine WC_is ?_; first | refine WC_seq (fun _ _ => ?_) | refine wc_ ?_) | (refine WQ_is ?_; first | refine wq_ ?_) | (refine Kb.mk ?_; intro b_ w_ hb_ hl_ hx_ hB_) | (refine Ks.mk ?_; intro w_ hz_ hx_ hB_) | (refine Ko.mk ?_; intro A_ c_ w_ hx_ ho_ hr_; have hz_ := hx_.size; have hq_ := own_cap ho_) | (refine Kp.mk ?_; intro A_ c_ w_ hx_ hz_ ho_ hr_ hp_; have hq_ := own_cap ho_) | (refine Kl.mk ?_; intro b_ w_ hb_ hl_ hx_ hB_ ho_) | (refine Km.mk ?_; intro b_ w_ hb_ hl_ hx_ ho_) | (refine Ke.mk ?_; intro r_ hr_) | (refine Kg.mk ?_ ?_ <;> intro hs_ <;> (try simp only [strEq_t, strEq_f, decide_eq_true_eq, decide_eq_false_iff_not, beq_iff_eq, beq_eq_false_iff_ne, bne_iff_ne, bne_eq_false_iff_eq, Bool.not_eq_true', Bool.not_eq_false', Bool.not_true, Bool.not_false, gt_iff_lt, ge_iff_le, Int.not_lt, Int.not_le, ne_eq, Bool.false_eq_true, not_true_eq_false, reduceCtorEq] at hs_) <;> (try (exfalso; first | exact hs_ | (exact hs_ rfl) | omega))) ))
      all_goals exact ⟨_, _, rfl, own_, ext_⟩
    | true =>
      have hbr : (enC e)[0]? = some (.bool true) := by rw [← hu]; rfl
      have f0 := fun A0 A1 c0 c1 w hC0 hC1 => f 1 A0 A1 c0 c1 w (by decide) hC0 hC1
      simp only [(fv 1 (by decide)).1, (fv 1 (by decide)).2, List.length_cons, List.length_nil, Nat.zero_add, Nat.reduceAdd] at f0
      have eL : enL e = [1, e.z, e.a % 256, e.a / 256] ++ e.k := by unfold enL; rw [hu]; rfl
      rw [eL]
      (repeat' (first | (refine WL_is ?_; first | refine WL_nil ?_ | (refine WL_isLoad ?_; refine WL_load rfl rfl rfl blk_ hbr ?_) | refine wl_ ?_ | (refine WL_isFn ?_; refine WL_call rfl rfl rfl (ref12_May_calls e _ he _ hok) ?_; rintro _ w_ ⟨rfl, hx_⟩; have hz_ := hx_.size; refine ⟨_, rfl, ?_⟩) | (refine WL_isFn ?_; refine WL_call rfl rfl rfl (f0 _ _ _ _ _ cells_ cells_) ?_; rintro _ w_ ⟨A_, c_, rfl, ho_, hx_⟩; have hz_ := hx_.size; have hr_ := own_rd ho_; have hq_ := own_cap ho_; refine ⟨_, rfl, ?_⟩)) | (refine WC_is ?_; first | refine WC_seq (fun _ _ => ?_) | refine wc_ ?_) | (refine WQ_is ?_; first | refine wq_ ?_) | (refine Kb.mk ?_; intro b_ w_ hb_ hl_ hx_ hB_) | (refine Ks.mk ?_; intro w_ hz_ hx_ hB_) | (refine Ko.mk ?_; intro A_ c_ w_ hx_ ho_ hr_; have hz_ := hx_.size; have hq_ := own_cap ho_) | (refine Kp.mk ?_; intro A_ c_ w_ hx_ hz_ ho_ hr_ hp_; have hq_ := own_cap ho_) | (refine Kl.mk ?_; intro b_ w_ hb_ hl_ hx_ hB_ ho_) | (refine Km.mk ?_; intro b_ w_ hb_ hl_ hx_ ho_) | (refine Ke.mk ?_; intro r_ hr_) | (refine Kg.mk ?_ ?_ <;> intro hs_ <;> (try simp only [strEq_t, strEq_f, decide_eq_true_eq, decide_eq_false_iff_not, beq_iff_eq, beq_eq_false_iff_ne, bne_iff_ne, bne_eq_false_iff_eq, Bool.not_eq_true', Bool.not_eq_false', Bool.not_true, Bool.not_false, gt_iff_lt, ge_iff_le, Int.not_lt, Int.not_le, ne_eq, Bool.false_eq_true, not_true_eq_false, reduceCtorEq] at hs_) <;> (try (exfalso; first | exact hs_ | (exact hs_ rfl) | omega))) ))
      all_goals exact ⟨_, _, rfl, own_, ext_⟩
end Go.Proofs.Ytejdjpjaahfnaaa.K
