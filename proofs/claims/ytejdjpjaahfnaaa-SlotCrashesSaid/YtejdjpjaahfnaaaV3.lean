/- Chapter 13 (root): records: what may be, both functions. Seat-free. -/
import Derived.Test.YtejdjpjaahfnaaaW
import Derived.Test.YtejdjpjaahfnaaaP2
set_option linter.unusedVariables false
set_option linter.unusedSimpArgs false
set_option maxHeartbeats 4000000
set_option maxRecDepth 20000
namespace Go.Proofs.Ytejdjpjaahfnaaa.K
open Go.RowKit
attribute [local irreducible] strEq strOfNums Calls WL WC WQ WX Code.wp wpList bodyPost
/-- A record. -/
structure Rc where
  ep : Int
  t : En
  j : List Int
  sq : Int
  bl : Int
def rcT (r : Rc) : List Value := r.j.map (.int .u8) ++ [.int .i64 r.sq, .int .i64 r.bl]
def rcC (r : Rc) : List Value := .int .i64 r.ep :: (enC r.t ++ rcT r)
def rc0 : Rc := ⟨0, en0, zk, 0, 0⟩
/-- What every record that comes in is. -/
structure RcW (r : Rc) : Prop where
  ew : EnW r.t
  len : r.j.length = 32
  bytes : ∀ x ∈ r.j, 0 ≤ x ∧ x < 256
  eb : -9223372036854775808 ≤ r.ep ∧ r.ep ≤ 9223372036854775807
  sb : -9223372036854775808 ≤ r.sq ∧ r.sq ≤ 9223372036854775807
  bb : -9223372036854775808 ≤ r.bl ∧ r.bl ≤ 9223372036854775807
theorem RcW.zero : RcW rc0 := ⟨EnW.zero, rfl, EnW.zero.bytes, by decide, by decide, by decide⟩
theorem rcT_length {r : Rc} (h : RcW r) : (rcT r).length = 34 := by simp [rcT, h.len]
theorem rcC_length {r : Rc} (h : RcW r) : (rcC r).length = 70 := by simp [rcC, rcT_length h, enC_length h.ew.len]
theorem rcC_one (r : Rc) : ∀ u ∈ rcC r, u.oneCell' = true := by
  intro u hu
  simp only [rcC, rcT, List.mem_cons, List.mem_append, List.mem_map, List.not_mem_nil, or_false] at hu
  rcases hu with rfl | h | ⟨x, _, rfl⟩ | rfl | rfl
  · rfl
  · exact enC_one r.t u h
  · rfl
  · rfl
  · rfl
theorem rc_seg1 {r : Rc} (h : RcW r) : Seg (rcC r) (0 + 1) 35 (enC r.t) := Seg.cons (Seg.head (enC_length h.ew.len))
theorem rc_drop {r : Rc} (h : RcW r) : (rcC r).drop 36 = rcT r := by
  show (enC r.t ++ rcT r).drop 35 = _
  rw [← enC_length h.ew.len, List.drop_left]
theorem rc_seg2 {r : Rc} (h : RcW r) : Seg (rcC r) (0 + 36) 32 (r.j.map (.int .u8)) := by
  refine ⟨by simpa using h.len, by rw [rcC_length h]; omega, ?_⟩
  rw [Nat.zero_add, rc_drop h]
  unfold rcT
  rw [List.take_append_of_le_length (by simp [h.len]), List.take_of_length_le (by simp [h.len])]
theorem rc_at {r : Rc} (h : RcW r) : (rcC r)[0 + 0]? = some (.int .i64 r.ep) ∧ (rcC r)[0 + 68]? = some (.int .i64 r.sq) ∧ (rcC r)[0 + 69]? = some (.int .i64 r.bl) := by
  have e : ∀ k, (rcC r)[36 + k]? = (rcT r)[k]? := fun k => by rw [← rc_drop h, List.getElem?_drop]
  refine ⟨rfl, ?_, ?_⟩
  · rw [show 0 + 68 = 36 + 32 from rfl, e]
    unfold rcT
    rw [List.getElem?_append_right (by simp [h.len])]
    simp [h.len]
  · rw [show 0 + 69 = 36 + 33 from rfl, e]
    unfold rcT
    rw [List.getElem?_append_right (by simp [h.len])]
    simp [h.len]
abbrev SRc : List Value → Prop := SStr 70 [(0, 1, SInt .i64), (1, 35, SEn), (36, 32, SKey), (68, 1, SInt .i64), (69, 1, SInt .i64)]
theorem src {r : Rc} (h : RcW r) : SRc (rcC r) := by
  have hd := rc_drop h
  have e : ∀ k, (rcC r).drop (36 + k) = (rcT r).drop k := fun k => by rw [← hd, List.drop_drop]
  have t1 : (rcT r).drop 32 = [.int .i64 r.sq, .int .i64 r.bl] := by
    unfold rcT; rw [List.drop_append_of_le_length (by simp [h.len]), List.drop_of_length_le (by simp [h.len])]; rfl
  have t2 : (rcT r).drop 33 = [.int .i64 r.bl] := by
    rw [show 33 = 32 + 1 from rfl, ← List.drop_drop, t1]; rfl
  refine ⟨rcC_length h, ⟨_, rfl⟩, ?_, ?_, ?_, ?_, True.intro⟩
  · have := (rc_seg1 h).2.2
    show SEn (((rcC r).drop 1).take 35)
    rw [this]; exact sen h.ew.len
  · have := (rc_seg2 h).2.2
    show SKey (((rcC r).drop 36).take 32)
    rw [this]; exact skey h.len
  · show SInt .i64 (((rcC r).drop (36 + 32)).take 1)
    rw [e, t1]; exact ⟨_, rfl⟩
  · show SInt .i64 (((rcC r).drop (36 + 33)).take 1)
    rw [e, t2]; exact ⟨_, rfl⟩
theorem rcC_inj {a b : Rc} (ha : RcW a) (hb : RcW b) (h : rcC a = rcC b) : a = b := by
  have h1 : enC a.t ++ rcT a = enC b.t ++ rcT b := (List.cons.inj h).2
  have h0 : a.ep = b.ep := by simpa using (List.cons.inj h).1
  have h2 := List.append_inj h1 (by rw [enC_length ha.ew.len, enC_length hb.ew.len])
  have h3 := enC_inj h2.1
  have h4 := List.append_inj h2.2 (by simp [ha.len, hb.len])
  have h5 := key_inj h4.1
  have h6 := h4.2
  simp only [List.cons.injEq, Value.int.injEq, true_and, and_true] at h6
  cases a; cases b
  simp only at h0 h3 h5 h6
  obtain ⟨h6, h7⟩ := h6
  subst h0; subst h3; subst h5; subst h6; subst h7
  rfl
instance : TZc Try.prog 26 (rcC rc0) := ⟨by kernel_rfl⟩
instance : TEq Try.prog 26 true 70 4 SRc := teq_str (l := [(0, 3), (1, 24), (36, 22), (68, 3), (69, 3)]) (by kernel_rfl) (by kernel_rfl) (by kernel_rfl) (by kernel_rfl) (by kernel_rfl)
  (.cons (t := 3) inferInstance (by decide) rfl (.cons (t := 24) inferInstance (by decide) rfl (.cons (t := 22) inferInstance (by decide) rfl (.cons (t := 3) inferInstance (by decide) rfl (.cons (t := 3) inferInstance (by decide) rfl .nil))))) rfl
instance : TEqG Try.prog 26 := ⟨by kernel_rfl⟩
instance : TBld Try.prog 26 (rcC rc0) [(0, 1), (1, 35), (36, 32), (68, 1), (69, 1)] := ⟨by kernel_rfl, by kernel_rfl⟩
/-- May a record be? -/
def OkR (r : Rc) : Prop := OkE r.t ∧ (1 ≤ r.ep ∧ r.ep ≤ 4294967295) ∧ r.j ≠ zk ∧ (0 ≤ r.sq ∧ r.sq ≤ 4611686018427387903) ∧ 1 ≤ r.bl ∧ r.bl ≤ 64
instance (r : Rc) : Decidable (OkR r) := by unfold OkR; infer_instance
def okR (r : Rc) : Bool := decide (OkR r)
theorem okR_iff {r : Rc} : okR r = true ↔ OkR r := decide_eq_true_iff
theorem root_Check_calls (r : Rc) (w : World) (hr : RcW r) (b : Bool) (hb : okR r = b) :
    Calls Try.prog 18 #[.agg (rcC r).toArray] w fun e w' => e = .returned (.bool b) ∧ Ext w w' := by
  subst hb
  have hrl := rcC_length hr
  have h1 := rc_seg1 hr
  have h2 := rc_seg2 hr
  obtain ⟨c0, c1, c2⟩ := rc_at hr
  have s1 := skey hr.len
  have s2 : SKey (zk.map (.int .u8)) := skey rfl
  have pe := fun w => page_Entry_calls r.t w hr.ew
  refine calls_W (args := [.agg (rcC r).toArray]) Try.func18 rfl 49 rfl ?_
  by_cases hE : OkE r.t
  · have e1 : enE r.t = 0 := if_pos hE
    rw [e1] at pe
    by_cases hj : r.j = zk
    · have hje : r.j.map (Value.int .u8) = zk.map (.int .u8) := by rw [hj]
      have hO : okR r = false := decide_eq_false (fun h => h.2.2.1 hj)
      rw [hO]
      (repeat' (first | (refine WL_is ?_; first | refine WL_nil ?_ | (refine WL_isLoad ?_; refine WL_load rfl rfl rfl blk_ as_ ?_) | (refine WL_isBin ?_; refine WL_neT rfl rfl rfl rfl rfl as_ as_ ?_) | refine wl_ ?_ | (refine WL_isFn ?_; refine WL_call rfl rfl rfl (pe _) ?_; rintro _ w_ ⟨A_, c_, rfl, ho_, hx_⟩; have hz_ := hx_.size; have hr_ := own_rd ho_; have hq_ := own_cap ho_; refine ⟨_, rfl, ?_⟩)) | (refine WC_is ?_; first | refine WC_seq (fun _ _ => ?_) | refine wc_ ?_) | (refine WQ_is ?_; first | refine wq_ ?_) | (refine Kb.mk ?_; intro b_ w_ hb_ hl_ hx_ hB_) | (refine Ks.mk ?_; intro w_ hz_ hx_ hB_) | (refine Ko.mk ?_; intro A_ c_ w_ hx_ ho_ hr_; have hz_ := hx_.size; have hq_ := own_cap ho_) | (refine Kp.mk ?_; intro A_ c_ w_ hx_ hz_ ho_ hr_ hp_; have hq_ := own_cap ho_) | (refine Kl.mk ?_; intro b_ w_ hb_ hl_ hx_ hB_ ho_) | (refine Km.mk ?_; intro b_ w_ hb_ hl_ hx_ ho_) | (refine Ke.mk ?_; intro r_ hr_) | (refine Kg.mk ?_ ?_ <;> intro hs_ <;> (try simp only [strEq_t, strEq_f, decide_eq_true_eq, decide_eq_false_iff_not, beq_iff_eq, beq_eq_false_iff_ne, bne_iff_ne, bne_eq_false_iff_eq, Bool.not_eq_true', Bool.not_eq_false', Bool.not_true, Bool.not_false, gt_iff_lt, ge_iff_le, Int.not_lt, Int.not_le, ne_eq, Bool.false_eq_true, not_true_eq_false, reduceCtorEq] at hs_) <;> (try (exfalso; first | exact hs_ | (exact hs_ rfl) | omega))) ))
      all_goals exact ⟨by first | rfl | (congr 2; exact decide_eq_false om_), ext_⟩
    · have hje : ¬ r.j.map (Value.int .u8) = zk.map (.int .u8) := fun h => hj (key_inj h)
      have hO : OkR r ↔ (1 ≤ r.ep ∧ r.ep ≤ 4294967295) ∧ (0 ≤ r.sq ∧ r.sq ≤ 4611686018427387903) ∧ 1 ≤ r.bl ∧ r.bl ≤ 64 := ⟨fun h => ⟨h.2.1, h.2.2.2.1, h.2.2.2.2⟩, fun h => ⟨hE, h.1, hj, h.2.1, h.2.2⟩⟩
      (repeat' (first | (refine WL_is ?_; first | refine WL_nil ?_ | (refine WL_isLoad ?_; refine WL_load rfl rfl rfl blk_ as_ ?_) | (refine WL_isBin ?_; refine WL_neF rfl rfl rfl rfl rfl as_ as_ as_ ?_) | refine wl_ ?_ | (refine WL_isFn ?_; refine WL_call rfl rfl rfl (pe _) ?_; rintro _ w_ ⟨A_, c_, rfl, ho_, hx_⟩; have hz_ := hx_.size; have hr_ := own_rd ho_; have hq_ := own_cap ho_; refine ⟨_, rfl, ?_⟩)) | (refine WC_is ?_; first | refine WC_seq (fun _ _ => ?_) | refine wc_ ?_) | (refine WQ_is ?_; first | refine wq_ ?_) | (refine Kb.mk ?_; intro b_ w_ hb_ hl_ hx_ hB_) | (refine Ks.mk ?_; intro w_ hz_ hx_ hB_) | (refine Ko.mk ?_; intro A_ c_ w_ hx_ ho_ hr_; have hz_ := hx_.size; have hq_ := own_cap ho_) | (refine Kp.mk ?_; intro A_ c_ w_ hx_ hz_ ho_ hr_ hp_; have hq_ := own_cap ho_) | (refine Kl.mk ?_; intro b_ w_ hb_ hl_ hx_ hB_ ho_) | (refine Km.mk ?_; intro b_ w_ hb_ hl_ hx_ ho_) | (refine Ke.mk ?_; intro r_ hr_) | (refine Kg.mk ?_ ?_ <;> intro hs_ <;> (try simp only [strEq_t, strEq_f, decide_eq_true_eq, decide_eq_false_iff_not, beq_iff_eq, beq_eq_false_iff_ne, bne_iff_ne, bne_eq_false_iff_eq, Bool.not_eq_true', Bool.not_eq_false', Bool.not_true, Bool.not_false, gt_iff_lt, ge_iff_le, Int.not_lt, Int.not_le, ne_eq, Bool.false_eq_true, not_true_eq_false, reduceCtorEq] at hs_) <;> (try (exfalso; first | exact hs_ | (exact hs_ rfl) | omega))) ))
      all_goals refine ⟨?_, ext_⟩
      all_goals
        congr 2
        rw [Bool.eq_iff_iff, okR_iff, hO]
        simp only [decide_eq_true_eq, Bool.false_eq_true]
        constructor <;> intro h_ <;> first | omega | exact h_.elim
  · have e1 : enE r.t = 120 := if_neg hE
    have hO : okR r = false := decide_eq_false (fun h => hE h.1)
    rw [e1] at pe
    rw [hO]
    (repeat' (first | (refine WL_is ?_; first | refine WL_nil ?_ | (refine WL_isLoad ?_; refine WL_load rfl rfl rfl blk_ as_ ?_) | refine wl_ ?_ | (refine WL_isFn ?_; refine WL_call rfl rfl rfl (pe _) ?_; rintro _ w_ ⟨A_, c_, rfl, ho_, hx_⟩; have hz_ := hx_.size; have hr_ := own_rd ho_; have hq_ := own_cap ho_; refine ⟨_, rfl, ?_⟩)) | (refine WC_is ?_; first | refine WC_seq (fun _ _ => ?_) | refine wc_ ?_) | (refine WQ_is ?_; first | refine wq_ ?_) | (refine Kb.mk ?_; intro b_ w_ hb_ hl_ hx_ hB_) | (refine Ks.mk ?_; intro w_ hz_ hx_ hB_) | (refine Ko.mk ?_; intro A_ c_ w_ hx_ ho_ hr_; have hz_ := hx_.size; have hq_ := own_cap ho_) | (refine Kp.mk ?_; intro A_ c_ w_ hx_ hz_ ho_ hr_ hp_; have hq_ := own_cap ho_) | (refine Kl.mk ?_; intro b_ w_ hb_ hl_ hx_ hB_ ho_) | (refine Km.mk ?_; intro b_ w_ hb_ hl_ hx_ ho_) | (refine Ke.mk ?_; intro r_ hr_) | (refine Kg.mk ?_ ?_ <;> intro hs_ <;> (try simp only [strEq_t, strEq_f, decide_eq_true_eq, decide_eq_false_iff_not, beq_iff_eq, beq_eq_false_iff_ne, bne_iff_ne, bne_eq_false_iff_eq, Bool.not_eq_true', Bool.not_eq_false', Bool.not_true, Bool.not_false, gt_iff_lt, ge_iff_le, Int.not_lt, Int.not_le, ne_eq, Bool.false_eq_true, not_true_eq_false, reduceCtorEq] at hs_) <;> (try (exfalso; first | exact hs_ | (exact hs_ rfl) | omega))) ))
    all_goals exact ⟨rfl, ext_⟩
theorem ref13_Check_calls (r : Rc) (w : World) (hr : RcW r) (b : Bool) (hb : okR r = b) :
    Calls Try.prog 19 #[.agg (rcC r).toArray] w fun e w' => e = .returned (.bool b) ∧ Ext w w' := by
  subst hb
  have hrl := rcC_length hr
  have h1 := rc_seg1 hr
  have h2 := rc_seg2 hr
  obtain ⟨c0, c1, c2⟩ := rc_at hr
  have s1 := skey hr.len
  have s2 : SKey (zk.map (.int .u8)) := skey rfl
  have pe := fun w b hb => ref12_May_calls r.t w hr.ew b hb
  refine calls_W (args := [.agg (rcC r).toArray]) Try.func19 rfl 44 rfl ?_
  by_cases hE : OkE r.t
  · have e1 : okE r.t = true := okE_iff.2 hE
    by_cases hj : r.j = zk
    · have hje : r.j.map (Value.int .u8) = zk.map (.int .u8) := by rw [hj]
      have hO : okR r = false := decide_eq_false (fun h => h.2.2.1 hj)
      rw [hO]
      (repeat' (first | (refine WL_is ?_; first | refine WL_nil ?_ | (refine WL_isLoad ?_; refine WL_load rfl rfl rfl blk_ as_ ?_) | (refine WL_isBin ?_; refine WL_neT rfl rfl rfl rfl rfl as_ as_ ?_) | refine wl_ ?_ | (refine WL_isFn ?_; refine WL_call rfl rfl rfl (pe _ _ e1) ?_; rintro _ w_ ⟨rfl, hx_⟩; have hz_ := hx_.size; refine ⟨_, rfl, ?_⟩)) | (refine WC_is ?_; first | refine WC_seq (fun _ _ => ?_) | refine wc_ ?_) | (refine WQ_is ?_; first | refine wq_ ?_) | (refine Kb.mk ?_; intro b_ w_ hb_ hl_ hx_ hB_) | (refine Ks.mk ?_; intro w_ hz_ hx_ hB_) | (refine Ko.mk ?_; intro A_ c_ w_ hx_ ho_ hr_; have hz_ := hx_.size; have hq_ := own_cap ho_) | (refine Kp.mk ?_; intro A_ c_ w_ hx_ hz_ ho_ hr_ hp_; have hq_ := own_cap ho_) | (refine Kl.mk ?_; intro b_ w_ hb_ hl_ hx_ hB_ ho_) | (refine Km.mk ?_; intro b_ w_ hb_ hl_ hx_ ho_) | (refine Ke.mk ?_; intro r_ hr_) | (refine Kg.mk ?_ ?_ <;> intro hs_ <;> (try simp only [strEq_t, strEq_f, decide_eq_true_eq, decide_eq_false_iff_not, beq_iff_eq, beq_eq_false_iff_ne, bne_iff_ne, bne_eq_false_iff_eq, Bool.not_eq_true', Bool.not_eq_false', Bool.not_true, Bool.not_false, gt_iff_lt, ge_iff_le, Int.not_lt, Int.not_le, ne_eq, Bool.false_eq_true, not_true_eq_false, reduceCtorEq] at hs_) <;> (try (exfalso; first | exact hs_ | (exact hs_ rfl) | omega))) ))
      all_goals exact ⟨by first | rfl | (congr 2; exact decide_eq_false om_), ext_⟩
    · have hje : ¬ r.j.map (Value.int .u8) = zk.map (.int .u8) := fun h => hj (key_inj h)
      have hO : OkR r ↔ (1 ≤ r.ep ∧ r.ep ≤ 4294967295) ∧ (0 ≤ r.sq ∧ r.sq ≤ 4611686018427387903) ∧ 1 ≤ r.bl ∧ r.bl ≤ 64 := ⟨fun h => ⟨h.2.1, h.2.2.2.1, h.2.2.2.2⟩, fun h => ⟨hE, h.1, hj, h.2.1, h.2.2⟩⟩
      (repeat' (first | (refine WL_is ?_; first | refine WL_nil ?_ | (refine WL_isLoad ?_; refine WL_load rfl rfl rfl blk_ as_ ?_) | (refine WL_isBin ?_; refine WL_neF rfl rfl rfl rfl rfl as_ as_ as_ ?_) | refine wl_ ?_ | (refine WL_isFn ?_; refine WL_call rfl rfl rfl (pe _ _ e1) ?_; rintro _ w_ ⟨rfl, hx_⟩; have hz_ := hx_.size; refine ⟨_, rfl, ?_⟩)) | (refine WC_is ?_; first | refine WC_seq (fun _ _ => ?_) | refine wc_ ?_) | (refine WQ_is ?_; first | refine wq_ ?_) | (refine Kb.mk ?_; intro b_ w_ hb_ hl_ hx_ hB_) | (refine Ks.mk ?_; intro w_ hz_ hx_ hB_) | (refine Ko.mk ?_; intro A_ c_ w_ hx_ ho_ hr_; have hz_ := hx_.size; have hq_ := own_cap ho_) | (refine Kp.mk ?_; intro A_ c_ w_ hx_ hz_ ho_ hr_ hp_; have hq_ := own_cap ho_) | (refine Kl.mk ?_; intro b_ w_ hb_ hl_ hx_ hB_ ho_) | (refine Km.mk ?_; intro b_ w_ hb_ hl_ hx_ ho_) | (refine Ke.mk ?_; intro r_ hr_) | (refine Kg.mk ?_ ?_ <;> intro hs_ <;> (try simp only [strEq_t, strEq_f, decide_eq_true_eq, decide_eq_false_iff_not, beq_iff_eq, beq_eq_false_iff_ne, bne_iff_ne, bne_eq_false_iff_eq, Bool.not_eq_true', Bool.not_eq_false', Bool.not_true, Bool.not_false, gt_iff_lt, ge_iff_le, Int.not_lt, Int.not_le, ne_eq, Bool.false_eq_true, not_true_eq_false, reduceCtorEq] at hs_) <;> (try (exfalso; first | exact hs_ | (exact hs_ rfl) | omega))) ))
      all_goals refine ⟨?_, ext_⟩
      all_goals
        congr 2
        rw [Bool.eq_iff_iff, okR_iff, hO]
        simp only [decide_eq_true_eq, Bool.false_eq_true]
        constructor <;> intro h_ <;> first | omega | exact h_.elim
  · have e1 : okE r.t = false := decide_eq_false hE
    have hO : okR r = false := decide_eq_false (fun h => hE h.1)
    rw [hO]
    (repeat' (first | (refine WL_is ?_; first | refine WL_nil ?_ | (refine WL_isLoad ?_; refine WL_load rfl rfl rfl blk_ as_ ?_) | refine wl_ ?_ | (refine WL_isFn ?_; refine WL_call rfl rfl rfl (pe _ _ e1) ?_; rintro _ w_ ⟨rfl, hx_⟩; have hz_ := hx_.size; refine ⟨_, rfl, ?_⟩)) | (refine WC_is ?_; first | refine WC_seq (fun _ _ => ?_) | refine wc_ ?_) | (refine WQ_is ?_; first | refine wq_ ?_) | (refine Kb.mk ?_; intro b_ w_ hb_ hl_ hx_ hB_) | (refine Ks.mk ?_; intro w_ hz_ hx_ hB_) | (refine Ko.mk ?_; intro A_ c_ w_ hx_ ho_ hr_; have hz_ := hx_.size; have hq_ := own_cap ho_) | (refine Kp.mk ?_; intro A_ c_ w_ hx_ hz_ ho_ hr_ hp_; have hq_ := own_cap ho_) | (refine Kl.mk ?_; intro b_ w_ hb_ hl_ hx_ hB_ ho_) | (refine Km.mk ?_; intro b_ w_ hb_ hl_ hx_ ho_) | (refine Ke.mk ?_; intro r_ hr_) | (refine Kg.mk ?_ ?_ <;> intro hs_ <;> (try simp only [strEq_t, strEq_f, decide_eq_true_eq, decide_eq_false_iff_not, beq_iff_eq, beq_eq_false_iff_ne, bne_iff_ne, bne_eq_false_iff_eq, Bool.not_eq_true', Bool.not_eq_false', Bool.not_true, Bool.not_false, gt_iff_lt, ge_iff_le, Int.not_lt, Int.not_le, ne_eq, Bool.false_eq_true, not_true_eq_false, reduceCtorEq] at hs_) <;> (try (exfalso; first | exact hs_ | (exact hs_ rfl) | omega))) ))
    all_goals exact ⟨by first | rfl | (congr 2; exact decide_eq_false om_), ext_⟩
end Go.Proofs.Ytejdjpjaahfnaaa.K
