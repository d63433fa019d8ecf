/- Chapter 14 (slot): the law SlotCrashes. Seat-free. -/
import Derived.Test.YtejdjpjaahfnaaaU13
import Derived.Test.YtejdjpjaahfnaaaV14
set_option linter.unusedVariables false
set_option linter.unusedSimpArgs false
set_option maxHeartbeats 4000000
set_option maxRecDepth 20000
namespace Go.Proofs.Ytejdjpjaahfnaaa.K
open Go.RowKit
attribute [local irreducible] strEq strOfNums Calls WL WC WQ WX Code.wp wpList bodyPost
theorem open_bb {w : World} {cs : List Value} (h : RArr 2 1 RBool w cs) : ∃ b0 b1, cs = [.bool b0, .bool b1] := by
  obtain ⟨hl, h⟩ := h
  obtain ⟨x, h0⟩ := h 0 om_
  obtain ⟨y, h1⟩ := h 1 om_
  match cs, hl with
  | [u, v], _ =>
    simp at h0 h1
    subst h0; subst h1
    exact ⟨x, y, rfl⟩
abbrev RcT : TypeId := 26
theorem rt_b {t : Bool} {x y : List Int} (hx : Byt x) (hy : Byt y) : Byt (rt0 t x y) ∧ Byt (rt1 t x y) := by cases t <;> constructor <;> assumption
theorem slot_CloseM_calls {a b : List Int} {n : Int} {m : Nat} (ha : Byt a) (hb : Byt b) (h : (m = 0 ∧ cloS a b = []) ∨ (m = 2 ∧ cloS a b = erL n)) (A B : Option Addr) (c d : Nat) (w : World) (hc : 128 ≤ c ∧ c ≤ 9223372036854775807) (hC : Cells w A (a.map (.int .u8))) (hc2 : 128 ≤ d ∧ d ≤ 9223372036854775807) (hD : Cells w B (b.map (.int .u8))) :
    Calls Try.prog 29 #[.slice A 128 c, .slice B 128 d] w fun e w' => ∃ A c B2 c2 B4 c4, e = .returned (.slice A m c) ∧ (m = 2 → Cells w' A (erC n B2 B4 c2 c4)) ∧ (128 ≤ c2 ∧ c2 ≤ 9223372036854775807) ∧ (m = 2 → Cells w' B2 (z128.map (.int .u8))) ∧ Ext w w' := by
  rcases h with ⟨rfl, h⟩ | ⟨rfl, h⟩
  · refine (slot_CloseN_calls a b A B 128 c 128 d w ha.1 ha.2 hc hC hb.1 hb.2 hc2 hD h).mono fun e w' h1 => ?_
    obtain ⟨A, c, rfl, hx⟩ := h1
    exact ⟨A, c, none, 128, none, 0, rfl, fun h => absurd h (by decide), by decide, fun h => absurd h (by decide), hx⟩
  · refine (slot_CloseE_calls a b A B 128 c 128 d w ha.1 ha.2 hc hC hb.1 hb.2 hc2 hD h).mono fun e w' h1 => ?_
    obtain ⟨A, c, B2, c2, B4, c4, rfl, h2, h3, h4, hx⟩ := h1
    exact ⟨A, c, B2, c2, B4, c4, rfl, fun _ => h2, h3.2.1, fun _ => h4, hx⟩
theorem cwS_end {t : Bool} {X Y Z X2 : List Int} {de : Int} {m : Nat} (h : (m = 0 ∧ X2 = X) ∨ (m = 2 ∧ X2 = Z)) : ∃ de2, cwS t X Y Z de m = dvS t X2 Y [] [] de2 := by
  rcases h with ⟨rfl, rfl⟩ | ⟨rfl, rfl⟩
  · exact ⟨_, rfl⟩
  · exact ⟨_, rfl⟩
theorem rt_z {s : Int} {t : Bool} (hst : (s = 0 ∧ t = false) ∨ (s = 1 ∧ t = true)) {X2 Y Z : List Int} {at' : Int} (h : (at' = s ∧ Y = Z) ∨ (at' = 1 - s ∧ X2 = Z)) : (at' = 1 → rt0 t X2 Y = Z) ∧ (¬ at' = 1 → rt1 t X2 Y = Z) := by
  rcases hst with ⟨rfl, rfl⟩ | ⟨rfl, rfl⟩ <;> rcases h with ⟨rfl, rfl⟩ | ⟨rfl, rfl⟩ <;> constructor <;> intro h <;> first | rfl | (exfalso; omega)
theorem WC_cutK {P : Program} {Q Q' : Exit → Act → World → Prop} {X : Type} {x y : Code} {n : Nat} {E EL : Env} {w : World} {K : Act → World → Prop} (hK : ∀ n E w, WC P Q y n E w → ∀ a, Agr n E a → K a w) (L : List Nat) (hL : pickO E L = some EL) (chg : X → Env) (I : X → World → Prop)
    (h1 : ∀ K : Act → World → Prop, (∀ z n' E'' w', n' = n → I z w' → (∀ t v, lk (chg z ++ EL) t = some v → lk E'' t = some v) → ∀ a, Agr n' E'' a → K a w') → WC P (Exit.then K Q') x n E w)
    (h2 : ∀ z w', I z w' → WC P Q y n (chg z ++ EL) w') : WC P (Exit.then K Q') x n E w :=
  h1 K (fun z n' E'' w' hn hI hE a ha => hK n (chg z ++ EL) w' (h2 z w' hI) a ⟨hn ▸ ha.1, ha.2.1, fun t v hv => ha.2.2 t v (hE t v hv)⟩)
theorem SlotCrashes_calls (w : World) (a b : Rc) (n l : Int) (b0 b1 : Bool) (ha : RcW a) (hb : RcW b) (hn : 0 ≤ n ∧ n ≤ 255) (hl : 0 ≤ l ∧ l ≤ 255) :
    Calls Try.prog 9 #[.agg (rcC a).toArray, .agg (rcC b).toArray, .int .u8 n, .int .u8 l, .agg #[.bool b0, .bool b1]] w fun e w' => e = .returned (.bool true) ∧ Ext w w' := by
  have la := rcC_length ha
  have pa := rcC_one a
  have lb := rcC_length hb
  have pb := rcC_one b
  have sa := src ha
  have sb := src hb
  have p2 : ∀ u ∈ ([.bool b0, .bool b1] : List Value), u.oneCell' = true := by
    intro u hu
    simp only [List.mem_cons, List.not_mem_nil, or_false] at hu
    rcases hu with rfl | rfl <;> rfl
  have l0 := rcC_length RcW.zero
  have p0 := rcC_one rc0
  have k1 := fun w => root_Check_calls a w ha _ rfl
  have k2 := fun w => root_Check_calls b w hb _ rfl
  by_cases hA : OkR a
  case neg =>
    rw [show okR a = false from decide_eq_false hA] at k1
    refine calls_W (args := [.agg (rcC a).toArray, .agg (rcC b).toArray, .int .u8 n, .int .u8 l, .agg #[.bool b0, .bool b1]]) Try.func9 rfl 234 rfl ?_
    (repeat' (first | (refine WL_is ?_; first | refine WL_nil ?_ | refine wl_ ?_ | (refine WL_isFn ?_; refine WL_call rfl rfl rfl (law14_awake_calls _) ?_; rintro _ w_ ⟨rfl, hx_⟩; have hz_ := hx_.size; refine ⟨_, rfl, ?_⟩) | (refine WL_isFn ?_; refine WL_call rfl rfl rfl (k1 _) ?_; rintro _ w_ ⟨rfl, hx_⟩; have hz_ := hx_.size; refine ⟨_, rfl, ?_⟩)) | (refine WC_is ?_; first | refine WC_seq (fun _ _ => ?_) | refine wc_ ?_) | (refine WQ_is ?_; first | refine wq_ ?_ | refine WQ_bodyCTT (Or.inl rfl) rfl rfl rfl rfl blk_ lr_ ?_ | refine WQ_bodyCTT (Or.inr rfl) rfl rfl rfl rfl blk_ lr_ ?_) | (refine Kb.mk ?_; intro b_ w_ hb_ hl_ hx_ hB_) | (refine Ks.mk ?_; intro w_ hz_ hx_ hB_) | (refine Ko.mk ?_; intro A_ c_ w_ hx_ ho_ hr_; have hz_ := hx_.size; have hq_ := own_cap ho_) | (refine Kp.mk ?_; intro A_ c_ w_ hx_ hz_ ho_ hr_ hp_; have hq_ := own_cap ho_) | (refine Kl.mk ?_; intro b_ w_ hb_ hl_ hx_ hB_ ho_) | (refine Km.mk ?_; intro b_ w_ hb_ hl_ hx_ ho_) | (refine Ke.mk ?_; intro r_ hr_) | (refine Kg.mk ?_ ?_ <;> intro hs_ <;> (try simp only [strEq_t, strEq_f, decide_eq_true_eq, decide_eq_false_iff_not, beq_iff_eq, beq_eq_false_iff_ne, bne_iff_ne, bne_eq_false_iff_eq, Bool.not_eq_true', Bool.not_eq_false', Bool.not_true, Bool.not_false, gt_iff_lt, ge_iff_le, Int.not_lt, Int.not_le, ne_eq, Bool.false_eq_true, not_true_eq_false, reduceCtorEq] at hs_) <;> (try (exfalso; first | exact hs_ | (exact hs_ rfl) | omega))) ))
    all_goals exact ⟨by first | rfl | simp, ext_⟩
  rw [okR_iff.2 hA] at k1
  by_cases hB : OkR b
  case neg =>
    rw [show okR b = false from decide_eq_false hB] at k2
    refine calls_W (args := [.agg (rcC a).toArray, .agg (rcC b).toArray, .int .u8 n, .int .u8 l, .agg #[.bool b0, .bool b1]]) Try.func9 rfl 234 rfl ?_
    (repeat' (first | (refine WL_is ?_; first | refine WL_nil ?_ | refine wl_ ?_ | (refine WL_isFn ?_; refine WL_call rfl rfl rfl (law14_awake_calls _) ?_; rintro _ w_ ⟨rfl, hx_⟩; have hz_ := hx_.size; refine ⟨_, rfl, ?_⟩) | (refine WL_isFn ?_; refine WL_call rfl rfl rfl (k1 _) ?_; rintro _ w_ ⟨rfl, hx_⟩; have hz_ := hx_.size; refine ⟨_, rfl, ?_⟩) | (refine WL_isFn ?_; refine WL_call rfl rfl rfl (k2 _) ?_; rintro _ w_ ⟨rfl, hx_⟩; have hz_ := hx_.size; refine ⟨_, rfl, ?_⟩)) | (refine WC_is ?_; first | refine WC_seq (fun _ _ => ?_) | refine wc_ ?_) | (refine WQ_is ?_; first | refine wq_ ?_ | refine WQ_bodyCTT (Or.inl rfl) rfl rfl rfl rfl blk_ lr_ ?_ | refine WQ_bodyCTT (Or.inr rfl) rfl rfl rfl rfl blk_ lr_ ?_) | (refine Kb.mk ?_; intro b_ w_ hb_ hl_ hx_ hB_) | (refine Ks.mk ?_; intro w_ hz_ hx_ hB_) | (refine Ko.mk ?_; intro A_ c_ w_ hx_ ho_ hr_; have hz_ := hx_.size; have hq_ := own_cap ho_) | (refine Kp.mk ?_; intro A_ c_ w_ hx_ hz_ ho_ hr_ hp_; have hq_ := own_cap ho_) | (refine Kl.mk ?_; intro b_ w_ hb_ hl_ hx_ hB_ ho_) | (refine Km.mk ?_; intro b_ w_ hb_ hl_ hx_ ho_) | (refine Ke.mk ?_; intro r_ hr_) | (refine Kg.mk ?_ ?_ <;> intro hs_ <;> (try simp only [strEq_t, strEq_f, decide_eq_true_eq, decide_eq_false_iff_not, beq_iff_eq, beq_eq_false_iff_ne, bne_iff_ne, bne_eq_false_iff_eq, Bool.not_eq_true', Bool.not_eq_false', Bool.not_true, Bool.not_false, gt_iff_lt, ge_iff_le, Int.not_lt, Int.not_le, ne_eq, Bool.false_eq_true, not_true_eq_false, reduceCtorEq] at hs_) <;> (try (exfalso; first | exact hs_ | (exact hs_ rfl) | omega))) ))
    all_goals exact ⟨by first | rfl | simp, ext_⟩
  rw [okR_iff.2 hB] at k2
  by_cases hE : a.ep < b.ep
  case neg =>
    refine calls_W (args := [.agg (rcC a).toArray, .agg (rcC b).toArray, .int .u8 n, .int .u8 l, .agg #[.bool b0, .bool b1]]) Try.func9 rfl 234 rfl ?_
    (repeat' (first | (refine WL_is ?_; first | refine WL_nil ?_ | refine wl_ ?_ | (refine WL_isFn ?_; refine WL_call rfl rfl rfl (law14_awake_calls _) ?_; rintro _ w_ ⟨rfl, hx_⟩; have hz_ := hx_.size; refine ⟨_, rfl, ?_⟩) | (refine WL_isFn ?_; refine WL_call rfl rfl rfl (k1 _) ?_; rintro _ w_ ⟨rfl, hx_⟩; have hz_ := hx_.size; refine ⟨_, rfl, ?_⟩) | (refine WL_isFn ?_; refine WL_call rfl rfl rfl (k2 _) ?_; rintro _ w_ ⟨rfl, hx_⟩; have hz_ := hx_.size; refine ⟨_, rfl, ?_⟩)) | (refine WC_is ?_; first | ((fail_if_success (refine WC_isReg (id := 4) ?_)); refine WC_seq (fun _ _ => ?_)) | refine wc_ ?_) | (refine WQ_is ?_; first | refine wq_ ?_ | refine WQ_bodyCTT (Or.inl rfl) rfl rfl rfl rfl blk_ lr_ ?_ | refine WQ_bodyCTT (Or.inr rfl) rfl rfl rfl rfl blk_ lr_ ?_) | (refine Kb.mk ?_; intro b_ w_ hb_ hl_ hx_ hB_) | (refine Ks.mk ?_; intro w_ hz_ hx_ hB_) | (refine Ko.mk ?_; intro A_ c_ w_ hx_ ho_ hr_; have hz_ := hx_.size; have hq_ := own_cap ho_) | (refine Kp.mk ?_; intro A_ c_ w_ hx_ hz_ ho_ hr_ hp_; have hq_ := own_cap ho_) | (refine Kl.mk ?_; intro b_ w_ hb_ hl_ hx_ hB_ ho_) | (refine Km.mk ?_; intro b_ w_ hb_ hl_ hx_ ho_) | (refine Ke.mk ?_; intro r_ hr_) | (refine Kg.mk ?_ ?_ <;> intro hs_ <;> (try simp only [strEq_t, strEq_f, decide_eq_true_eq, decide_eq_false_iff_not, beq_iff_eq, beq_eq_false_iff_ne, bne_iff_ne, bne_eq_false_iff_eq, Bool.not_eq_true', Bool.not_eq_false', Bool.not_true, Bool.not_false, gt_iff_lt, ge_iff_le, Int.not_lt, Int.not_le, ne_eq, Bool.false_eq_true, not_true_eq_false, reduceCtorEq] at hs_) <;> (try (exfalso; first | exact hs_ | (exact hs_ rfl) | omega))) ))
    all_goals first | (exfalso; omega) | exact ⟨by first | rfl | simp, ext_⟩
  have hne : ¬ rcC a = rcC b := fun h => by
    have h1 : (rcC a)[0]? = (rcC b)[0]? := by rw [h]
    simp [rcC] at h1
    omega
  obtain ⟨k, hk, hk4⟩ : ∃ k : Nat, l % 5 = (k : Int) ∧ k ≤ 4 := ⟨(l % 5).toNat, by omega, by omega⟩
  obtain ⟨s, t, hs, hst⟩ : ∃ (s : Int) (t : Bool), n % 2 = s ∧ ((s = 0 ∧ t = false) ∨ (s = 1 ∧ t = true)) := by
    rcases (show n % 2 = 0 ∨ n % 2 = 1 by omega) with h | h
    · exact ⟨0, false, h, .inl ⟨rfl, rfl⟩⟩
    · exact ⟨1, true, h, .inr ⟨rfl, rfl⟩⟩
  have hs01 : s = 0 ∨ s = 1 := hst.imp (·.1) (·.1)
  have a1 := fun w => root_Write_calls a w ha
  rw [(wrB_t hA).1, (wrB_t hA).2, wrA_length ha] at a1
  have oa : Byt (wrA a) := ⟨wrA_length ha, wrA_bytes hA ha⟩
  have ob : Byt (wrA b) := ⟨wrA_length hb, wrA_bytes hB hb⟩
  have oz : Byt z128 := z128_ok
  obtain ⟨X, Y, X2, r, at', m, de, hC, hd, cr⟩ := twS_crash hst hA ha hB hb hE hk4 b0 b1
  obtain ⟨hq, hc1, hm, hc2, hm2, hz, hX, hY, hX2⟩ := hC
  have hr : RcW r := hq.elim (fun h => h.2.1 ▸ ha) (fun h => h.2.1 ▸ hb)
  have lr := rcC_length hr
  have pr := rcC_one r
  have sr := src hr
  have rnd := fun i hi B1 B2 B3 B4 c1 c2 c3 c4 h1 h2 => twS_round hst oa ob oz (i := i) hi (B1 := B1) (B2 := B2) B3 B4 (c1 := c1) (c2 := c2) c3 c4 h1 h2
  have rne := fun i hi B2 B4 c2 c4 h2 => cwS_round hst hX hY oz hd (i := i) hi (B2 := B2) B4 (c2 := c2) c4 h2
  have f1 := rt_b (t := t) hX hY
  have f2 := rt_b (t := t) hX2 hY
  have ch := fun A B c d w hc hC hd hD => slot_Choose_calls (rt0 t X Y) (rt1 t X Y) A B 128 c 128 d w f1.1.1 f1.1.2 hc hC f1.2.1 f1.2.2 hd hD
  rw [hc1.1, hc1.2.1, hc1.2.2] at ch
  have ch2 := fun A B c d w hc hC hd hD => slot_Choose_calls (rt0 t X2 Y) (rt1 t X2 Y) A B 128 c 128 d w f2.1.1 f2.1.2 hc hC f2.2.1 f2.2.2 hd hD
  rw [hc2.1, hc2.2.1, hc2.2.2] at ch2
  have cl := fun A B c d w hc hC hd hD => slot_CloseM_calls (m := m) f1.1 f1.2 (hm.imp (fun h => ⟨h.1, h.2.2⟩) (fun h => ⟨h.1, h.2.2⟩)) A B c d w hc hC hd hD
  have cl2 := fun A B c d w hc hC hd hD => slot_CloseN_calls (rt0 t X2 Y) (rt1 t X2 Y) A B 128 c 128 d w f2.1.1 f2.1.2 hc hC f2.2.1 f2.2.2 hd hD hm2
  have er := fun A c w hC => root_Erased_calls z128 A 128 c w rfl hC true er_z128
  have t1 := fun w => slot_TurnT_calls b s w hb hs01 hB
  have m1 := fun A B c k w hc hk hC hD => law14_made_calls (wrA a) z128 A B c k w oa oz hc hk hC hD
  have m2 := fun A B c k w hc hk hC hD => law14_made_calls z128 (wrA a) A B c k w oz oa hc hk hC hD
  have hm' : (m = 0 ∧ X2 = X) ∨ (m = 2 ∧ X2 = z128) := hm.imp (fun h => ⟨h.1, h.2.1⟩) (fun h => ⟨h.1, h.2.1⟩)
  have hrz := rt_z hst hz
  clear hm hc1 hc2 hm2 hz f1 f2
  obtain ⟨Z, hZ⟩ : ∃ Z, z128 = Z := ⟨_, rfl⟩
  simp only [hZ] at m1 m2 t1 rnd rne cl er oz cr hm' hrz
  generalize wrA a = Wo at *
  generalize wrA b = Wn at *
  have hd0 : (s = 1 ∧ dvS t Wo Z [] [] 3 = dvA Z Wo [] [] 3) ∨ (¬ s = 1 ∧ dvS t Wo Z [] [] 3 = dvA Wo Z [] [] 3) := by
    rcases hst with ⟨h, rfl⟩ | ⟨h, rfl⟩
    · exact .inr ⟨by omega, rfl⟩
    · exact .inl ⟨h, rfl⟩
  refine calls_W (args := [.agg (rcC a).toArray, .agg (rcC b).toArray, .int .u8 n, .int .u8 l, .agg #[.bool b0, .bool b1]]) Try.func9 rfl 234 rfl ?_
  (repeat' (first | (refine WL_is ?_; first | refine WL_nil ?_ | refine wl_ ?_ ) | (refine WC_is ?_; first | ((fail_if_success (refine WC_isReg (id := 1) ?_)); refine WC_seq (fun _ _ => ?_)) | refine wc_ ?_) | (refine WQ_is ?_; first | refine wq_ ?_ | refine WQ_bodyCTT (Or.inl rfl) rfl rfl rfl rfl blk_ lr_ ?_ | refine WQ_bodyCTT (Or.inr rfl) rfl rfl rfl rfl blk_ lr_ ?_) | (refine Kb.mk ?_; intro b_ w_ hb_ hl_ hx_ hB_) | (refine Ks.mk ?_; intro w_ hz_ hx_ hB_) | (refine Ko.mk ?_; intro A_ c_ w_ hx_ ho_ hr_; have hz_ := hx_.size; have hq_ := own_cap ho_) | (refine Kp.mk ?_; intro A_ c_ w_ hx_ hz_ ho_ hr_ hp_; have hq_ := own_cap ho_) | (refine Kl.mk ?_; intro b_ w_ hb_ hl_ hx_ hB_ ho_) | (refine Km.mk ?_; intro b_ w_ hb_ hl_ hx_ ho_) | (refine Ke.mk ?_; intro r_ hr_) | (refine Kg.mk ?_ ?_ <;> intro hs_ <;> (try simp only [strEq_t, strEq_f, decide_eq_true_eq, decide_eq_false_iff_not, beq_iff_eq, beq_eq_false_iff_ne, bne_iff_ne, bne_eq_false_iff_eq, Bool.not_eq_true', Bool.not_eq_false', Bool.not_true, Bool.not_false, gt_iff_lt, ge_iff_le, Int.not_lt, Int.not_le, ne_eq, Bool.false_eq_true, not_true_eq_false, reduceCtorEq] at hs_) <;> (try (exfalso; first | exact hs_ | (exact hs_ rfl) | omega))) ))
  rename_i bO wO hbO hlO hxO hBO bN wN hbN hlN hxN hBN
  obtain ⟨bW, rfl⟩ : ∃ x, x = b_ := ⟨_, rfl⟩
  have hBO1 : Blk w_ bO (rcC a) RcT := blk_
  have hBN1 : Blk w_ bN (rcC b) RcT := blk_
  have hBW1 : Blk w_ bW [.bool b0, .bool b1] NwT := hB_
  have uO := hBO1.lt
  have uN := hBN1.lt
  have uW := hBW1.lt
  have vW : w.heap.size ≤ bO ∧ w.heap.size ≤ bN ∧ w.heap.size ≤ bW := by omega
  (repeat' (first | (refine WL_is ?_; first | refine WL_nil ?_ | refine wl_ ?_ | (refine WL_isFn ?_; refine WL_call rfl rfl rfl (law14_awake_calls _) ?_; rintro _ w_ ⟨rfl, hx_⟩; have hz_ := hx_.size; refine ⟨_, rfl, ?_⟩) | (refine WL_isFn ?_; refine WL_call rfl rfl rfl (k1 _) ?_; rintro _ w_ ⟨rfl, hx_⟩; have hz_ := hx_.size; refine ⟨_, rfl, ?_⟩) | (refine WL_isFn ?_; refine WL_call rfl rfl rfl (k2 _) ?_; rintro _ w_ ⟨rfl, hx_⟩; have hz_ := hx_.size; refine ⟨_, rfl, ?_⟩)) | (refine WC_is ?_; first | ((fail_if_success (refine WC_isReg (id := 5) ?_)); refine WC_seq (fun _ _ => ?_)) | refine wc_ ?_) | (refine WQ_is ?_; first | refine wq_ ?_ | refine WQ_bodyCTT (Or.inl rfl) rfl rfl rfl rfl blk_ lr_ ?_ | refine WQ_bodyCTT (Or.inr rfl) rfl rfl rfl rfl blk_ lr_ ?_) | (refine Kb.mk ?_; intro b_ w_ hb_ hl_ hx_ hB_) | (refine Ks.mk ?_; intro w_ hz_ hx_ hB_) | (refine Ko.mk ?_; intro A_ c_ w_ hx_ ho_ hr_; have hz_ := hx_.size; have hq_ := own_cap ho_) | (refine Kp.mk ?_; intro A_ c_ w_ hx_ hz_ ho_ hr_ hp_; have hq_ := own_cap ho_) | (refine Kl.mk ?_; intro b_ w_ hb_ hl_ hx_ hB_ ho_) | (refine Km.mk ?_; intro b_ w_ hb_ hl_ hx_ ho_) | (refine Ke.mk ?_; intro r_ hr_) | (refine Kg.mk ?_ ?_ <;> intro hs_ <;> (try simp only [strEq_t, strEq_f, decide_eq_true_eq, decide_eq_false_iff_not, beq_iff_eq, beq_eq_false_iff_ne, bne_iff_ne, bne_eq_false_iff_eq, Bool.not_eq_true', Bool.not_eq_false', Bool.not_true, Bool.not_false, gt_iff_lt, ge_iff_le, Int.not_lt, Int.not_le, ne_eq, Bool.false_eq_true, not_true_eq_false, reduceCtorEq] at hs_) <;> (try (exfalso; first | exact hs_ | (exact hs_ rfl) | omega))) ))
  all_goals first | (exfalso; omega) | skip
  rw [hs]
  (repeat' (first | (refine WL_is ?_; first | refine WL_nil ?_ | (refine WL_makeI 128 hZ rfl rfl rfl rfl rfl rfl (by decide) (by decide) ?_; intro bM_ wM_ hbM_ hlM_ hxM_ hoM_ hrM_) | refine wl_ ?_ | (refine WL_isFn ?_; refine WL_call rfl rfl rfl (a1 _) ?_; rintro _ w_ ⟨A_, c_, rfl, ho_, hx_⟩; have hz_ := hx_.size; have hr_ := own_rd ho_; have hq_ := own_cap ho_; refine ⟨_, rfl, ?_⟩) | (refine WL_isFn ?_; refine WL_call rfl rfl rfl (m1 _ _ _ _ _ om_ om_ cells_ cells_) ?_; rintro _ w_ ⟨sD_, zD_, rfl, hD_, hx_⟩; have hz_ := hx_.size; refine ⟨_, rfl, ?_⟩)) | (refine WC_is ?_; first | ((fail_if_success (refine WC_isReg (id := 8) ?_)); refine WC_seq (fun _ _ => ?_)) | refine wc_ ?_) | (refine WQ_is ?_; first | refine wq_ ?_ | refine WQ_bodyCTT (Or.inl rfl) rfl rfl rfl rfl blk_ lr_ ?_ | refine WQ_bodyCTT (Or.inr rfl) rfl rfl rfl rfl blk_ lr_ ?_) | (refine Kb.mk ?_; intro b_ w_ hb_ hl_ hx_ hB_) | (refine Ks.mk ?_; intro w_ hz_ hx_ hB_) | (refine Ko.mk ?_; intro A_ c_ w_ hx_ ho_ hr_; have hz_ := hx_.size; have hq_ := own_cap ho_) | (refine Kp.mk ?_; intro A_ c_ w_ hx_ hz_ ho_ hr_ hp_; have hq_ := own_cap ho_) | (refine Kl.mk ?_; intro b_ w_ hb_ hl_ hx_ hB_ ho_) | (refine Km.mk ?_; intro b_ w_ hb_ hl_ hx_ ho_) | (refine Ke.mk ?_; intro r_ hr_) | (refine Kg.mk ?_ ?_ <;> intro hs_ <;> (try simp only [strEq_t, strEq_f, decide_eq_true_eq, decide_eq_false_iff_not, beq_iff_eq, beq_eq_false_iff_ne, bne_iff_ne, bne_eq_false_iff_eq, Bool.not_eq_true', Bool.not_eq_false', Bool.not_true, Bool.not_false, gt_iff_lt, ge_iff_le, Int.not_lt, Int.not_le, ne_eq, Bool.false_eq_true, not_true_eq_false, reduceCtorEq] at hs_) <;> (try (exfalso; first | exact hs_ | (exact hs_ rfl) | omega))) ))
  obtain ⟨bd, rfl⟩ : ∃ x, x = b_ := ⟨_, rfl⟩
  have hbd : w.heap.size ≤ bd ∧ bO < bd ∧ bN < bd ∧ bW < bd := by omega
  refine WC_cutK (X := Ds × List (Zo × Sl)) as_ [3, 5, 6, 9, 11, 12, 16] rfl (fun _ => []) (fun x w' => (Ext w w' ∧ bd < w'.heap.size) ∧ Blk w' bd (dvC (dvS t Wo Z [] [] 3) x.1) DeT ∧ DRw 0 w' (dvS t Wo Z [] [] 3) x.1 x.2 ∧ Blk w' bO (rcC a) RcT ∧ Blk w' bN (rcC b) RcT ∧ Blk w' bW [.bool b0, .bool b1] NwT) (fun K2 hK2 => ?_) (fun x w3 hI => ?_)
  · (repeat' (first | (refine WL_is ?_; first | refine WL_nil ?_ | refine wl_ ?_ | (refine WL_isFn ?_; refine WL_call rfl rfl rfl (m2 _ _ _ _ _ om_ om_ cells_ cells_) ?_; rintro _ w_ ⟨sD_, zD_, rfl, hD_, hx_⟩; have hz_ := hx_.size; refine ⟨_, rfl, ?_⟩)) | (refine WC_is ?_; first | refine WC_seq (fun _ _ => ?_) | refine wc_ ?_) | (refine WQ_is ?_; first | refine wq_ ?_ | refine WQ_bodyCTT (Or.inl rfl) rfl rfl rfl rfl blk_ lr_ ?_ | refine WQ_bodyCTT (Or.inr rfl) rfl rfl rfl rfl blk_ lr_ ?_) | (refine Kb.mk ?_; intro b_ w_ hb_ hl_ hx_ hB_) | (refine Ks.mk ?_; intro w_ hz_ hx_ hB_) | (refine Ko.mk ?_; intro A_ c_ w_ hx_ ho_ hr_; have hz_ := hx_.size; have hq_ := own_cap ho_) | (refine Kp.mk ?_; intro A_ c_ w_ hx_ hz_ ho_ hr_ hp_; have hq_ := own_cap ho_) | (refine Kl.mk ?_; intro b_ w_ hb_ hl_ hx_ hB_ ho_) | (refine Km.mk ?_; intro b_ w_ hb_ hl_ hx_ ho_) | (refine Ke.mk ?_; intro r_ hr_) | (refine Kg.mk ?_ ?_ <;> intro hs_ <;> (try simp only [strEq_t, strEq_f, decide_eq_true_eq, decide_eq_false_iff_not, beq_iff_eq, beq_eq_false_iff_ne, bne_iff_ne, bne_eq_false_iff_eq, Bool.not_eq_true', Bool.not_eq_false', Bool.not_true, Bool.not_false, gt_iff_lt, ge_iff_le, Int.not_lt, Int.not_le, ne_eq, Bool.false_eq_true, not_true_eq_false, reduceCtorEq] at hs_) <;> (try (exfalso; first | exact hs_ | (exact hs_ rfl) | omega))) ))
    all_goals
      rcases hd0 with ⟨hs1, hd0⟩ | ⟨hs1, hd0⟩ <;> first | (exfalso; omega) | skip
      have hBd : Blk w_ bd (dvC (dvS t Wo Z [] [] 3) sD_) DeT := by rw [hd0]; exact blk_
      have hDD : DRw 0 w_ (dvS t Wo Z [] [] 3) sD_ zD_ := by rw [hd0]; exact dr_
      exact WQ_cutX hK2 (sD_, zD_) rfl env_ ⟨⟨ext_, om_⟩, hBd, hDD, blk_, blk_, blk_⟩
  obtain ⟨sD, zD⟩ := x
  obtain ⟨⟨hx3, hl3⟩, hBd, hDD, hBO3, hBN3, hBW3⟩ := hI
  dsimp only at hBd hDD
  have hz3 := hx3.size
  obtain ⟨ZA, Zc, A0, c0, A1, c1, g0, g1, rfl, _, _, _, _⟩ := devS_open hDD oa.1 oz.1
  (repeat' (first | (refine WL_is ?_; first | refine WL_nil ?_ | refine wl_ ?_ | (refine WL_isFn ?_; refine WL_call rfl rfl rfl (t1 _) ?_; rintro _ w_ ⟨A1_, c1_, B1_, e1_, B2_, e2_, B3_, e3_, B4_, e4_, rfl, hr1_, hq1_, hd1_, hd2_, hx_⟩; have hz_ := hx_.size; refine ⟨_, rfl, ?_⟩)) | (refine WC_is ?_; first | ((fail_if_success (refine WC_isReg (id := 12) ?_)); refine WC_seq (fun _ _ => ?_)) | refine wc_ ?_) | (refine WQ_is ?_; first | refine wq_ ?_ | refine WQ_bodyCTT (Or.inl rfl) rfl rfl rfl rfl blk_ lr_ ?_ | refine WQ_bodyCTT (Or.inr rfl) rfl rfl rfl rfl blk_ lr_ ?_) | (refine Kb.mk ?_; intro b_ w_ hb_ hl_ hx_ hB_) | (refine Ks.mk ?_; intro w_ hz_ hx_ hB_) | (refine Ko.mk ?_; intro A_ c_ w_ hx_ ho_ hr_; have hz_ := hx_.size; have hq_ := own_cap ho_) | (refine Kp.mk ?_; intro A_ c_ w_ hx_ hz_ ho_ hr_ hp_; have hq_ := own_cap ho_) | (refine Kl.mk ?_; intro b_ w_ hb_ hl_ hx_ hB_ ho_) | (refine Km.mk ?_; intro b_ w_ hb_ hl_ hx_ ho_) | (refine Ke.mk ?_; intro r_ hr_) | (refine Kg.mk ?_ ?_ <;> intro hs_ <;> (try simp only [strEq_t, strEq_f, decide_eq_true_eq, decide_eq_false_iff_not, beq_iff_eq, beq_eq_false_iff_ne, bne_iff_ne, bne_eq_false_iff_eq, Bool.not_eq_true', Bool.not_eq_false', Bool.not_true, Bool.not_false, gt_iff_lt, ge_iff_le, Int.not_lt, Int.not_le, ne_eq, Bool.false_eq_true, not_true_eq_false, reduceCtorEq] at hs_) <;> (try (exfalso; first | exact hs_ | (exact hs_ rfl) | omega))) ))
  rw [hk]
  (repeat' (first | (refine WL_is ?_; first | refine WL_nil ?_ | refine wl_ ?_ ) | (refine WC_is ?_; first | refine WC_seq (fun _ _ => ?_) | refine wc_ ?_) | (refine WQ_is ?_; first | refine wq_ ?_ | refine WQ_bodyCTT (Or.inl rfl) rfl rfl rfl rfl blk_ lr_ ?_ | refine WQ_bodyCTT (Or.inr rfl) rfl rfl rfl rfl blk_ lr_ ?_) | (refine Kb.mk ?_; intro b_ w_ hb_ hl_ hx_ hB_) | (refine Ks.mk ?_; intro w_ hz_ hx_ hB_) | (refine Ko.mk ?_; intro A_ c_ w_ hx_ ho_ hr_; have hz_ := hx_.size; have hq_ := own_cap ho_) | (refine Kp.mk ?_; intro A_ c_ w_ hx_ hz_ ho_ hr_ hp_; have hq_ := own_cap ho_) | (refine Kl.mk ?_; intro b_ w_ hb_ hl_ hx_ hB_ ho_) | (refine Km.mk ?_; intro b_ w_ hb_ hl_ hx_ ho_) | (refine Ke.mk ?_; intro r_ hr_) | (refine Kg.mk ?_ ?_ <;> intro hs_ <;> (try simp only [strEq_t, strEq_f, decide_eq_true_eq, decide_eq_false_iff_not, beq_iff_eq, beq_eq_false_iff_ne, bne_iff_ne, bne_eq_false_iff_eq, Bool.not_eq_true', Bool.not_eq_false', Bool.not_true, Bool.not_false, gt_iff_lt, ge_iff_le, Int.not_lt, Int.not_le, ne_eq, Bool.false_eq_true, not_true_eq_false, reduceCtorEq] at hs_) <;> (try (exfalso; first | exact hs_ | (exact hs_ rfl) | omega))) ))
  all_goals first | (exfalso; omega) | skip
  have hT : Cells w_ A1_ (tuC s B1_ B2_ B3_ B4_ e1_ e2_ e3_ e4_) := cells_
  have hk1 : Cells w_ B1_ (Wn.map (.int .u8)) := cells_
  have hk2 : Cells w_ B2_ (Z.map (.int .u8)) := cells_
  have hBd2 : Blk w_ bd (dvC (dvS t Wo Z [] [] 3) ⟨⟨ZA, 1, Zc⟩, ⟨A0, 128, c0⟩, ⟨A1, 128, c1⟩, g0, g1⟩) DeT := blk_
  have hDD2 : DRw 0 w_ (dvS t Wo Z [] [] 3) ⟨⟨ZA, 1, Zc⟩, ⟨A0, 128, c0⟩, ⟨A1, 128, c1⟩, g0, g1⟩ zD := dr_
  have hBO2 : Blk w_ bO (rcC a) RcT := blk_
  have hBN2 : Blk w_ bN (rcC b) RcT := blk_
  have hBW2 : Blk w_ bW [.bool b0, .bool b1] NwT := blk_
  have hx0 : Ext w w_ := ext_
  have hz0 := hx0.size
  refine WC_loopL (X := Nat × Ds × List (Zo × Sl)) [5, 6, 9, 11, 12, 16, 17, 19, 23, 24, 25, 26, 27, 28, 29, 31, 32, 33, 34, 108, 109, 110, 111, 112, 113, 114, 115, 116, 117, 118, 119, 120, 121, 122, 123, 124, 125, 126, 127, 128, 129, 130, 131, 132, 133, 134, 135, 136, 137, 138, 139, 140, 141, 142, 143, 144, 145, 146, 147, 148, 149, 150, 151, 152, 153, 154, 155, 156, 157, 158, 159, 160, 161, 162, 163, 164, 165, 166, 167, 168, 169, 170, 171, 172, 173, 174, 175, 176, 177, 178, 179, 180, 181, 182, 183, 184, 185, 186, 187, 188, 189, 190, 191, 192, 193, 194, 195, 196, 197, 198, 199, 200, 201, 202, 203, 204, 205, 206, 207, 208, 209, 210, 211, 212, 213, 214, 215, 216, 217, 218, 219, 220, 221, 222, 223, 224, 225, 226, 227, 228, 229, 230, 231, 232, 233] rfl (fun x w' => (x.1 ≤ k ∧ DRw 0 w' (twS t Wo Wn Z x.1) x.2.1 x.2.2) ∧ (Ext w w' ∧ w_.heap.size ≤ w'.heap.size) ∧ Blk w' bd (dvC (twS t Wo Wn Z x.1) x.2.1) DeT ∧ (Blk w' bO (rcC a) RcT ∧ Blk w' bN (rcC b) RcT ∧ Blk w' bW [.bool b0, .bool b1] NwT) ∧ Cells w' A1_ (tuC s B1_ B2_ B3_ B4_ e1_ e2_ e3_ e4_) ∧ Cells w' B1_ (Wn.map (.int .u8)) ∧ Cells w' B2_ (Z.map (.int .u8))) (fun x => [(20, .int .i64 x.1)]) (fun x => k - x.1) (0, ⟨⟨ZA, 1, Zc⟩, ⟨A0, 128, c0⟩, ⟨A1, 128, c1⟩, g0, g1⟩, zD) ⟨⟨om_, hDD2⟩, ⟨hx0, om_⟩, hBd2, ⟨hBO2, hBN2, hBW2⟩, hT, hk1, hk2⟩ env_ ?_
  intro ⟨i, sd, zd⟩ w4 ⟨⟨hi, hD4⟩, ⟨hx4, hz4⟩, hBd4, ⟨hBO4, hBN4, hBW4⟩, hT4, hk14, hk24⟩ K hK
  dsimp only at hi hD4 hBd4 ⊢
  have hz40 := hx4.size
  rcases Nat.lt_or_ge i k with hlt | hge
  · obtain ⟨cv, hcv, cX⟩ := rnd i om_ B1_ B2_ B3_ B4_ e1_ e2_ e3_ e4_ om_ om_
    have pX := dvC_one (twS t Wo Wn Z (i + 1))
    have pY := dvC_one (twS t Wo Wn Z i)
    (repeat' (first | (refine WL_is ?_; first | refine WL_nil ?_ | (refine WL_isIndexAddr ?_; refine WL_indexS rfl rfl rfl rfl (Cells.ext hT4 ext_) (Nat.zero_lt_succ _) om_ om_ ?_) | (refine WL_isLoad ?_; refine WL_loadPA (vs := cvC cv) rfl rfl rfl (Cells.ext hT4 ext_) rfl (Nat.zero_lt_succ _) hcv ?_) | refine wl_ ?_ | (refine WL_isFn ?_; refine WL_call rfl rfl rfl (cX _ _ _ dm_ cells_ cells_) ?_; rintro _ w_ ⟨sE_, zE_, rfl, hE_, hx_⟩; have hz_ := hx_.size; refine ⟨_, rfl, ?_⟩)) | (refine WC_is ?_; first | refine WC_seq (fun _ _ => ?_) | refine WC_orderE (.rd false 0 (.rd false 1 (.rd false 2 (.rd false 3 (.rd false 4 (.act true 5 (.rd false 6 (.rd false 7 (.rd false 8 (.act true 9 (.act true 10 (.rd true 11 .nil) .nil) .nil)))) (.act true 9 (.act true 5 (.rd true 6 (.rd true 7 (.rd false 8 (.act true 10 (.rd true 11 .nil) .nil)))) .nil) .nil))))))) [[], [], [], [], [], [0, 1, 2, 3, 4], [], [], [], [], [0, 1, 2, 3, 4, 5, 6, 7, 9]] [5, 9, 10] none 17 (by kernel_rfl) (by kernel_rfl) (fun w_ hx_ hz_ => ?_) | refine WC_orderE (.rd false 0 (.rd false 1 (.rd false 2 (.rd false 3 (.rd false 4 (.act true 5 (.rd false 6 (.rd false 7 (.rd false 8 (.act true 9 (.act true 10 (.rd true 11 .nil) .nil) .nil)))) (.act true 9 (.act true 5 (.rd true 6 (.rd true 7 (.rd false 8 (.act true 10 (.rd true 11 .nil) .nil)))) .nil) .nil))))))) [[], [], [], [], [], [0, 1, 2, 3, 4], [], [], [], [], [0, 1, 2, 3, 4, 5, 6, 7, 9]] [5, 9, 10] none 29 (by kernel_rfl) (by kernel_rfl) (fun w_ hx_ hz_ => ?_) | refine wc_ ?_) | (refine WQ_is ?_; first | refine wq_ ?_ | refine WQ_bodyCTT (Or.inl rfl) rfl rfl rfl rfl blk_ lr_ ?_ | refine WQ_bodyCTT (Or.inr rfl) rfl rfl rfl rfl blk_ lr_ ?_) | (refine Kb.mk ?_; intro b_ w_ hb_ hl_ hx_ hB_) | (refine Ks.mk ?_; intro w_ hz_ hx_ hB_) | (refine Ko.mk ?_; intro A_ c_ w_ hx_ ho_ hr_; have hz_ := hx_.size; have hq_ := own_cap ho_) | (refine Kp.mk ?_; intro A_ c_ w_ hx_ hz_ ho_ hr_ hp_; have hq_ := own_cap ho_) | (refine Kl.mk ?_; intro b_ w_ hb_ hl_ hx_ hB_ ho_) | (refine Km.mk ?_; intro b_ w_ hb_ hl_ hx_ ho_) | (refine Ke.mk ?_; intro r_ hr_) | (refine Kg.mk ?_ ?_ <;> intro hs_ <;> (try simp only [strEq_t, strEq_f, decide_eq_true_eq, decide_eq_false_iff_not, beq_iff_eq, beq_eq_false_iff_ne, bne_iff_ne, bne_eq_false_iff_eq, Bool.not_eq_true', Bool.not_eq_false', Bool.not_true, Bool.not_false, gt_iff_lt, ge_iff_le, Int.not_lt, Int.not_le, ne_eq, Bool.false_eq_true, not_true_eq_false, reduceCtorEq] at hs_) <;> (try (exfalso; first | exact hs_ | (exact hs_ rfl) | omega))) | (refine WX_is ?_; first | refine wx_ ?_ | exact WX_altnil | (refine WX_isRd ?_; first | (refine WX_isT ?_; refine WX_readT rfl rfl rfl rfl rfl (by (first | (refine WL_isIndexAddr ?_; refine WL_indexS rfl rfl rfl rfl (Cells.ext hT4 ext_) (Nat.zero_lt_succ _) om_ om_ ?_) | (refine WL_isLoad ?_; refine WL_loadPA (vs := cvC cv) rfl rfl rfl (Cells.ext hT4 ext_) rfl (Nat.zero_lt_succ _) hcv ?_) | refine wl_ ?_); refine WL_nil ?_; exact DR_mk rfl) ?_) | (refine WX_isF ?_; refine WX_read rfl rfl rfl rfl rfl (fun w_ hx_ => by (first | (refine WL_isIndexAddr ?_; refine WL_indexS rfl rfl rfl rfl (Cells.ext hT4 ext_) (Nat.zero_lt_succ _) om_ om_ ?_) | (refine WL_isLoad ?_; refine WL_loadPA (vs := cvC cv) rfl rfl rfl (Cells.ext hT4 ext_) rfl (Nat.zero_lt_succ _) hcv ?_) | refine wl_ ?_); refine WL_nil ?_; exact DR_mk rfl) ?_) | refine wxg_ ?_) | (refine WX_isAct ?_; first | refine WX_eff1 rfl (fun _ _ => ?_) | refine WX_eff rfl (fun _ _ => ?_) ?_))))
    all_goals first | (exfalso; omega) | skip
    all_goals
      have z1 : DRw 0 w_ (twS t Wo Wn Z (i + 1)) sE_ zE_ := dr_
      exact WQ_againL hK (i + 1, sE_, zE_) ⟨⟨om_, z1⟩, ⟨ext_, om_⟩, hB_, ⟨blk_, blk_, blk_⟩, Cells.keepC hx_ hT4 hBd4 ext_, Cells.keepU hx_ hk14 hBd4 ext_, Cells.keepU hx_ hk24 hBd4 ext_⟩ env_ om_
  · have hik : i = k := by omega
    rw [hik] at hD4 hBd4
    (repeat' (first | (refine WL_is ?_; first | refine WL_nil ?_ | refine wl_ ?_ | (refine WL_isFn ?_; refine WL_call rfl rfl rfl (cr _ _ _ dm_) ?_; rintro _ w_ ⟨ZA_, Zc_, P0_, q0_, P1_, q1_, g0_, g1_, z2_, rfl, hDc_, hbc_, hc0_, hc1_, hx_⟩; have hz_ := hx_.size; refine ⟨_, rfl, ?_⟩)) | (refine WC_is ?_; first | ((fail_if_success (refine WC_isReg (id := 22) ?_)); refine WC_seq (fun _ _ => ?_)) | refine wc_ ?_) | (refine WQ_is ?_; first | refine wq_ ?_ | refine WQ_bodyCTT (Or.inl rfl) rfl rfl rfl rfl blk_ lr_ ?_ | refine WQ_bodyCTT (Or.inr rfl) rfl rfl rfl rfl blk_ lr_ ?_) | (refine Kb.mk ?_; intro b_ w_ hb_ hl_ hx_ hB_) | (refine Ks.mk ?_; intro w_ hz_ hx_ hB_) | (refine Ko.mk ?_; intro A_ c_ w_ hx_ ho_ hr_; have hz_ := hx_.size; have hq_ := own_cap ho_) | (refine Kp.mk ?_; intro A_ c_ w_ hx_ hz_ ho_ hr_ hp_; have hq_ := own_cap ho_) | (refine Kl.mk ?_; intro b_ w_ hb_ hl_ hx_ hB_ ho_) | (refine Km.mk ?_; intro b_ w_ hb_ hl_ hx_ ho_) | (refine Ke.mk ?_; intro r_ hr_) | (refine Kg.mk ?_ ?_ <;> intro hs_ <;> (try simp only [strEq_t, strEq_f, decide_eq_true_eq, decide_eq_false_iff_not, beq_iff_eq, beq_eq_false_iff_ne, bne_iff_ne, bne_eq_false_iff_eq, Bool.not_eq_true', Bool.not_eq_false', Bool.not_true, Bool.not_false, gt_iff_lt, ge_iff_le, Int.not_lt, Int.not_le, ne_eq, Bool.false_eq_true, not_true_eq_false, reduceCtorEq] at hs_) <;> (try (exfalso; first | exact hs_ | (exact hs_ rfl) | omega))) ))
    all_goals first | (exfalso; omega) | skip
    obtain ⟨bc, rfl⟩ : ∃ x, x = b_ := ⟨_, rfl⟩
    have hBc : Blk w_ bc (dvC (dvS t X Y [] [] de) ⟨⟨ZA_, 1, Zc_⟩, ⟨P0_, 128, q0_⟩, ⟨P1_, 128, q1_⟩, g0_, g1_⟩) DeT := hB_
    have hDc : DRw 0 w_ (dvS t X Y [] [] de) ⟨⟨ZA_, 1, Zc_⟩, ⟨P0_, 128, q0_⟩, ⟨P1_, 128, q1_⟩, g0_, g1_⟩ z2_ := dr_
    have hC0 : Cells w_ P0_ ((rt0 t X Y).map (.int .u8)) := cells_
    have hC1 : Cells w_ P1_ ((rt1 t X Y).map (.int .u8)) := cells_
    have uc := hBc.lt
    have hbc : w.heap.size ≤ bc := by omega
    (repeat' (first | (refine WL_is ?_; first | refine WL_nil ?_ | refine wl_ ?_ | (refine WL_isFn ?_; refine WL_call rfl rfl rfl (ch _ _ _ _ _ hbc_.1 cells_ hbc_.2 cells_) ?_; rintro _ w_ ⟨rfl, hx_⟩; have hz_ := hx_.size; refine ⟨_, rfl, ?_⟩)) | (refine WC_is ?_; first | ((fail_if_success (refine WC_isReg (id := 23) ?_)); refine WC_seq (fun _ _ => ?_)) | refine wc_ ?_) | (refine WQ_is ?_; first | refine wq_ ?_ | refine WQ_bodyCTT (Or.inl rfl) rfl rfl rfl rfl blk_ lr_ ?_ | refine WQ_bodyCTT (Or.inr rfl) rfl rfl rfl rfl blk_ lr_ ?_) | (refine Kb.mk ?_; intro b_ w_ hb_ hl_ hx_ hB_) | (refine Ks.mk ?_; intro w_ hz_ hx_ hB_) | (refine Ko.mk ?_; intro A_ c_ w_ hx_ ho_ hr_; have hz_ := hx_.size; have hq_ := own_cap ho_) | (refine Kp.mk ?_; intro A_ c_ w_ hx_ hz_ ho_ hr_ hp_; have hq_ := own_cap ho_) | (refine Kl.mk ?_; intro b_ w_ hb_ hl_ hx_ hB_ ho_) | (refine Km.mk ?_; intro b_ w_ hb_ hl_ hx_ ho_) | (refine Ke.mk ?_; intro r_ hr_) | (refine Kg.mk ?_ ?_ <;> intro hs_ <;> (try simp only [strEq_t, strEq_f, decide_eq_true_eq, decide_eq_false_iff_not, beq_iff_eq, beq_eq_false_iff_ne, bne_iff_ne, bne_eq_false_iff_eq, Bool.not_eq_true', Bool.not_eq_false', Bool.not_true, Bool.not_false, gt_iff_lt, ge_iff_le, Int.not_lt, Int.not_le, ne_eq, Bool.false_eq_true, not_true_eq_false, reduceCtorEq] at hs_) <;> (try (exfalso; first | exact hs_ | (exact hs_ rfl) | omega))) ))
    obtain ⟨br, rfl⟩ : ∃ x, x = b_ := ⟨_, rfl⟩
    have hBr : Blk w_ br (rcC r) RcT := hB_
    have hbr : bc < br := by omega
    have er0 : rcC r = rcC r := rfl
    have hab : (k ≤ 1 ∧ at' = s ∧ rcC r = rcC a ∧ ¬ rcC r = rcC b) ∨ (1 ≤ k ∧ at' = 1 - s ∧ ¬ rcC r = rcC a ∧ rcC r = rcC b) := hq.imp (fun h => ⟨h.1, h.2.2, by rw [h.2.1], by rw [h.2.1]; exact hne⟩) (fun h => ⟨h.1, h.2.2, by rw [h.2.1]; exact fun e => hne e.symm, by rw [h.2.1]⟩)
    refine WC_cutK (X := Unit) as_ [11, 23, 24, 25] rfl (fun _ => []) (fun _ w' => w' = w_) (fun K2 hK2 => ?_) (fun _ w6 hI => ?_)
    · rcases hab with ⟨hk1, hat, hra, hrb⟩ | ⟨hk1, hat, hra, hrb⟩ <;> (rcases (show k = 0 ∨ k = 1 ∨ 2 ≤ k by omega) with hk0 | hk0 | hk0) <;> first | (exfalso; omega) | skip
      all_goals
        (repeat' (first | (refine WL_is ?_; first | refine WL_nil ?_ | (refine WL_isBin ?_; first | refine WL_neT rfl rfl rfl rfl rfl as_ as_ ?_ | refine WL_neF rfl rfl rfl rfl rfl as_ as_ as_ ?_ | refine WL_eqT rfl rfl rfl rfl rfl as_ as_ ?_ | refine WL_eqF rfl rfl rfl rfl rfl as_ as_ as_ ?_ | refine WL_ieT rfl rfl rfl rfl om_ ?_ | refine WL_ieF rfl rfl rfl rfl om_ ?_) | refine wl_ ?_ ) | (refine WC_is ?_; first | refine WC_seq (fun _ _ => ?_) | refine wc_ ?_) | (refine WQ_is ?_; first | refine wq_ ?_ | refine WQ_bodyCTT (Or.inl rfl) rfl rfl rfl rfl blk_ lr_ ?_ | refine WQ_bodyCTT (Or.inr rfl) rfl rfl rfl rfl blk_ lr_ ?_) | (refine Kb.mk ?_; intro b_ w_ hb_ hl_ hx_ hB_) | (refine Ks.mk ?_; intro w_ hz_ hx_ hB_) | (refine Ko.mk ?_; intro A_ c_ w_ hx_ ho_ hr_; have hz_ := hx_.size; have hq_ := own_cap ho_) | (refine Kp.mk ?_; intro A_ c_ w_ hx_ hz_ ho_ hr_ hp_; have hq_ := own_cap ho_) | (refine Kl.mk ?_; intro b_ w_ hb_ hl_ hx_ hB_ ho_) | (refine Km.mk ?_; intro b_ w_ hb_ hl_ hx_ ho_) | (refine Ke.mk ?_; intro r_ hr_) | (refine Kg.mk ?_ ?_ <;> intro hs_ <;> (try simp only [strEq_t, strEq_f, decide_eq_true_eq, decide_eq_false_iff_not, beq_iff_eq, beq_eq_false_iff_ne, bne_iff_ne, bne_eq_false_iff_eq, Bool.not_eq_true', Bool.not_eq_false', Bool.not_true, Bool.not_false, gt_iff_lt, ge_iff_le, Int.not_lt, Int.not_le, ne_eq, Bool.false_eq_true, not_true_eq_false, reduceCtorEq] at hs_) <;> (try (exfalso; first | exact hs_ | (exact hs_ rfl) | omega))) ))
        all_goals first | (exfalso; omega) | exact WQ_cutX hK2 () rfl env_ rfl
    subst hI
    (repeat' (first | (refine WL_is ?_; first | refine WL_nil ?_ | refine wl_ ?_ | (refine WL_isFn ?_; refine WL_call rfl rfl rfl (cl _ _ _ _ _ hbc_.1 cells_ hbc_.2 cells_) ?_; rintro _ w_ ⟨L_, f0_, B5_, e5_, B6_, e6_, rfl, hl1_, he5_, hl2_, hx_⟩; have hz_ := hx_.size; refine ⟨_, rfl, ?_⟩)) | (refine WC_is ?_; first | refine WC_seq (fun _ _ => ?_) | refine wc_ ?_) | (refine WQ_is ?_; first | refine wq_ ?_ | refine WQ_bodyCTT (Or.inl rfl) rfl rfl rfl rfl blk_ lr_ ?_ | refine WQ_bodyCTT (Or.inr rfl) rfl rfl rfl rfl blk_ lr_ ?_) | (refine Kb.mk ?_; intro b_ w_ hb_ hl_ hx_ hB_) | (refine Ks.mk ?_; intro w_ hz_ hx_ hB_) | (refine Ko.mk ?_; intro A_ c_ w_ hx_ ho_ hr_; have hz_ := hx_.size; have hq_ := own_cap ho_) | (refine Kp.mk ?_; intro A_ c_ w_ hx_ hz_ ho_ hr_ hp_; have hq_ := own_cap ho_) | (refine Kl.mk ?_; intro b_ w_ hb_ hl_ hx_ hB_ ho_) | (refine Km.mk ?_; intro b_ w_ hb_ hl_ hx_ ho_) | (refine Ke.mk ?_; intro r_ hr_) | (refine Kg.mk ?_ ?_ <;> intro hs_ <;> (try simp only [strEq_t, strEq_f, decide_eq_true_eq, decide_eq_false_iff_not, beq_iff_eq, beq_eq_false_iff_ne, bne_iff_ne, bne_eq_false_iff_eq, Bool.not_eq_true', Bool.not_eq_false', Bool.not_true, Bool.not_false, gt_iff_lt, ge_iff_le, Int.not_lt, Int.not_le, ne_eq, Bool.false_eq_true, not_true_eq_false, reduceCtorEq] at hs_) <;> (try (exfalso; first | exact hs_ | (exact hs_ rfl) | omega))) ))
    all_goals first | (exfalso; omega) | skip
    have hBc3 : Blk w_ bc (dvC (dvS t X Y [] [] de) ⟨⟨ZA_, 1, Zc_⟩, ⟨P0_, 128, q0_⟩, ⟨P1_, 128, q1_⟩, g0_, g1_⟩) DeT := blk_
    have hDc3 : DRw 0 w_ (dvS t X Y [] [] de) ⟨⟨ZA_, 1, Zc_⟩, ⟨P0_, 128, q0_⟩, ⟨P1_, 128, q1_⟩, g0_, g1_⟩ z2_ := dr_
    have hBr3 : Blk w_ br (rcC r) RcT := blk_
    have hx6 : Ext w w_ := ext_
    have hz6 := hx6.size
    refine WC_loopL (X := Nat × Ds × List (Zo × Sl)) [10, 11, 23, 24, 25, 27, 31, 32, 33, 34, 185, 186, 187, 188, 189, 190, 191, 192, 193, 194, 195, 196, 197, 198, 199, 200, 201, 202, 203, 204, 205, 206, 207, 208, 209, 210, 211, 212, 213, 214, 215, 216, 217, 218, 219, 220, 221, 222, 223, 224, 225, 226, 227, 228, 229, 230, 231, 232, 233] rfl (fun x w' => (x.1 ≤ m ∧ DRw 0 w' (cwS t X Y Z de x.1) x.2.1 x.2.2) ∧ (Ext w w' ∧ w_.heap.size ≤ w'.heap.size) ∧ Blk w' bc (dvC (cwS t X Y Z de x.1) x.2.1) DeT ∧ Blk w' br (rcC r) RcT ∧ (m = 2 → Cells w' L_ (erC s B5_ B6_ e5_ e6_)) ∧ (m = 2 → Cells w' B5_ (Z.map (.int .u8)))) (fun x => [(28, .int .i64 x.1)]) (fun x => m - x.1) (0, ⟨⟨ZA_, 1, Zc_⟩, ⟨P0_, 128, q0_⟩, ⟨P1_, 128, q1_⟩, g0_, g1_⟩, z2_) ⟨⟨om_, hDc3⟩, ⟨hx6, om_⟩, hBc3, hBr3, fun h => (hl1_ h).ext ext_, fun h => (hl2_ h).ext ext_⟩ env_ ?_
    intro ⟨i2, sd2, zd2⟩ w5 ⟨⟨hi2, hD5⟩, ⟨hx5, hz5⟩, hBd5, hBr5, hT5, hk5⟩ K2 hK2
    dsimp only at hi2 hD5 hBd5 ⊢
    have hz50 := hx5.size
    rcases Nat.lt_or_ge i2 m with hlt | hge
    · have hm2 : m = 2 := by omega
      have hT5 := hT5 hm2
      have hk5 := hk5 hm2
      obtain ⟨cv, hcv, cX⟩ := rne i2 om_ B5_ B6_ e5_ e6_ om_
      have pX := dvC_one (cwS t X Y Z de (i2 + 1))
      have pY := dvC_one (cwS t X Y Z de i2)
      (repeat' (first | (refine WL_is ?_; first | refine WL_nil ?_ | (refine WL_isIndexAddr ?_; refine WL_indexS rfl rfl rfl rfl (Cells.ext hT5 ext_) (Nat.zero_lt_succ _) om_ om_ ?_) | (refine WL_isLoad ?_; refine WL_loadPA (vs := cvC cv) rfl rfl rfl (Cells.ext hT5 ext_) rfl (Nat.zero_lt_succ _) hcv ?_) | refine wl_ ?_ | (refine WL_isFn ?_; refine WL_call rfl rfl rfl (cX _ _ _ dm_ cells_) ?_; rintro _ w_ ⟨sE_, zE_, rfl, hE_, hx_⟩; have hz_ := hx_.size; refine ⟨_, rfl, ?_⟩)) | (refine WC_is ?_; first | refine WC_seq (fun _ _ => ?_) | refine WC_orderE (.rd false 0 (.rd false 1 (.rd false 2 (.rd false 3 (.rd false 4 (.act true 5 (.rd false 6 (.rd false 7 (.rd false 8 (.act true 9 (.act true 10 (.rd true 11 .nil) .nil) .nil)))) (.act true 9 (.act true 5 (.rd true 6 (.rd true 7 (.rd false 8 (.act true 10 (.rd true 11 .nil) .nil)))) .nil) .nil))))))) [[], [], [], [], [], [0, 1, 2, 3, 4], [], [], [], [], [0, 1, 2, 3, 4, 5, 6, 7, 9]] [5, 9, 10] none 17 (by kernel_rfl) (by kernel_rfl) (fun w_ hx_ hz_ => ?_) | refine WC_orderE (.rd false 0 (.rd false 1 (.rd false 2 (.rd false 3 (.rd false 4 (.act true 5 (.rd false 6 (.rd false 7 (.rd false 8 (.act true 9 (.act true 10 (.rd true 11 .nil) .nil) .nil)))) (.act true 9 (.act true 5 (.rd true 6 (.rd true 7 (.rd false 8 (.act true 10 (.rd true 11 .nil) .nil)))) .nil) .nil))))))) [[], [], [], [], [], [0, 1, 2, 3, 4], [], [], [], [], [0, 1, 2, 3, 4, 5, 6, 7, 9]] [5, 9, 10] none 29 (by kernel_rfl) (by kernel_rfl) (fun w_ hx_ hz_ => ?_) | refine wc_ ?_) | (refine WQ_is ?_; first | refine wq_ ?_ | refine WQ_bodyCTT (Or.inl rfl) rfl rfl rfl rfl blk_ lr_ ?_ | refine WQ_bodyCTT (Or.inr rfl) rfl rfl rfl rfl blk_ lr_ ?_) | (refine Kb.mk ?_; intro b_ w_ hb_ hl_ hx_ hB_) | (refine Ks.mk ?_; intro w_ hz_ hx_ hB_) | (refine Ko.mk ?_; intro A_ c_ w_ hx_ ho_ hr_; have hz_ := hx_.size; have hq_ := own_cap ho_) | (refine Kp.mk ?_; intro A_ c_ w_ hx_ hz_ ho_ hr_ hp_; have hq_ := own_cap ho_) | (refine Kl.mk ?_; intro b_ w_ hb_ hl_ hx_ hB_ ho_) | (refine Km.mk ?_; intro b_ w_ hb_ hl_ hx_ ho_) | (refine Ke.mk ?_; intro r_ hr_) | (refine Kg.mk ?_ ?_ <;> intro hs_ <;> (try simp only [strEq_t, strEq_f, decide_eq_true_eq, decide_eq_false_iff_not, beq_iff_eq, beq_eq_false_iff_ne, bne_iff_ne, bne_eq_false_iff_eq, Bool.not_eq_true', Bool.not_eq_false', Bool.not_true, Bool.not_false, gt_iff_lt, ge_iff_le, Int.not_lt, Int.not_le, ne_eq, Bool.false_eq_true, not_true_eq_false, reduceCtorEq] at hs_) <;> (try (exfalso; first | exact hs_ | (exact hs_ rfl) | omega))) | (refine WX_is ?_; first | refine wx_ ?_ | exact WX_altnil | (refine WX_isRd ?_; first | (refine WX_isT ?_; refine WX_readT rfl rfl rfl rfl rfl (by (first | (refine WL_isIndexAddr ?_; refine WL_indexS rfl rfl rfl rfl (Cells.ext hT5 ext_) (Nat.zero_lt_succ _) om_ om_ ?_) | (refine WL_isLoad ?_; refine WL_loadPA (vs := cvC cv) rfl rfl rfl (Cells.ext hT5 ext_) rfl (Nat.zero_lt_succ _) hcv ?_) | refine wl_ ?_); refine WL_nil ?_; exact DR_mk rfl) ?_) | (refine WX_isF ?_; refine WX_read rfl rfl rfl rfl rfl (fun w_ hx_ => by (first | (refine WL_isIndexAddr ?_; refine WL_indexS rfl rfl rfl rfl (Cells.ext hT5 ext_) (Nat.zero_lt_succ _) om_ om_ ?_) | (refine WL_isLoad ?_; refine WL_loadPA (vs := cvC cv) rfl rfl rfl (Cells.ext hT5 ext_) rfl (Nat.zero_lt_succ _) hcv ?_) | refine wl_ ?_); refine WL_nil ?_; exact DR_mk rfl) ?_) | refine wxg_ ?_) | (refine WX_isAct ?_; first | refine WX_eff1 rfl (fun _ _ => ?_) | refine WX_eff rfl (fun _ _ => ?_) ?_))))
      all_goals first | (exfalso; omega) | skip
      all_goals
        have z1 : DRw 0 w_ (cwS t X Y Z de (i2 + 1)) sE_ zE_ := dr_
        exact WQ_againL hK2 (i2 + 1, sE_, zE_) ⟨⟨om_, z1⟩, ⟨ext_, om_⟩, hB_, blk_, fun _ => Cells.keepC hx_ hT5 hBd5 ext_, fun _ => Cells.keepU hx_ hk5 hBd5 ext_⟩ env_ om_
    · have hik2 : i2 = m := by omega
      obtain ⟨de2, hcw⟩ := cwS_end (t := t) (X := X) (Y := Y) (de := de) hm'
      rw [hik2, hcw] at hD5 hBd5
      obtain ⟨ZB, Zd, R0, u0, R1, u1, h0, h1, rfl, hu0, hu1, y0, y1⟩ := devS_open hD5 hX2.1 hY.1
      have hce0 : at' = 1 → Cells w5 R0 (Z.map (.int .u8)) := fun h => by rw [← hrz.1 h]; exact y0
      have hce1 : ¬ at' = 1 → Cells w5 R1 (Z.map (.int .u8)) := fun h => by rw [← hrz.2 h]; exact y1
      (repeat' (first | (refine WL_is ?_; first | refine WL_nil ?_ | (refine WL_isBin ?_; first | refine WL_eqT rfl rfl rfl rfl rfl as_ as_ ?_ | refine WL_ieT rfl rfl rfl rfl om_ ?_ | refine WL_ieF rfl rfl rfl rfl om_ ?_) | refine wl_ ?_ | (refine WL_isFn ?_; refine WL_call rfl rfl rfl (ch2 _ _ _ _ _ hu0 cells_ hu1 cells_) ?_; rintro _ w_ ⟨rfl, hx_⟩; have hz_ := hx_.size; refine ⟨_, rfl, ?_⟩) | (refine WL_isFn ?_; refine WL_call rfl rfl rfl (er _ _ _ (by first | exact Cells.ext (hce0 om_) ext_ | exact Cells.ext (hce1 om_) ext_)) ?_; rintro _ w_ ⟨rfl, hx_⟩; have hz_ := hx_.size; refine ⟨_, rfl, ?_⟩) | (refine WL_isFn ?_; refine WL_call rfl rfl rfl (cl2 _ _ _ _ _ hu0 cells_ hu1 cells_) ?_; rintro _ w_ ⟨L2_, f2_, rfl, hx_⟩; have hz_ := hx_.size; refine ⟨_, rfl, ?_⟩)) | (refine WC_is ?_; first | refine WC_seq (fun _ _ => ?_) | refine wc_ ?_) | (refine WQ_is ?_; first | refine wq_ ?_ | refine WQ_bodyCTT (Or.inl rfl) rfl rfl rfl rfl blk_ lr_ ?_ | refine WQ_bodyCTT (Or.inr rfl) rfl rfl rfl rfl blk_ lr_ ?_) | (refine Kb.mk ?_; intro b_ w_ hb_ hl_ hx_ hB_) | (refine Ks.mk ?_; intro w_ hz_ hx_ hB_) | (refine Ko.mk ?_; intro A_ c_ w_ hx_ ho_ hr_; have hz_ := hx_.size; have hq_ := own_cap ho_) | (refine Kp.mk ?_; intro A_ c_ w_ hx_ hz_ ho_ hr_ hp_; have hq_ := own_cap ho_) | (refine Kl.mk ?_; intro b_ w_ hb_ hl_ hx_ hB_ ho_) | (refine Km.mk ?_; intro b_ w_ hb_ hl_ hx_ ho_) | (refine Ke.mk ?_; intro r_ hr_) | (refine Kg.mk ?_ ?_ <;> intro hs_ <;> (try simp only [strEq_t, strEq_f, decide_eq_true_eq, decide_eq_false_iff_not, beq_iff_eq, beq_eq_false_iff_ne, bne_iff_ne, bne_eq_false_iff_eq, Bool.not_eq_true', Bool.not_eq_false', Bool.not_true, Bool.not_false, gt_iff_lt, ge_iff_le, Int.not_lt, Int.not_le, ne_eq, Bool.false_eq_true, not_true_eq_false, reduceCtorEq] at hs_) <;> (try (exfalso; first | exact hs_ | (exact hs_ rfl) | omega))) ))
      all_goals first | (exfalso; omega) | exact ⟨by first | rfl | simp, ext_⟩
end Go.Proofs.Ytejdjpjaahfnaaa.K
