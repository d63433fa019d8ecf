/- Chapter 13 (root): the law RootTurns. Seat-free. -/
import Derived.Test.YtejdjpjaahfnaaaV14
set_option linter.unusedVariables false
set_option linter.unusedSimpArgs false
set_option maxHeartbeats 4000000
set_option maxRecDepth 20000
namespace Go.Proofs.Ytejdjpjaahfnaaa.K
open Go.RowKit
attribute [local irreducible] strEq strOfNums Calls WL WC WQ WX Code.wp wpList bodyPost
theorem adLo_set (l : Int) (bs : List Int) (p : Nat) (x : Int) (hp : p < bs.length) : ∀ i, adLo l (bs.set p x) i = if i ≤ p then adLo l bs i else (adLo l bs i + (x - bs.getD p 0)) % 65521
  | 0 => by simp [adLo]
  | i + 1 => by
    have ih := adLo_set l bs p x hp i
    have hg : (bs.set p x).getD i 0 = if p = i then x else bs.getD i 0 := by
      rw [List.getD_eq_getElem?_getD, List.getElem?_set, List.getD_eq_getElem?_getD]
      split
      · rename_i h; subst h; rfl
      · rfl
    simp only [adLo]
    rw [ih, hg]
    by_cases h1 : i + 1 ≤ p
    · rw [if_pos h1, if_pos om_, if_neg om_]
    · rw [if_neg h1]
      by_cases h2 : p = i
      · rw [if_pos om_, if_pos h2]; subst h2; omega
      · rw [if_neg om_, if_neg h2]; omega
theorem getD_rg {bs : List Int} (hb : ∀ x ∈ bs, 0 ≤ x ∧ x < 256) (i : Nat) : 0 ≤ bs.getD i 0 ∧ bs.getD i 0 < 256 := by
  rw [List.getD_eq_getElem?_getD]
  cases h : bs[i]? with
  | none => decide
  | some y => exact hb y (List.mem_of_getElem? h)
theorem turn_plain {r : Rc} (h : OkR r) (hw : RcW r) {p : Nat} (hp : p < 128) {x : Int} (hx : 0 ≤ x ∧ x < 256) (hR : OkRd ((wrA r).set p x)) : x = (wrA r).getD p 0 := by
  have hb := wrA_bytes h hw
  have hl := wrA_length hw
  have hb' : ∀ y ∈ (wrA r).set p x, 0 ≤ y ∧ y < 256 := fun y hy => (List.mem_or_eq_of_mem_set hy).elim (hb y) (fun e => e ▸ hx)
  have hw' := toR_W hR.1 hb' hR.2.2.1
  have e := hR.2.2.2.2
  generalize toR ((wrA r).set p x) = r' at *
  have l1 := wrL_length hw
  have l2 := wrL_length hw'
  have hbl := wrL_bytes h hw
  unfold wrA at e
  rw [List.set_append, l1] at e
  by_cases hc : p < 124
  · rw [if_pos hc] at e
    obtain ⟨e1, e2⟩ := List.append_inj e (by rw [List.length_set, l1, l2])
    have e3 : adS 1 (wrL r') = adS 1 (wrL r) := by
      have := congrArg valL e2
      have a1 := adS_in 1 (wrL r)
      have a2 := adS_in 1 (wrL r')
      rwa [valL_leB1 _ 4 ⟨a2.1, by show adS 1 (wrL r') < 4294967296; omega⟩, valL_leB1 _ 4 ⟨a1.1, by show adS 1 (wrL r) < 4294967296; omega⟩] at this
    have i1 := adLo_in (l := 1) (wrL r) (by decide) 124
    have i2 := adLo_in (l := 1) (wrL r') (by decide) 124
    have e4 : adLo 1 (wrL r') 124 = adLo 1 (wrL r) 124 := by
      unfold adS at e3
      rw [l1, l2] at e3
      simp only [show (1 : Int) % 65536 % 65521 = 1 from rfl] at e3
      omega
    rw [e1, adLo_set _ _ _ _ om_, if_neg om_] at e4
    have hg := getD_rg hbl p
    have eg : (wrA r).getD p 0 = (wrL r).getD p 0 := by
      unfold wrA
      rw [List.getD_eq_getElem?_getD, List.getElem?_append_left om_, List.getD_eq_getElem?_getD]
    omega
  · rw [if_neg hc] at e
    obtain ⟨e1, e2⟩ := List.append_inj e (by rw [l1, l2])
    rw [e1] at e2
    have e3 : (leB (adS 1 (wrL r)) 4)[p - 124]? = some x := by
      rw [e2, List.getElem?_set, if_pos rfl, if_pos (by rw [leB_length]; omega)]
    unfold wrA
    rw [List.getD_eq_getElem?_getD, List.getElem?_append_right om_, l1, e3]
    rfl
theorem xor8 {a b : Int} (ha : 0 ≤ a ∧ a < 256) (hb : 0 ≤ b ∧ b < 256) : (0 ≤ bitsV .xor .u8 a b ∧ bitsV .xor .u8 a b < 256) ∧ (bitsV .xor .u8 a b = a ↔ b = 0) := by
  have e : bitsV .xor .u8 a b = ((BitVec.ofInt 8 a ^^^ BitVec.ofInt 8 b).toNat : Int) := by
    show IntKind.u8.wrap _ = _
    rw [wrap_u8]
    have := (BitVec.ofInt 8 a ^^^ BitVec.ofInt 8 b).isLt
    exact Int.emod_eq_of_lt om_ (by show ((BitVec.ofInt 8 a ^^^ BitVec.ofInt 8 b).toNat : Int) < 256; omega)
  have na : ((BitVec.ofInt 8 a).toNat : Int) = a := by rw [BitVec.toNat_ofInt]; omega
  have nb : ((BitVec.ofInt 8 b).toNat : Int) = b := by rw [BitVec.toNat_ofInt]; omega
  rw [e]
  generalize BitVec.ofInt 8 a = A at *
  generalize BitVec.ofInt 8 b = B at *
  have hlt := (A ^^^ B).isLt
  refine ⟨⟨by omega, by omega⟩, fun h => ?_, fun h => ?_⟩
  · have h1 : A ^^^ B = A := BitVec.eq_of_toNat_eq om_
    have h2 : B = 0#8 := by
      have : A ^^^ (A ^^^ B) = A ^^^ A := by rw [h1]
      rwa [← BitVec.xor_assoc, BitVec.xor_self, BitVec.zero_xor] at this
    rw [← nb, h2]; rfl
  · have h2 : B = 0#8 := BitVec.eq_of_toNat_eq (by show B.toNat = 0; omega)
    rw [h2, BitVec.xor_zero]; exact na
theorem sum_at {r : Rc} (hw : RcW r) : (wrA r).take 124 = wrL r ∧ (wrA r).getD 124 0 = adS 1 (wrL r) % 256 ∧ (wrA r).getD 125 0 = adS 1 (wrL r) / 256 % 256 ∧ (wrA r).getD 126 0 = adS 1 (wrL r) / 65536 % 256 ∧ (wrA r).getD 127 0 = adS 1 (wrL r) / 16777216 % 256 := by
  have l1 := wrL_length hw
  unfold wrA
  generalize wrL r = L at *
  generalize adS 1 L = S
  have g : ∀ k, k < 4 → (L ++ leB S 4).getD (124 + k) 0 = (leB S 4).getD k 0 := fun k hk => by
    rw [List.getD_eq_getElem?_getD, List.getElem?_append_right om_, List.getD_eq_getElem?_getD, l1, show 124 + k - 124 = k by omega]
  have e4 : leB S 4 = [S % 256, S / 256 % 256, S / 65536 % 256, S / 16777216 % 256] := by simp [leB]
  refine ⟨by rw [← l1, List.take_left], ?_, ?_, ?_, ?_⟩
  · exact (g 0 om_).trans (by rw [e4]; rfl)
  · exact (g 1 om_).trans (by rw [e4]; rfl)
  · exact (g 2 om_).trans (by rw [e4]; rfl)
  · exact (g 3 om_).trans (by rw [e4]; rfl)
theorem own_open {w : World} {base n : Nat} {e : TypeId} {A : Option Addr} {c : Nat} {xs : List Value} (h : w.ownsRow base e 1 (.slice A n c) n xs) (hn : 0 < n) : ∃ g rest, A = some ⟨g, 0, none⟩ ∧ base ≤ g ∧ Blk w g (xs ++ rest) e ∧ n ≤ c ∧ c ≤ maxLen := by
  rcases h.2 with ⟨_, h0⟩ | ⟨g, cap, cur, hv, hb, hg, h1, h2, h3, h4⟩
  · omega
  · cases hv
    refine ⟨g, cur.toList.drop (n * 1), rfl, hb, ?_, h1, h2⟩
    unfold Blk
    rw [← h4, List.take_append_drop]
    exact hg
section
variable {P : Program} {ops : Array Oper} {Q : Exit → Act → World → Prop} {n : Nat} {E : Env} {w : World} {l : List Oper}
variable {dd : Option Tmp} {d : Nat} {ty : TypeId} {pos : String} {aft : Array Edge} {g : Option (Nat × Bool)}
theorem WL_ieqT {t t' : TypeId} {x y : Operand} {k : IntKind} {a b : Int} (hdn : Nat.ble (d + 1) n = true) (hw : wants ops E g = some true) (hx : evE E x = some (.int k a)) (hy : evE E y = some (.int k b)) (he : a = b)
    (h : WL P ops Q l n ((d, .bool true) :: E) w) : WL P ops Q (⟨some d, .binOp .eql t x y t', ty, pos, aft, g⟩ :: l) n E w := by
  subst he
  refine WL_pure rfl hdn hw (v := .bool true) ?_ h
  simp [pureOp, hx, hy]
theorem WL_seqT {t t' : TypeId} {x y : Operand} {a b : ByteArray} (hdn : Nat.ble (d + 1) n = true) (hw : wants ops E g = some true) (hx : evE E x = some (.string a)) (hy : evE E y = some (.string b)) (he : strEq a b = true)
    (h : WL P ops Q l n ((d, .bool true) :: E) w) : WL P ops Q (⟨some d, .binOp .eql t x y t', ty, pos, aft, g⟩ :: l) n E w :=
  WL_seq_ hdn hw hx hy rfl (by rw [he]; exact h)
theorem WL_seqF {t t' : TypeId} {x y : Operand} {a b : ByteArray} (hdn : Nat.ble (d + 1) n = true) (hw : wants ops E g = some true) (hx : evE E x = some (.string a)) (hy : evE E y = some (.string b)) (he : strEq a b = false)
    (h : WL P ops Q l n ((d, .bool false) :: E) w) : WL P ops Q (⟨some d, .binOp .eql t x y t', ty, pos, aft, g⟩ :: l) n E w :=
  WL_seq_ hdn hw hx hy rfl (by rw [he]; exact h)
end
theorem Cells.takeI {w : World} {A : Option Addr} {xs : List Int} {f : Int → Value} (h : Cells w A (xs.map f)) (k : Nat) : Cells w A ((xs.take k).map f) := by
  rcases h with h1 | ⟨a, h1, h2⟩
  · left; rw [List.map_take, h1]; simp
  · right; refine ⟨a, h1, fun j v hj => h2 j v ?_⟩
    rw [List.map_take, List.getElem?_take] at hj
    split at hj
    · exact hj
    · cases hj
theorem RootTurns_calls (w : World) (r : Rc) (p x : Int) (hr : RcW r) (hp : 0 ≤ p ∧ p ≤ 255) (hx0 : 0 ≤ x ∧ x ≤ 255) :
    Calls Try.prog 5 #[.agg (rcC r).toArray, .int .u8 p, .int .u8 x] w fun e w' => e = .returned (.bool true) ∧ Ext w w' := by
  have hx : 0 ≤ x ∧ x < 256 := by omega
  have a1 := fun w => root_Write_calls r w hr
  have lr := rcC_length hr
  have pr := rcC_one r
  have l0 := rcC_length RcW.zero
  have p0 := rcC_one rc0
  by_cases hO : OkR r
  · rw [(wrB_t hO).1, (wrB_t hO).2, wrA_length hr] at a1
    obtain ⟨s0, s1, s2, s3, s4⟩ := sum_at hr
    have hS := adS_in 1 (wrL r)
    have hBl := wrA_length hr
    have hBb := wrA_bytes hO hr
    obtain ⟨i, hi⟩ : ∃ i : Nat, p % 128 = (i : Int) := ⟨(p % 128).toNat, by omega⟩
    have hi1 : i < 128 := by omega
    have a2 := fun A c w (hC : Cells w A (((wrA r).take 124).map (.int .u8))) => adler_Sum_calls (wrL r) A 124 c w (wrL_length hr) (wrL_bytes hO hr) (by decide) (by rw [s0] at hC; exact hC)
    have hX := xor8 (getD_rg hBb i) hx
    generalize hXe : bitsV .xor .u8 ((wrA r).getD i 0) x = X at *
    have hb' : ∀ y ∈ (wrA r).set i X, 0 ≤ y ∧ y < 256 := fun y hy => (List.mem_or_eq_of_mem_set hy).elim (hBb y) (fun e => e ▸ hX.1)
    have hE : rdRE ((wrA r).set i X) = if x = 0 then 0 else 130 := by
      split
      · rename_i h
        have e1 := hX.2.2 h
        have e2 : (wrA r).set i X = wrA r := by
          rw [e1, List.getD_eq_getElem?_getD, List.getElem?_eq_getElem om_]
          exact List.set_getElem_self _
        rw [e2]; exact (rd_wrA hO hr).2
      · rename_i h
        exact (rdR_f fun h2 => h (hX.2.1 (turn_plain hO hr hi1 hX.1 h2))).2
    have lq := rcC_length (rdR_W hb')
    have pq := rcC_one (rdR ((wrA r).set i X))
    have a3 := fun A c w hc hC => root_Read_calls ((wrA r).set i X) A 128 c w (by rw [List.length_set]; exact hBl) hb' hc hC
    rw [hE] at a3
    generalize adS 1 (wrL r) = S at *
    generalize hBe : wrA r = B at *
    generalize rdR (B.set i X) = q at *
    refine calls_W (args := [.agg (rcC r).toArray, .int .u8 p, .int .u8 x]) Try.func5 rfl 89 rfl ?_
    (repeat' (first | (refine WL_is ?_; first | refine WL_nil ?_ | (refine WL_isBin ?_; refine WL_ieqT rfl rfl rfl rfl as_ ?_) | refine wl_ ?_ | (refine WL_isFn ?_; refine WL_call rfl rfl rfl (law13_awake_calls _) ?_; rintro _ w_ ⟨rfl, hx_⟩; have hz_ := hx_.size; refine ⟨_, rfl, ?_⟩) | (refine WL_isFn ?_; refine WL_call rfl rfl rfl (a1 _) ?_; rintro _ w_ ⟨A_, c_, rfl, ho_, hx_⟩; have hz_ := hx_.size; have hr_ := own_rd ho_; have hq_ := own_cap ho_; refine ⟨_, rfl, ?_⟩) | (refine WL_isFn ?_; refine WL_call rfl rfl rfl (a2 _ _ _ (Cells.takeI cells_ 124)) ?_; rintro _ w_ ⟨rfl, hx_⟩; have hz_ := hx_.size; refine ⟨_, rfl, ?_⟩)) | (refine WC_is ?_; first | ((fail_if_success (refine WC_isReg (id := 9) ?_)); refine WC_seq (fun _ _ => ?_)) | refine wc_ ?_) | (refine WQ_is ?_; first | refine wq_ ?_) | (refine Kb.mk ?_; intro b_ w_ hb_ hl_ hx_ hB_) | (refine Ks.mk ?_; intro w_ hz_ hx_ hB_) | (refine Ko.mk ?_; intro A_ c_ w_ hx_ ho_ hr_; have hz_ := hx_.size; have hq_ := own_cap ho_) | (refine Kp.mk ?_; intro A_ c_ w_ hx_ hz_ ho_ hr_ hp_; have hq_ := own_cap ho_) | (refine Kl.mk ?_; intro b_ w_ hb_ hl_ hx_ hB_ ho_) | (refine Km.mk ?_; intro b_ w_ hb_ hl_ hx_ ho_) | (refine Ke.mk ?_; intro r_ hr_) | (refine Kg.mk ?_ ?_ <;> intro hs_ <;> (try simp only [strEq_t, strEq_f, decide_eq_true_eq, decide_eq_false_iff_not, beq_iff_eq, beq_eq_false_iff_ne, bne_iff_ne, bne_eq_false_iff_eq, Bool.not_eq_true', Bool.not_eq_false', Bool.not_true, Bool.not_false, gt_iff_lt, ge_iff_le, Int.not_lt, Int.not_le, ne_eq, Bool.false_eq_true, not_true_eq_false, reduceCtorEq] at hs_) <;> (try (exfalso; first | exact hs_ | (exact hs_ rfl) | omega))) | (refine WX_is ?_; first | refine wx_ ?_ | exact WX_altnil | (refine WX_isRd ?_; first | (refine WX_isT ?_; refine WX_readT rfl rfl rfl rfl rfl (by (first | (refine WL_isBin ?_; refine WL_ieqT rfl rfl rfl rfl as_ ?_) | refine wl_ ?_); refine WL_nil ?_; exact DR_mk rfl) ?_) | (refine WX_isF ?_; refine WX_read rfl rfl rfl rfl rfl (fun w_ hx_ => by (first | (refine WL_isBin ?_; refine WL_ieqT rfl rfl rfl rfl as_ ?_) | refine wl_ ?_); refine WL_nil ?_; exact DR_mk rfl) ?_) | refine wxg_ ?_) | (refine WX_isAct ?_; first | refine WX_eff1 rfl (fun _ _ => ?_) | refine WX_eff rfl (fun _ _ => ?_) ?_))))
    obtain ⟨g, rest, rfl, hg, hB9, hc9, hm9⟩ := own_open ho_ (by decide)
    have hBm : (B.map (Value.int .u8)).length = 128 := by rw [List.length_map, hBl]
    have hv : (B.map (Value.int .u8) ++ rest)[0 + i * 1]? = some (.int .u8 (B.getD i 0)) := by
      rw [Nat.zero_add, Nat.mul_one, List.getElem?_append_left om_, List.getElem?_map, List.getD_eq_getElem?_getD, List.getElem?_eq_getElem om_]
      rfl
    have hfit : 0 + i * 1 < (B.map (Value.int .u8) ++ rest).length := by rw [List.length_append]; omega
    have hcc : ∀ w, Blk w g ((B.map (Value.int .u8) ++ rest).set (0 + i * 1) (.int .u8 (bitsV .xor .u8 (B.getD i 0) x))) 5 → Cells w (some ⟨g, 0, none⟩) ((B.set i X).map (.int .u8)) := by
      intro w h
      rw [hXe, Nat.zero_add, Nat.mul_one, List.set_append, if_pos om_, ← List.map_set] at h
      have h2 := h.cells0
      rcases h2 with h2 | ⟨ad, h3, h4⟩
      · left; exact (List.append_eq_nil_iff.1 h2).1
      · right; exact ⟨ad, h3, fun j v hj => h4 j v (by rw [List.getElem?_append_left (List.getElem?_eq_some_iff.1 hj).1]; exact hj)⟩
    by_cases hx0 : x = 0
    · rw [if_pos hx0] at a3
      (repeat' (first | (refine WL_is ?_; first | refine WL_nil ?_ | (refine WL_isIndexAddr ?_; refine WL_indexB rfl rfl rfl rfl hi hi1 ?_) | (refine WL_isLoad ?_; refine WL_load rfl rfl rfl blk_ hv ?_) | (refine WL_isStore ?_; refine WL_store1 rfl rfl rfl blk_ rfl rfl hfit ?_; intro w9_ hz9_ hx9_ hB9_; have hC9_ := hcc w9_ hB9_) | refine wl_ ?_ | (refine WL_isFn ?_; refine WL_call rfl rfl rfl (a3 _ _ _ hq_ cells_) ?_; rintro _ w_ ⟨rfl, hx_⟩; have hz_ := hx_.size; refine ⟨_, rfl, ?_⟩)) | (refine WC_is ?_; first | refine WC_seq (fun _ _ => ?_) | refine wc_ ?_) | (refine WQ_is ?_; first | refine wq_ ?_) | (refine Kb.mk ?_; intro b_ w_ hb_ hl_ hx_ hB_) | (refine Ks.mk ?_; intro w_ hz_ hx_ hB_) | (refine Ko.mk ?_; intro A_ c_ w_ hx_ ho_ hr_; have hz_ := hx_.size; have hq_ := own_cap ho_) | (refine Kp.mk ?_; intro A_ c_ w_ hx_ hz_ ho_ hr_ hp_; have hq_ := own_cap ho_) | (refine Kl.mk ?_; intro b_ w_ hb_ hl_ hx_ hB_ ho_) | (refine Km.mk ?_; intro b_ w_ hb_ hl_ hx_ ho_) | (refine Ke.mk ?_; intro r_ hr_) | (refine Kg.mk ?_ ?_ <;> intro hs_ <;> (try simp only [strEq_t, strEq_f, decide_eq_true_eq, decide_eq_false_iff_not, beq_iff_eq, beq_eq_false_iff_ne, bne_iff_ne, bne_eq_false_iff_eq, Bool.not_eq_true', Bool.not_eq_false', Bool.not_true, Bool.not_false, gt_iff_lt, ge_iff_le, Int.not_lt, Int.not_le, ne_eq, Bool.false_eq_true, not_true_eq_false, reduceCtorEq] at hs_) <;> (try (exfalso; first | exact hs_ | (exact hs_ rfl) | omega))) ))
      all_goals exact ⟨by simp [hx0], ext_⟩
    · rw [if_neg hx0] at a3
      (repeat' (first | (refine WL_is ?_; first | refine WL_nil ?_ | (refine WL_isIndexAddr ?_; refine WL_indexB rfl rfl rfl rfl hi hi1 ?_) | (refine WL_isLoad ?_; refine WL_load rfl rfl rfl blk_ hv ?_) | (refine WL_isStore ?_; refine WL_store1 rfl rfl rfl blk_ rfl rfl hfit ?_; intro w9_ hz9_ hx9_ hB9_; have hC9_ := hcc w9_ hB9_) | refine wl_ ?_ | (refine WL_isFn ?_; refine WL_call rfl rfl rfl (a3 _ _ _ hq_ cells_) ?_; rintro _ w_ ⟨rfl, hx_⟩; have hz_ := hx_.size; refine ⟨_, rfl, ?_⟩)) | (refine WC_is ?_; first | refine WC_seq (fun _ _ => ?_) | refine wc_ ?_) | (refine WQ_is ?_; first | refine wq_ ?_) | (refine Kb.mk ?_; intro b_ w_ hb_ hl_ hx_ hB_) | (refine Ks.mk ?_; intro w_ hz_ hx_ hB_) | (refine Ko.mk ?_; intro A_ c_ w_ hx_ ho_ hr_; have hz_ := hx_.size; have hq_ := own_cap ho_) | (refine Kp.mk ?_; intro A_ c_ w_ hx_ hz_ ho_ hr_ hp_; have hq_ := own_cap ho_) | (refine Kl.mk ?_; intro b_ w_ hb_ hl_ hx_ hB_ ho_) | (refine Km.mk ?_; intro b_ w_ hb_ hl_ hx_ ho_) | (refine Ke.mk ?_; intro r_ hr_) | (refine Kg.mk ?_ ?_ <;> intro hs_ <;> (try simp only [strEq_t, strEq_f, decide_eq_true_eq, decide_eq_false_iff_not, beq_iff_eq, beq_eq_false_iff_ne, bne_iff_ne, bne_eq_false_iff_eq, Bool.not_eq_true', Bool.not_eq_false', Bool.not_true, Bool.not_false, gt_iff_lt, ge_iff_le, Int.not_lt, Int.not_le, ne_eq, Bool.false_eq_true, not_true_eq_false, reduceCtorEq] at hs_) <;> (try (exfalso; first | exact hs_ | (exact hs_ rfl) | omega))) ))
      all_goals exact ⟨by simp [hx0], ext_⟩
  · rw [(wrB_f hO).1, (wrB_f hO).2] at a1
    simp only [List.length_nil] at a1
    refine calls_W (args := [.agg (rcC r).toArray, .int .u8 p, .int .u8 x]) Try.func5 rfl 89 rfl ?_
    (repeat' (first | (refine WL_is ?_; first | refine WL_nil ?_ | refine wl_ ?_ | (refine WL_isFn ?_; refine WL_call rfl rfl rfl (law13_awake_calls _) ?_; rintro _ w_ ⟨rfl, hx_⟩; have hz_ := hx_.size; refine ⟨_, rfl, ?_⟩) | (refine WL_isFn ?_; refine WL_call rfl rfl rfl (a1 _) ?_; rintro _ w_ ⟨A_, c_, rfl, ho_, hx_⟩; have hz_ := hx_.size; have hr_ := own_rd ho_; have hq_ := own_cap ho_; refine ⟨_, rfl, ?_⟩)) | (refine WC_is ?_; first | refine WC_seq (fun _ _ => ?_) | refine wc_ ?_) | (refine WQ_is ?_; first | refine wq_ ?_) | (refine Kb.mk ?_; intro b_ w_ hb_ hl_ hx_ hB_) | (refine Ks.mk ?_; intro w_ hz_ hx_ hB_) | (refine Ko.mk ?_; intro A_ c_ w_ hx_ ho_ hr_; have hz_ := hx_.size; have hq_ := own_cap ho_) | (refine Kp.mk ?_; intro A_ c_ w_ hx_ hz_ ho_ hr_ hp_; have hq_ := own_cap ho_) | (refine Kl.mk ?_; intro b_ w_ hb_ hl_ hx_ hB_ ho_) | (refine Km.mk ?_; intro b_ w_ hb_ hl_ hx_ ho_) | (refine Ke.mk ?_; intro r_ hr_) | (refine Kg.mk ?_ ?_ <;> intro hs_ <;> (try simp only [strEq_t, strEq_f, decide_eq_true_eq, decide_eq_false_iff_not, beq_iff_eq, beq_eq_false_iff_ne, bne_iff_ne, bne_eq_false_iff_eq, Bool.not_eq_true', Bool.not_eq_false', Bool.not_true, Bool.not_false, gt_iff_lt, ge_iff_le, Int.not_lt, Int.not_le, ne_eq, Bool.false_eq_true, not_true_eq_false, reduceCtorEq] at hs_) <;> (try (exfalso; first | exact hs_ | (exact hs_ rfl) | omega))) ))
    all_goals exact ⟨by first | rfl | simp, ext_⟩
end Go.Proofs.Ytejdjpjaahfnaaa.K
