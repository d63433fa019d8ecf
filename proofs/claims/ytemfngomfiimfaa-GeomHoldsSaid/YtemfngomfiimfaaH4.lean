/- Chapter 10 (dev): Check, Open. Seat-free. -/
import Derived.Test.YtemfngomfiimfaaH3
set_option linter.unusedVariables false
set_option linter.unusedSimpArgs false
set_option maxHeartbeats 4000000
set_option maxRecDepth 20000
namespace Go.Proofs.Ytemfngomfiimfaa.K
open Go.RowKit
attribute [local irreducible] strEq strOfNums Calls WL WC WQ WX Code.wp wpList bodyPost
section
variable {P : Program} {ops : Array Oper} {Q : Exit → Act → World → Prop} {n : Nat} {E : Env} {w : World} {l : List Oper}
variable {dd : Option Tmp} {d : Nat} {ty : TypeId} {pos : String} {aft : Array Edge} {g : Option (Nat × Bool)}
theorem WL_inF {t t' : TypeId} {x y : Operand} {k : IntKind} {a b : Int} (hdn : Nat.ble (d + 1) n = true) (hw : wants ops E g = some true) (hx : evE E x = some (.int k a)) (hy : evE E y = some (.int k b)) (he : a = b)
    (h : WL P ops Q l n ((d, .bool false) :: E) w) : WL P ops Q (⟨some d, .binOp .neq t x y t', ty, pos, aft, g⟩ :: l) n E w := by
  subst he
  refine WL_pure rfl hdn hw (v := .bool false) ?_ h
  simp [pureOp, hx, hy]
theorem WL_inT {t t' : TypeId} {x y : Operand} {k : IntKind} {a b : Int} (hdn : Nat.ble (d + 1) n = true) (hw : wants ops E g = some true) (hx : evE E x = some (.int k a)) (hy : evE E y = some (.int k b)) (he : ¬ a = b)
    (h : WL P ops Q l n ((d, .bool true) :: E) w) : WL P ops Q (⟨some d, .binOp .neq t x y t', ty, pos, aft, g⟩ :: l) n E w := by
  refine WL_pure rfl hdn hw (v := .bool true) ?_ h
  simp [pureOp, hx, hy, he]
theorem WL_ieT {t t' : TypeId} {x y : Operand} {k : IntKind} {a b : Int} (hdn : Nat.ble (d + 1) n = true) (hw : wants ops E g = some true) (hx : evE E x = some (.int k a)) (hy : evE E y = some (.int k b)) (he : a = b)
    (h : WL P ops Q l n ((d, .bool true) :: E) w) : WL P ops Q (⟨some d, .binOp .eql t x y t', ty, pos, aft, g⟩ :: l) n E w := by
  subst he
  refine WL_pure rfl hdn hw (v := .bool true) ?_ h
  simp [pureOp, hx, hy]
theorem WL_ieF {t t' : TypeId} {x y : Operand} {k : IntKind} {a b : Int} (hdn : Nat.ble (d + 1) n = true) (hw : wants ops E g = some true) (hx : evE E x = some (.int k a)) (hy : evE E y = some (.int k b)) (he : ¬ a = b)
    (h : WL P ops Q l n ((d, .bool false) :: E) w) : WL P ops Q (⟨some d, .binOp .eql t x y t', ty, pos, aft, g⟩ :: l) n E w := by
  refine WL_pure rfl hdn hw (v := .bool false) ?_ h
  simp [pureOp, hx, hy, he]
end
abbrev FChk : FuncId := 29
theorem zp_load {zp : List (Zo × Sl)} {i : Nat} {p : Zo × Sl} (h : zp[i]? = some p) : ∀ j v, (zpC p)[j]? = some v → (catC zpC zp)[(i : Int).toNat * 3 + j]? = some v := by
  have hS := Seg.cat (f := zpC) (s := 3) zpC_length h
  intro j v hj
  have hlt : j < 3 := by have := (List.getElem?_eq_some_iff.1 hj).1; rwa [zpC_length] at this
  rw [Int.toNat_natCast, ← hj, ← hS.2.2, List.getElem?_take, if_pos hlt, List.getElem?_drop]
theorem dev_Check1_calls (z : Zo) (b : Sl) (d : Dv) (s : Ds) (bd : Nat) (w : World) (hz : Zst z) (hb : z.d.length = b.m) (hB : Blk w bd (dvC d s) DeT) :
    Calls Try.prog 29 #[.agg (zpC (z, b)).toArray, .pointer (some ⟨bd, 0, none⟩)] w fun e w' => e = .returned (.bool (!okZ z d.sz)) ∧ Ext w w' := by
  obtain ⟨A, m, c⟩ := b
  have a1 := fun w => zone_Check_calls z A m c d.sz w hz hb _ rfl
  refine calls_W (args := [.agg (zpC (z, ⟨A, m, c⟩)).toArray, .pointer (some ⟨bd, 0, none⟩)]) Try.func29 rfl 9 rfl ?_
  (repeat' (first | (refine WL_is ?_; first | refine WL_nil ?_ | refine wl_ ?_ | (refine WL_isFn ?_; refine WL_call rfl rfl rfl (a1 _) ?_; rintro _ w_ ⟨rfl, hx_⟩; have hz_ := hx_.size; refine ⟨_, rfl, ?_⟩)) | (refine WC_is ?_; first | refine WC_seq (fun _ _ => ?_) | refine wc_ ?_) | (refine WQ_is ?_; first | refine wq_ ?_ | refine WQ_bodyAC (Or.inl rfl) rfl rfl rfl blk_ lr_ blk_ ?_ | refine WQ_bodyAC (Or.inr rfl) rfl rfl rfl blk_ lr_ blk_ ?_) | (refine Kb.mk ?_; intro b_ w_ hb_ hl_ hx_ hB_) | (refine Ks.mk ?_; intro w_ hz_ hx_ hB_) | (refine Ko.mk ?_; intro A_ c_ w_ hx_ ho_ hr_; have hz_ := hx_.size; have hq_ := own_cap ho_) | (refine Kp.mk ?_; intro A_ c_ w_ hx_ hz_ ho_ hr_ hp_; have hq_ := own_cap ho_) | (refine Kl.mk ?_; intro b_ w_ hb_ hl_ hx_ hB_ ho_) | (refine Km.mk ?_; intro b_ w_ hb_ hl_ hx_ ho_) | (refine Ke.mk ?_; intro r_ hr_) | (refine Kg.mk ?_ ?_ <;> intro hs_ <;> (try simp only [strEq_t, strEq_f, decide_eq_true_eq, decide_eq_false_iff_not, beq_iff_eq, beq_eq_false_iff_ne, bne_iff_ne, bne_eq_false_iff_eq, Bool.not_eq_true', Bool.not_eq_false', Bool.not_true, Bool.not_false, gt_iff_lt, ge_iff_le, Int.not_lt, Int.not_le, ne_eq, Bool.false_eq_true, not_true_eq_false, reduceCtorEq] at hs_) <;> (try (exfalso; first | exact hs_ | (exact hs_ rfl) | omega))) ))
  all_goals exact ⟨rfl, ext_⟩
theorem slices_IndexFunc_calls (zp : List (Zo × Sl)) (d : Dv) (s : Ds) (bd : Nat) (A : Option Addr) (m c : Nat) (w : World) (hm : zp.length = m) (hs : m ≤ 1000000) (hzw : ∀ p ∈ zp, Zst p.1) (hzb : ∀ p ∈ zp, p.1.d.length = p.2.m) (hC : Cells w A (catC zpC zp)) (hB : Blk w bd (dvC d s) DeT) :
    Calls Try.prog 31 #[.slice A m c, .func (.func FChk) #[] #[.pointer (some ⟨bd, 0, none⟩)]] w fun e w' => ∃ r : Int, e = .returned (.int .i64 r) ∧ (0 ≤ r ↔ ¬ ∀ p ∈ zp, OkZ p.1 d.sz) ∧ Ext w w' := by
  have hcl : (catC zpC zp).length = m * 3 := by rw [catC_length zpC_length, hm]
  refine calls_W (args := [.slice A m c, .func (.func FChk) #[] #[.pointer (some ⟨bd, 0, none⟩)]]) Try.func31 rfl 19 rfl ?_
  (repeat' (first | (refine WL_is ?_; first | refine WL_nil ?_ | refine wl_ ?_ ) | (refine WC_is ?_; first | refine WC_seq (fun _ _ => ?_) | refine wc_ ?_) | (refine WQ_is ?_; first | refine wq_ ?_ | refine WQ_bodyAC (Or.inl rfl) rfl rfl rfl blk_ lr_ blk_ ?_ | refine WQ_bodyAC (Or.inr rfl) rfl rfl rfl blk_ lr_ blk_ ?_) | (refine Kb.mk ?_; intro b_ w_ hb_ hl_ hx_ hB_) | (refine Ks.mk ?_; intro w_ hz_ hx_ hB_) | (refine Ko.mk ?_; intro A_ c_ w_ hx_ ho_ hr_; have hz_ := hx_.size; have hq_ := own_cap ho_) | (refine Kp.mk ?_; intro A_ c_ w_ hx_ hz_ ho_ hr_ hp_; have hq_ := own_cap ho_) | (refine Kl.mk ?_; intro b_ w_ hb_ hl_ hx_ hB_ ho_) | (refine Km.mk ?_; intro b_ w_ hb_ hl_ hx_ ho_) | (refine Ke.mk ?_; intro r_ hr_) | (refine Kg.mk ?_ ?_ <;> intro hs_ <;> (try simp only [strEq_t, strEq_f, decide_eq_true_eq, decide_eq_false_iff_not, beq_iff_eq, beq_eq_false_iff_ne, bne_iff_ne, bne_eq_false_iff_eq, Bool.not_eq_true', Bool.not_eq_false', Bool.not_true, Bool.not_false, gt_iff_lt, ge_iff_le, Int.not_lt, Int.not_le, ne_eq, Bool.false_eq_true, not_true_eq_false, reduceCtorEq] at hs_) <;> (try (exfalso; first | exact hs_ | (exact hs_ rfl) | omega))) ))
  refine WC_loopL (X := Nat) [0, 1, 7] rfl (fun i w' => (i ≤ m ∧ ∀ j p, j < i → zp[j]? = some p → OkZ p.1 d.sz) ∧ Ext w w') (fun i => [(8, .int .i64 i)]) (fun i => m - i) 0 ⟨⟨om_, fun j p h => absurd h om_⟩, ext_⟩ env_ ?_
  intro i w2 ⟨⟨hi, hok⟩, hx2⟩ K hK
  have hz2 := hx2.size
  rcases Nat.lt_or_ge i m with hlt | hge
  · obtain ⟨p, hp⟩ : ∃ p, zp[i]? = some p := ⟨_, List.getElem?_eq_getElem om_⟩
    have hmem := List.mem_of_getElem? hp
    have hld := zp_load hp
    have hpl := zpC_length p
    have a1 := fun w hB => dev_Check1_calls p.1 p.2 d s bd w (hzw p hmem) (hzb p hmem) hB
    by_cases hO : OkZ p.1 d.sz
    · rw [okZ_t hO] at a1
      (repeat' (first | (refine WL_is ?_; first | refine WL_nil ?_ | (refine WL_isIndexAddr ?_; refine WL_indexS rfl rfl rfl rfl cells_ om_ om_ om_ ?_) | (refine WL_isLoad ?_; refine WL_loadPA rfl rfl rfl cells_ hpl om_ hld ?_) | refine wl_ ?_ | (refine WL_callv rfl rfl rfl rfl (a1 _ blk_) rfl ?_; rintro _ w_ ⟨rfl, hx_⟩; have hz_ := hx_.size; refine ⟨_, rfl, ?_⟩)) | (refine WC_is ?_; first | refine WC_seq (fun _ _ => ?_) | refine wc_ ?_) | (refine WQ_is ?_; first | refine wq_ ?_ | refine WQ_bodyAC (Or.inl rfl) rfl rfl rfl blk_ lr_ blk_ ?_ | refine WQ_bodyAC (Or.inr rfl) rfl rfl rfl blk_ lr_ blk_ ?_) | (refine Kb.mk ?_; intro b_ w_ hb_ hl_ hx_ hB_) | (refine Ks.mk ?_; intro w_ hz_ hx_ hB_) | (refine Ko.mk ?_; intro A_ c_ w_ hx_ ho_ hr_; have hz_ := hx_.size; have hq_ := own_cap ho_) | (refine Kp.mk ?_; intro A_ c_ w_ hx_ hz_ ho_ hr_ hp_; have hq_ := own_cap ho_) | (refine Kl.mk ?_; intro b_ w_ hb_ hl_ hx_ hB_ ho_) | (refine Km.mk ?_; intro b_ w_ hb_ hl_ hx_ ho_) | (refine Ke.mk ?_; intro r_ hr_) | (refine Kg.mk ?_ ?_ <;> intro hs_ <;> (try simp only [strEq_t, strEq_f, decide_eq_true_eq, decide_eq_false_iff_not, beq_iff_eq, beq_eq_false_iff_ne, bne_iff_ne, bne_eq_false_iff_eq, Bool.not_eq_true', Bool.not_eq_false', Bool.not_true, Bool.not_false, gt_iff_lt, ge_iff_le, Int.not_lt, Int.not_le, ne_eq, Bool.false_eq_true, not_true_eq_false, reduceCtorEq] at hs_) <;> (try (exfalso; first | exact hs_ | (exact hs_ rfl) | omega))) ))
      all_goals first | (exfalso; omega) | exact WQ_againL hK (i + 1) ⟨⟨om_, fun j q hj hq => by
          rcases Nat.lt_or_ge j i with h | h
          · exact hok j q h hq
          · obtain rfl : j = i := by omega
            rw [hp] at hq; cases hq; exact hO⟩, ext_⟩ env_ om_
    · rw [okZ_f hO] at a1
      (repeat' (first | (refine WL_is ?_; first | refine WL_nil ?_ | (refine WL_isIndexAddr ?_; refine WL_indexS rfl rfl rfl rfl cells_ om_ om_ om_ ?_) | (refine WL_isLoad ?_; refine WL_loadPA rfl rfl rfl cells_ hpl om_ hld ?_) | refine wl_ ?_ | (refine WL_callv rfl rfl rfl rfl (a1 _ blk_) rfl ?_; rintro _ w_ ⟨rfl, hx_⟩; have hz_ := hx_.size; refine ⟨_, rfl, ?_⟩)) | (refine WC_is ?_; first | refine WC_seq (fun _ _ => ?_) | refine wc_ ?_) | (refine WQ_is ?_; first | refine wq_ ?_ | refine WQ_bodyAC (Or.inl rfl) rfl rfl rfl blk_ lr_ blk_ ?_ | refine WQ_bodyAC (Or.inr rfl) rfl rfl rfl blk_ lr_ blk_ ?_) | (refine Kb.mk ?_; intro b_ w_ hb_ hl_ hx_ hB_) | (refine Ks.mk ?_; intro w_ hz_ hx_ hB_) | (refine Ko.mk ?_; intro A_ c_ w_ hx_ ho_ hr_; have hz_ := hx_.size; have hq_ := own_cap ho_) | (refine Kp.mk ?_; intro A_ c_ w_ hx_ hz_ ho_ hr_ hp_; have hq_ := own_cap ho_) | (refine Kl.mk ?_; intro b_ w_ hb_ hl_ hx_ hB_ ho_) | (refine Km.mk ?_; intro b_ w_ hb_ hl_ hx_ ho_) | (refine Ke.mk ?_; intro r_ hr_) | (refine Kg.mk ?_ ?_ <;> intro hs_ <;> (try simp only [strEq_t, strEq_f, decide_eq_true_eq, decide_eq_false_iff_not, beq_iff_eq, beq_eq_false_iff_ne, bne_iff_ne, bne_eq_false_iff_eq, Bool.not_eq_true', Bool.not_eq_false', Bool.not_true, Bool.not_false, gt_iff_lt, ge_iff_le, Int.not_lt, Int.not_le, ne_eq, Bool.false_eq_true, not_true_eq_false, reduceCtorEq] at hs_) <;> (try (exfalso; first | exact hs_ | (exact hs_ rfl) | omega))) ))
      all_goals first | (exfalso; omega) | exact ⟨_, rfl, ⟨fun _ h => hO (h p hmem), fun _ => by omega⟩, ext_⟩
  · obtain rfl : i = m := by omega
    (repeat' (first | (refine WL_is ?_; first | refine WL_nil ?_ | refine wl_ ?_ ) | (refine WC_is ?_; first | refine WC_seq (fun _ _ => ?_) | refine wc_ ?_) | (refine WQ_is ?_; first | refine wq_ ?_ | refine WQ_bodyAC (Or.inl rfl) rfl rfl rfl blk_ lr_ blk_ ?_ | refine WQ_bodyAC (Or.inr rfl) rfl rfl rfl blk_ lr_ blk_ ?_) | (refine Kb.mk ?_; intro b_ w_ hb_ hl_ hx_ hB_) | (refine Ks.mk ?_; intro w_ hz_ hx_ hB_) | (refine Ko.mk ?_; intro A_ c_ w_ hx_ ho_ hr_; have hz_ := hx_.size; have hq_ := own_cap ho_) | (refine Kp.mk ?_; intro A_ c_ w_ hx_ hz_ ho_ hr_ hp_; have hq_ := own_cap ho_) | (refine Kl.mk ?_; intro b_ w_ hb_ hl_ hx_ hB_ ho_) | (refine Km.mk ?_; intro b_ w_ hb_ hl_ hx_ ho_) | (refine Ke.mk ?_; intro r_ hr_) | (refine Kg.mk ?_ ?_ <;> intro hs_ <;> (try simp only [strEq_t, strEq_f, decide_eq_true_eq, decide_eq_false_iff_not, beq_iff_eq, beq_eq_false_iff_ne, bne_iff_ne, bne_eq_false_iff_eq, Bool.not_eq_true', Bool.not_eq_false', Bool.not_true, Bool.not_false, gt_iff_lt, ge_iff_le, Int.not_lt, Int.not_le, ne_eq, Bool.false_eq_true, not_true_eq_false, reduceCtorEq] at hs_) <;> (try (exfalso; first | exact hs_ | (exact hs_ rfl) | omega))) ))
    all_goals first | (exfalso; omega) | exact ⟨_, rfl, ⟨fun h => absurd h (by decide), fun h => absurd (fun p hp => by
      obtain ⟨j, hj, e⟩ := List.getElem_of_mem hp
      exact hok j p om_ (by rw [List.getElem?_eq_getElem hj, e])) h⟩, ext_⟩
end Go.Proofs.Ytemfngomfiimfaa.K
