/- Chapter 14 (slot): two lists of the same commands are the same. Seat-free. -/
import Derived.Test.YtejdjpjaahfnaaaU5
set_option linter.unusedVariables false
set_option linter.unusedSimpArgs false
set_option maxHeartbeats 4000000
set_option maxRecDepth 20000
namespace Go.Proofs.Ytejdjpjaahfnaaa.K
open Go.RowKit
attribute [local irreducible] strEq strOfNums Calls WL WC WQ WX Code.wp wpList bodyPost
theorem cv_at {zs : List Cv} {i : Nat} {z : Cv} (h : zs[i]? = some z) : (catC cvC zs)[(i : Int).toNat * 3 + 0]? = some (.int .i64 z.k) ∧ (catC cvC zs)[(i : Int).toNat * 3 + 1]? = some (.int .i64 z.n) ∧ (catC cvC zs)[(i : Int).toNat * 3 + 2]? = some (.slice z.B z.m z.c) := by
  have hS := Seg.cat (f := cvC) (s := 3) cvC_length h
  have e : ∀ k, k < 3 → (catC cvC zs)[i * 3 + k]? = (cvC z)[k]? := fun k hk => by
    rw [← hS.2.2, List.getElem?_take, if_pos hk, List.getElem?_drop]
  rw [Int.toNat_natCast]
  exact ⟨e 0 om_, e 1 om_, e 2 om_⟩
section
variable {P : Program} {ops : Array Oper} {Q : Exit → Act → World → Prop} {n : Nat} {E : Env} {w : World} {l : List Oper}
variable {dd : Option Tmp} {d : Nat} {ty : TypeId} {pos : String} {aft : Array Edge} {g : Option (Nat × Bool)}
theorem WL_sneF {t t' : TypeId} {x y : Operand} {a b : ByteArray} (hdn : Nat.ble (d + 1) n = true) (hw : wants ops E g = some true) (hx : evE E x = some (.string a)) (hy : evE E y = some (.string b)) (he : strEq a b = true)
    (h : WL P ops Q l n ((d, .bool false) :: E) w) : WL P ops Q (⟨some d, .binOp .neq t x y t', ty, pos, aft, g⟩ :: l) n E w :=
  WL_sne_ hdn hw hx hy rfl (by rw [he]; exact h)
theorem WL_ineF {t t' : TypeId} {x y : Operand} {k : IntKind} {a b : Int} (hdn : Nat.ble (d + 1) n = true) (hw : wants ops E g = some true) (hx : evE E x = some (.int k a)) (hy : evE E y = some (.int k b)) (he : a = b)
    (h : WL P ops Q l n ((d, .bool false) :: E) w) : WL P ops Q (⟨some d, .binOp .neq t x y t', ty, pos, aft, g⟩ :: l) n E w := by
  subst he
  refine WL_pure rfl hdn hw (v := .bool false) ?_ h
  simp [pureOp, hx, hy]
theorem WL_ieqT {t t' : TypeId} {x y : Operand} {k : IntKind} {a b : Int} (hdn : Nat.ble (d + 1) n = true) (hw : wants ops E g = some true) (hx : evE E x = some (.int k a)) (hy : evE E y = some (.int k b)) (he : a = b)
    (h : WL P ops Q l n ((d, .bool true) :: E) w) : WL P ops Q (⟨some d, .binOp .eql t x y t', ty, pos, aft, g⟩ :: l) n E w := by
  subst he
  refine WL_pure rfl hdn hw (v := .bool true) ?_ h
  simp [pureOp, hx, hy]
end
theorem ref14_Same_calls (zs us : List Cv) (cs : List Cm) (A B : Option Addr) (c d : Nat) (w : World) (hz : Cells w A (catC cvC zs)) (hu : Cells w B (catC cvC us)) (m1 : MC w zs cs) (m2 : MC w us cs) (hn : zs.length ≤ 1000000) :
    Calls Try.prog 32 #[.slice A zs.length c, .slice B us.length d] w fun e w' => e = .returned (.bool true) ∧ Ext w w' := by
  have hl : us.length = zs.length := by rw [m1.length, m2.length]
  have hzl : (catC cvC zs).length = zs.length * 3 := catC_length cvC_length zs
  have hul : (catC cvC us).length = us.length * 3 := catC_length cvC_length us
  rw [hl] at hul ⊢
  refine calls_W (args := [.slice A zs.length c, .slice B zs.length d]) Try.func32 rfl 56 rfl ?_
  (repeat' (first | (refine WL_is ?_; first | refine WL_nil ?_ | refine wl_ ?_ ) | (refine WC_is ?_; first | refine WC_seq (fun _ _ => ?_) | refine wc_ ?_) | (refine WQ_is ?_; first | refine wq_ ?_ | refine WQ_bodyCTT (Or.inl rfl) rfl rfl rfl rfl blk_ lr_ ?_ | refine WQ_bodyCTT (Or.inr rfl) rfl rfl rfl rfl blk_ lr_ ?_) | (refine Kb.mk ?_; intro b_ w_ hb_ hl_ hx_ hB_) | (refine Ks.mk ?_; intro w_ hz_ hx_ hB_) | (refine Ko.mk ?_; intro A_ c_ w_ hx_ ho_ hr_; have hz_ := hx_.size; have hq_ := own_cap ho_) | (refine Kp.mk ?_; intro A_ c_ w_ hx_ hz_ ho_ hr_ hp_; have hq_ := own_cap ho_) | (refine Kl.mk ?_; intro b_ w_ hb_ hl_ hx_ hB_ ho_) | (refine Km.mk ?_; intro b_ w_ hb_ hl_ hx_ ho_) | (refine Ke.mk ?_; intro r_ hr_) | (refine Kg.mk ?_ ?_ <;> intro hs_ <;> (try simp only [strEq_t, strEq_f, decide_eq_true_eq, decide_eq_false_iff_not, beq_iff_eq, beq_eq_false_iff_ne, bne_iff_ne, bne_eq_false_iff_eq, Bool.not_eq_true', Bool.not_eq_false', Bool.not_true, Bool.not_false, gt_iff_lt, ge_iff_le, Int.not_lt, Int.not_le, ne_eq, Bool.false_eq_true, not_true_eq_false, reduceCtorEq] at hs_) <;> (try (exfalso; first | exact hs_ | (exact hs_ rfl) | omega))) ))
  refine WC_loopL (X := Nat) [0, 1] rfl (fun i w' => i ≤ zs.length ∧ Ext w w') (fun i => [(5, .int .i64 i)]) (fun i => zs.length - i) 0 ⟨om_, ext_⟩ env_ ?_
  intro i w2 ⟨hi, hx2⟩ K hK
  have hz2 := hx2.size
  rcases Nat.lt_or_ge i zs.length with hlt | hge
  · obtain ⟨z, c1, ez, ec, k1, k2, k3, k4, k5⟩ := m1.get hlt
    obtain ⟨u, c2, eu, ec2, l1, l2, l3, l4, l5⟩ := m2.get (i := i) om_
    obtain rfl : c1 = c2 := by rw [ec] at ec2; exact Option.some.inj ec2
    obtain ⟨p1, p2, p3⟩ := cv_at ez
    obtain ⟨q1, q2, q3⟩ := cv_at eu
    rw [k1] at p1; rw [k2] at p2; rw [l1] at q1; rw [l2] at q2
    obtain ⟨D, hD⟩ : ∃ D, c1.d = D := ⟨_, rfl⟩
    rw [hD] at k3 k5 l3 l5
    obtain ⟨ZC, hZC⟩ : ∃ x, catC cvC zs = x := ⟨_, rfl⟩
    obtain ⟨UC, hUC⟩ : ∃ x, catC cvC us = x := ⟨_, rfl⟩
    rw [hZC] at hz hzl p1 p2 p3
    rw [hUC] at hu hul q1 q2 q3
    clear m1 m2
    (repeat' (first | (refine WL_is ?_; first | refine WL_nil ?_ | (refine WL_isIndexAddr ?_; refine WL_indexS rfl rfl rfl rfl cells_ om_ om_ om_ ?_) | (refine WL_fieldP rfl rfl rfl cells_ om_ ?_) | (refine WL_isLoad ?_; first | refine WL_loadP rfl rfl rfl (Cells.ext hz ext_) as_ ?_ | refine WL_loadP rfl rfl rfl (Cells.ext hu ext_) as_ ?_) | (refine WL_isBin ?_; first | refine WL_ineF rfl rfl rfl rfl rfl ?_ | refine WL_sneF rfl rfl rfl rfl strEq_self ?_) | (refine WL_isConv ?_; first | refine WL_str2 rfl rfl rfl (Cells.ext k5 ext_) k3 ?_ | refine WL_str2 rfl rfl rfl (Cells.ext l5 ext_) l3 ?_) | refine wl_ ?_ ) | (refine WC_is ?_; first | refine WC_seq (fun _ _ => ?_) | refine WC_orderT (.rd true 0 (.rd true 1 (.rd true 2 (.rd true 3 (.rd true 4 (.rd true 5 (.rd true 6 (.rd true 7 (.rd true 8 (.rd true 9 (.rd true 10 (.rd true 11 (.rd true 12 (.rd true 13 (.rd true 14 (.rd true 15 (.rd true 16 (.rd true 17 (.rd true 18 (.rd true 19 (.rd true 20 (.rd true 21 (.rd true 22 (.rd true 23 (.rd true 24 (.rd true 25 (.rd true 26 (.rd true 27 (.rd true 28 (.rd true 29 (.rd true 30 (.rd true 31 (.rd true 32 (.rd true 33 (.rd true 34 (.rd true 35 (.rd true 36 (.rd true 37 (.rd true 38 .nil))))))))))))))))))))))))))))))))))))))) [] [] 6 (by kernel_rfl) (by kernel_rfl) (fun w_ hx_ hz_ => ?_) | refine wc_ ?_) | (refine WQ_is ?_; first | refine wq_ ?_ | refine WQ_bodyCTT (Or.inl rfl) rfl rfl rfl rfl blk_ lr_ ?_ | refine WQ_bodyCTT (Or.inr rfl) rfl rfl rfl rfl blk_ lr_ ?_) | (refine Kb.mk ?_; intro b_ w_ hb_ hl_ hx_ hB_) | (refine Ks.mk ?_; intro w_ hz_ hx_ hB_) | (refine Ko.mk ?_; intro A_ c_ w_ hx_ ho_ hr_; have hz_ := hx_.size; have hq_ := own_cap ho_) | (refine Kp.mk ?_; intro A_ c_ w_ hx_ hz_ ho_ hr_ hp_; have hq_ := own_cap ho_) | (refine Kl.mk ?_; intro b_ w_ hb_ hl_ hx_ hB_ ho_) | (refine Km.mk ?_; intro b_ w_ hb_ hl_ hx_ ho_) | (refine Ke.mk ?_; intro r_ hr_) | (refine Kg.mk ?_ ?_ <;> intro hs_ <;> (try simp only [strEq_t, strEq_f, decide_eq_true_eq, decide_eq_false_iff_not, beq_iff_eq, beq_eq_false_iff_ne, bne_iff_ne, bne_eq_false_iff_eq, Bool.not_eq_true', Bool.not_eq_false', Bool.not_true, Bool.not_false, gt_iff_lt, ge_iff_le, Int.not_lt, Int.not_le, ne_eq, Bool.false_eq_true, not_true_eq_false, reduceCtorEq] at hs_) <;> (try (exfalso; first | exact hs_ | (exact hs_ rfl) | omega))) | (refine WX_is ?_; first | refine wx_ ?_ | exact WX_altnil | (refine WX_isRd ?_; first | (refine WX_isT ?_; refine WX_readT rfl rfl rfl rfl rfl (by (first | (refine WL_isIndexAddr ?_; refine WL_indexS rfl rfl rfl rfl cells_ om_ om_ om_ ?_) | (refine WL_fieldP rfl rfl rfl cells_ om_ ?_) | (refine WL_isLoad ?_; first | refine WL_loadP rfl rfl rfl (Cells.ext hz ext_) as_ ?_ | refine WL_loadP rfl rfl rfl (Cells.ext hu ext_) as_ ?_) | (refine WL_isBin ?_; first | refine WL_ineF rfl rfl rfl rfl rfl ?_ | refine WL_sneF rfl rfl rfl rfl strEq_self ?_) | (refine WL_isConv ?_; first | refine WL_str2 rfl rfl rfl (Cells.ext k5 ext_) k3 ?_ | refine WL_str2 rfl rfl rfl (Cells.ext l5 ext_) l3 ?_) | refine wl_ ?_); refine WL_nil ?_; exact DR_mk rfl) ?_) | (refine WX_isF ?_; refine WX_read rfl rfl rfl rfl rfl (fun w_ hx_ => by (first | (refine WL_isIndexAddr ?_; refine WL_indexS rfl rfl rfl rfl cells_ om_ om_ om_ ?_) | (refine WL_fieldP rfl rfl rfl cells_ om_ ?_) | (refine WL_isLoad ?_; first | refine WL_loadP rfl rfl rfl (Cells.ext hz ext_) as_ ?_ | refine WL_loadP rfl rfl rfl (Cells.ext hu ext_) as_ ?_) | (refine WL_isBin ?_; first | refine WL_ineF rfl rfl rfl rfl rfl ?_ | refine WL_sneF rfl rfl rfl rfl strEq_self ?_) | (refine WL_isConv ?_; first | refine WL_str2 rfl rfl rfl (Cells.ext k5 ext_) k3 ?_ | refine WL_str2 rfl rfl rfl (Cells.ext l5 ext_) l3 ?_) | refine wl_ ?_); refine WL_nil ?_; exact DR_mk rfl) ?_) | refine wxg_ ?_) | (refine WX_isAct ?_; first | refine WX_eff1 rfl (fun _ _ => ?_) | refine WX_eff rfl (fun _ _ => ?_) ?_))))
    all_goals first | (exfalso; omega) | exact WQ_againL hK (i + 1) ⟨om_, ext_⟩ env_ om_
  · obtain rfl : i = zs.length := by omega
    (repeat' (first | (refine WL_is ?_; first | refine WL_nil ?_ | refine wl_ ?_ ) | (refine WC_is ?_; first | refine WC_seq (fun _ _ => ?_) | refine wc_ ?_) | (refine WQ_is ?_; first | refine wq_ ?_ | refine WQ_bodyCTT (Or.inl rfl) rfl rfl rfl rfl blk_ lr_ ?_ | refine WQ_bodyCTT (Or.inr rfl) rfl rfl rfl rfl blk_ lr_ ?_) | (refine Kb.mk ?_; intro b_ w_ hb_ hl_ hx_ hB_) | (refine Ks.mk ?_; intro w_ hz_ hx_ hB_) | (refine Ko.mk ?_; intro A_ c_ w_ hx_ ho_ hr_; have hz_ := hx_.size; have hq_ := own_cap ho_) | (refine Kp.mk ?_; intro A_ c_ w_ hx_ hz_ ho_ hr_ hp_; have hq_ := own_cap ho_) | (refine Kl.mk ?_; intro b_ w_ hb_ hl_ hx_ hB_ ho_) | (refine Km.mk ?_; intro b_ w_ hb_ hl_ hx_ ho_) | (refine Ke.mk ?_; intro r_ hr_) | (refine Kg.mk ?_ ?_ <;> intro hs_ <;> (try simp only [strEq_t, strEq_f, decide_eq_true_eq, decide_eq_false_iff_not, beq_iff_eq, beq_eq_false_iff_ne, bne_iff_ne, bne_eq_false_iff_eq, Bool.not_eq_true', Bool.not_eq_false', Bool.not_true, Bool.not_false, gt_iff_lt, ge_iff_le, Int.not_lt, Int.not_le, ne_eq, Bool.false_eq_true, not_true_eq_false, reduceCtorEq] at hs_) <;> (try (exfalso; first | exact hs_ | (exact hs_ rfl) | omega))) ))
    all_goals first | (exfalso; omega) | exact ⟨rfl, ext_⟩
end Go.Proofs.Ytejdjpjaahfnaaa.K
