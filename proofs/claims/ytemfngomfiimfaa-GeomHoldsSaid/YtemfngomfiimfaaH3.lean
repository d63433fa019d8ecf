/- Chapter 10 (dev): own: a device in memory of its own, with which something was done. Seat-free. -/
import Derived.Test.YtemfngomfiimfaaH2
set_option linter.unusedVariables false
set_option linter.unusedSimpArgs false
set_option maxHeartbeats 4000000
set_option maxRecDepth 20000
namespace Go.Proofs.Ytemfngomfiimfaa.K
open Go.RowKit
attribute [local irreducible] strEq strOfNums Calls WL WC WQ WX Code.wp wpList bodyPost
theorem zp_set1 {zp : List (Zo × Sl)} {rest : List Value} {i : Nat} {p : Zo × Sl} (h : zp[i]? = some p) (b : Sl) : (catC zpC zp ++ rest).set (0 + i * 3 + 1) (slV b) = catC zpC (zp.set i (p.1, b)) ++ rest := by
  have hi : i < zp.length := (List.getElem?_eq_some_iff.1 h).1
  have hS := Seg.cat (f := zpC) (s := 3) zpC_length h
  have hP := Put.cat (f := zpC) zpC_length (p.1, b) hi
  have hl := catC_length zpC_length zp
  have e1 : catC zpC zp = (catC zpC zp).take (i * 3) ++ (zpC p ++ (catC zpC zp).drop (i * 3 + 3)) := by
    rw [← hS.2.2, ← List.drop_drop, List.take_append_drop, List.take_append_drop]
  have hlt : ((catC zpC zp).take (i * 3)).length = i * 3 := by rw [List.length_take, hl]; omega
  rw [← hP.2, Nat.zero_add]
  generalize (catC zpC zp).drop (i * 3 + 3) = D at e1
  generalize hT : (catC zpC zp).take (i * 3) = T at *
  have e2 : (catC zpC zp).drop (i * 3 + (zpC (p.1, b)).length) = D := by
    rw [e1, List.drop_append, hlt, List.drop_of_length_le (by rw [hlt]; omega), List.nil_append, show i * 3 + (zpC (p.1, b)).length - i * 3 = 3 from by rw [zpC_length]; omega]
    rfl
  rw [e2, e1, List.append_assoc, List.set_append, if_neg om_, hlt, show i * 3 + 1 - i * 3 = 1 by omega, List.append_assoc]
  show T ++ (zpC (p.1, b) ++ (D ++ rest)) = _
  simp only [List.append_assoc]
theorem zp_rest {zp : List (Zo × Sl)} {rest : List Value} {i : Nat} {p : Zo × Sl} (h : zp[i]? = some p) : (catC zpC zp ++ rest)[0 + i * 3 + 0]? = some (.int .i64 p.1.s) ∧ (catC zpC zp ++ rest)[0 + i * 3 + 1]? = some (slV p.2) ∧ (catC zpC zp ++ rest)[0 + i * 3 + 2]? = some (.int .i64 p.1.l) ∧ 0 + i * 3 + 1 < (catC zpC zp ++ rest).length := by
  have hi : i < zp.length := (List.getElem?_eq_some_iff.1 h).1
  have hl := catC_length zpC_length zp
  obtain ⟨h0, h1, h2⟩ := zp_at h
  rw [Int.toNat_natCast] at h0 h1 h2
  have e : ∀ k, k < 3 → (catC zpC zp ++ rest)[0 + i * 3 + k]? = (catC zpC zp)[i * 3 + k]? := fun k hk => by rw [Nat.zero_add, List.getElem?_append_left om_]
  exact ⟨(e 0 om_).trans h0, (e 1 om_).trans h1, (e 2 om_).trans h2, by rw [List.length_append]; omega⟩
/-- What loop 1 of own leaves behind i rounds. -/
def ZQ (w0 : World) (N : Nat) (w : World) (d : Dv) (i : Nat) (zq : List (Zo × Sl)) : Prop := zq.map (·.1) = d.zs ∧ ∀ j p, zq[j]? = some p → if j < i then OwB N w p.2 p.1.d else SlB w0 p.2 p.1.d
theorem ZQ.ext {w0 w w' : World} {N : Nat} {d : Dv} {i : Nat} {zq : List (Zo × Sl)} (h : ZQ w0 N w d i zq) (k : Ext w w') : ZQ w0 N w' d i zq := ⟨h.1, fun j p hj => by
  have := h.2 j p hj
  split
  · rename_i hlt; rw [if_pos hlt] at this; exact this.ext k
  · rename_i hlt; rw [if_neg hlt] at this; exact this⟩
theorem ZQ.put {w0 w w' : World} {N : Nat} {d : Dv} {i : Nat} {zq : List (Zo × Sl)} {g : Nat} {cs : List Value} {T : TypeId} (h : ZQ w0 N w d i zq) (hB : Blk w g cs T) (hne : ByT ≠ T) (k : ExtB g w w') : ZQ w0 N w' d i zq := ⟨h.1, fun j p hj => by
  have := h.2 j p hj
  split
  · rename_i hlt; rw [if_pos hlt] at this; exact this.put hB hne k
  · rename_i hlt; rw [if_neg hlt] at this; exact this⟩
theorem ZQ.next {w0 w : World} {N : Nat} {d : Dv} {i : Nat} {zq : List (Zo × Sl)} {p : Zo × Sl} {b : Sl} (h : ZQ w0 N w d i zq) (hp : zq[i]? = some p) (hb : OwB N w b p.1.d) : ZQ w0 N w d (i + 1) (zq.set i (p.1, b)) := by
  have hi : i < zq.length := (List.getElem?_eq_some_iff.1 hp).1
  have hpe : zq[i] = p := (List.getElem?_eq_some_iff.1 hp).2
  refine ⟨?_, fun j q hj => ?_⟩
  · rw [List.map_set, h.1]
    have : d.zs[i]? = some p.1 := by rw [← h.1, List.getElem?_map, hp]; rfl
    obtain ⟨h1, h2⟩ := List.getElem?_eq_some_iff.1 this
    show d.zs.set i p.1 = d.zs
    rw [← h2]; exact List.set_getElem_self _
  · rw [List.getElem?_set] at hj
    split at hj
    · rename_i e
      subst e
      cases hj
      rw [if_pos om_]
      exact hb
    · rename_i e
      have := h.2 j q hj
      by_cases hlt : j < i
      · rw [if_pos hlt] at this; rw [if_pos om_]; exact this
      · rw [if_neg hlt] at this; rw [if_neg om_]; exact this
/-- What loop 2 leaves. -/
def RQ (w0 : World) (N : Nat) (w : World) (k i : Nat) (s : Sl) (xs : List Int) : Prop := if k < i then OwB N w s xs else SlB w0 s xs
theorem RQ.ext {w0 w w' : World} {N k i : Nat} {s : Sl} {xs : List Int} (h : RQ w0 N w k i s xs) (e : Ext w w') : RQ w0 N w' k i s xs := by
  unfold RQ at *
  split
  · rename_i hlt; rw [if_pos hlt] at h; exact h.ext e
  · rename_i hlt; rw [if_neg hlt] at h; exact h
theorem RQ.put {w0 w w' : World} {N k i g : Nat} {s : Sl} {xs : List Int} {cs : List Value} {T : TypeId} (h : RQ w0 N w k i s xs) (hB : Blk w g cs T) (hne : ByT ≠ T) (e : ExtB g w w') : RQ w0 N w' k i s xs := by
  unfold RQ at *
  split
  · rename_i hlt; rw [if_pos hlt] at h; exact h.put hB hne e
  · rename_i hlt; rw [if_neg hlt] at h; exact h
theorem OwB.keepo {N : Nat} {w w' : World} {s : Sl} {xs : List Int} (h : OwB N w s xs) (k : KeepO N w.heap.size 0 0 w w') : OwB N w' s xs := own_go h (Nat.le_refl _) k
theorem RQ.keepo {w0 w w' : World} {N k i : Nat} {s : Sl} {xs : List Int} (h : RQ w0 N w k i s xs) (e : KeepO N w.heap.size 0 0 w w') : RQ w0 N w' k i s xs := by
  unfold RQ at *
  split
  · rename_i hlt; rw [if_pos hlt] at h; exact h.keepo e
  · rename_i hlt; rw [if_neg hlt] at h; exact h
theorem RQ.old {w0 w : World} {N k i : Nat} {s : Sl} {xs : List Int} (h : RQ w0 N w k i s xs) (hk : ¬ k < i) : SlB w0 s xs := by unfold RQ at h; rw [if_neg hk] at h; exact h
theorem RQ.new {w0 w : World} {N k i : Nat} {s : Sl} {xs : List Int} (h : RQ w0 N w k i s xs) (hk : k < i) : OwB N w s xs := by unfold RQ at h; rw [if_pos hk] at h; exact h
theorem RQ.step {w0 w : World} {N k i : Nat} {s : Sl} {xs : List Int} (h : RQ w0 N w k i s xs) (hk : k ≠ i) : RQ w0 N w k (i + 1) s xs := by
  unfold RQ at *
  split
  · rename_i hlt; rw [if_pos om_] at h; exact h
  · rename_i hlt; rw [if_neg om_] at h; exact h
theorem RQ.mk1 {w0 w : World} {N i : Nat} {s : Sl} {xs : List Int} (h : OwB N w s xs) : RQ w0 N w i (i + 1) s xs := by unfold RQ; rw [if_pos om_]; exact h
theorem round1 {w0 w4 wS w' : World} {N M : Nat} {d : Dv} {i n g : Nat} {zq : List (Zo × Sl)} {rest : List Value} {p : Zo × Sl} {S : Sl} {A : Option Addr} {m c : Nat} (hzq : ZQ w0 N w4 d i zq) (hp : zq[i]? = some p) (hr : w4.ownsRow N ZoT 3 (slV S) n (catC zpC zq)) (hA : S.A = some ⟨g, 0, none⟩) (hB : Blk w4 g (catC zpC zq ++ rest) ZoT) (k1 : Ext w4 wS) (ho : wS.ownsRow M ByT 1 (.slice A m c) m (p.1.d.map (.int .u8))) (hl : p.1.d.length = m) (hN : N ≤ M) (k2 : ExtB g wS w') (hB' : Blk w' g ((catC zpC zq ++ rest).set (0 + i * 3 + 1) (slV ⟨A, m, c⟩)) ZoT) :
    ZQ w0 N w' d (i + 1) (zq.set i (p.1, ⟨A, m, c⟩)) ∧ w'.ownsRow N ZoT 3 (slV S) n (catC zpC (zq.set i (p.1, ⟨A, m, c⟩))) := by
  have hBS := hB.ext k1
  rw [zp_set1 hp] at hB'
  refine ⟨((hzq.ext k1).next hp (OwB.of ho hl hN)).put hBS (by decide) k2, row_put (own_ext hr k1) hA hBS hB' ?_⟩
  rw [catC_length zpC_length, catC_length zpC_length, List.length_set]
theorem blk_ne {w : World} {g b : Nat} {cs cs' : List Value} {T T' : TypeId} (h : Blk w g cs T) (h' : Blk w b cs' T') (hne : T ≠ T') : g ≠ b := by
  intro e
  subst e
  have h1 : w.heap[g]? = some (.cells cs.toArray T (0, 0)) := h
  have h2 : w.heap[g]? = some (.cells cs'.toArray T' (0, 0)) := h'
  rw [h1] at h2
  simp only [Option.some.injEq, Obj.cells.injEq] at h2
  exact hne h2.2.1
theorem dev_own_calls {f : FuncId} {fn : Func} [hfn : TFn Try.prog f fn] (cap : Array Value) (w0 : World) (d : Dv) (s : Ds) (zp : List (Zo × Sl)) (hW : DvW d) (hM : DM w0 d s zp) (d2 : Dv) (be : Option Nat) (E : Int)
    (hbe : ∀ x, be = some x → x < w0.heap.size)
    (hdo : ∀ w1 b s1 zp1 M, Ext w0 w1 → w0.heap.size ≤ b → b < M → M ≤ w1.heap.size → DSt M w1 b d s1 zp1 → Calls Try.prog f (Value.pointer (some ⟨b, 0, none⟩) :: cap.toList).toArray w1 fun e w2 => e = .returned (.tuple #[]) ∧ ∃ s2 zp2, DSt M w2 b d2 s2 zp2 ∧ BelowE M (fun k => k = b ∨ be = some k) w1 w2 ∧ (∀ x, be = some x → Blk w2 x [.int .i64 E] EroT)) :
    Calls Try.prog 25 #[.agg (dvC d s).toArray, .func (.func f) #[] cap] w0 fun e w' => ∃ s2 zp2, e = .returned (.agg (dvC d2 s2).toArray) ∧ DRw w0.heap.size w' d2 s2 zp2 ∧ BelowE w0.heap.size (fun k => be = some k) w0 w' ∧ (∀ x, be = some x → Blk w' x [.int .i64 E] EroT) := by
  have lz := hM.sz
  have lm := hM.len
  have hzl := hW.zl
  have hs : s.Z.m ≤ 1000000 := by omega
  have p1 := dvC_one d s
  have a1 := fun w hC => slices_CloneZ_calls zp s.Z.A s.Z.m s.Z.c w hM.zm hs hC
  have hzz := hM.zz
  obtain ⟨⟨ZA, n, Zc⟩, r0, r1, f0, f1⟩ := s
  dsimp only at lz lm hs a1 hzz
  refine calls_W (args := [.agg (dvC d ⟨⟨ZA, n, Zc⟩, r0, r1, f0, f1⟩).toArray, .func (.func f) #[] cap]) Try.func25 rfl 53 rfl ?_
  (repeat' (first | (refine WL_is ?_; first | refine WL_nil ?_ | refine wl_ ?_ | (refine WL_isFn ?_; refine WL_call rfl rfl rfl (a1 _ cells_) ?_; rintro _ w_ ⟨A_, c_, rfl, ho_, hx_⟩; have hz_ := hx_.size; have hr_ := own_rd ho_; have hq_ := own_cap ho_; refine ⟨_, rfl, ?_⟩)) | (refine WC_is ?_; first | ((fail_if_success (refine WC_isReg (id := 2) ?_)); refine WC_seq (fun _ _ => ?_)) | refine WC_orderE (.rd false 0 (.rd false 1 (.rd false 2 (.rd true 3 (.rd true 4 (.rd true 5 (.rd true 6 (.rd true 7 (.rd true 8 (.act true 9 (.rd true 10 (.rd true 11 (.act false 12 .nil .nil))) .nil)))))))))) [[], [], [], [], [], [], [], [], [], [3, 4, 5, 6, 7, 8], [], [], [0, 1, 2, 3, 4, 5, 6, 7, 8, 9, 10, 11]] [9, 12] (some 12) 5 (by kernel_rfl) (by kernel_rfl) (fun w_ hx_ hz_ => ?_) | refine WC_orderE (.rd false 0 (.rd false 1 (.rd true 2 (.rd true 3 (.rd true 4 (.rd true 5 (.rd false 7 (.rd false 8 (.rd false 9 (.rd false 10 (.rd false 12 (.rd false 15 (.act true 6 (.act true 11 (.rd true 13 (.act true 14 (.rd true 16 (.act false 17 .nil .nil)) .nil)) .nil) .nil))))))))))))) [[], [], [], [], [], [], [2, 3, 4, 5], [], [], [], [], [2, 3, 4, 5, 6, 7, 8, 9, 10], [], [], [0, 2, 3, 4, 5, 6, 7, 8, 9, 10, 11, 12, 13], [], [], [0, 1, 2, 3, 4, 5, 6, 7, 8, 9, 10, 11, 12, 13, 14, 15, 16]] [6, 11, 14, 17] (some 17) 10 (by kernel_rfl) (by kernel_rfl) (fun w_ hx_ hz_ => ?_) | refine wc_ ?_) | (refine WQ_is ?_; first | refine wq_ ?_ | refine WQ_bodyAC (Or.inl rfl) rfl rfl rfl blk_ lr_ blk_ ?_ | refine WQ_bodyAC (Or.inr rfl) rfl rfl rfl blk_ lr_ blk_ ?_) | (refine Kb.mk ?_; intro b_ w_ hb_ hl_ hx_ hB_) | (refine Ks.mk ?_; intro w_ hz_ hx_ hB_) | (refine Ko.mk ?_; intro A_ c_ w_ hx_ ho_ hr_; have hz_ := hx_.size; have hq_ := own_cap ho_) | (refine Kp.mk ?_; intro A_ c_ w_ hx_ hz_ ho_ hr_ hp_; have hq_ := own_cap ho_) | (refine Kl.mk ?_; intro b_ w_ hb_ hl_ hx_ hB_ ho_) | (refine Km.mk ?_; intro b_ w_ hb_ hl_ hx_ ho_) | (refine Ke.mk ?_; intro r_ hr_) | (refine Kg.mk ?_ ?_ <;> intro hs_ <;> (try simp only [strEq_t, strEq_f, decide_eq_true_eq, decide_eq_false_iff_not, beq_iff_eq, beq_eq_false_iff_ne, bne_iff_ne, bne_eq_false_iff_eq, Bool.not_eq_true', Bool.not_eq_false', Bool.not_true, Bool.not_false, gt_iff_lt, ge_iff_le, Int.not_lt, Int.not_le, ne_eq, Bool.false_eq_true, not_true_eq_false, reduceCtorEq] at hs_) <;> (try (exfalso; first | exact hs_ | (exact hs_ rfl) | omega))) | (refine WX_is ?_; first | refine wx_ ?_ | exact WX_altnil | (refine WX_isRd ?_; first | (refine WX_isT ?_; refine WX_readT rfl rfl rfl rfl rfl (by (first | refine wl_ ?_); refine WL_nil ?_; exact DR_mk rfl) ?_) | (refine WX_isF ?_; refine WX_read rfl rfl rfl rfl rfl (fun w_ hx_ => by (first | refine wl_ ?_); refine WL_nil ?_; exact DR_mk rfl) ?_) | refine WX_nilP rfl rfl rfl rfl rfl rfl ?_ | refine wxg_ ?_) | (refine WX_isAct ?_; first | refine WX_eff1 rfl (fun _ _ => ?_) | refine WX_eff rfl (fun _ _ => ?_) ?_))))
  rename_i b1 w1 hb1 hl1 hx1 hB1 w2 hx2 hB2 _ _ w3 hx3 hz3 _ _
  obtain ⟨M, hMe⟩ : ∃ M, M = w2.heap.size := ⟨_, rfl⟩
  have hBd : Blk w_ b1 (dvC d ⟨⟨A_, n, c_⟩, r0, r1, f0, f1⟩) DeT := hB_
  have hBr : Blk w_ b_ (dvC dv0 ds0) DeT := blk_
  have hro : w_.ownsRow M ZoT 3 (.slice A_ n c_) n (catC zpC zp) := own_
  have hx0 : Ext w0 w_ := ext_
  have hz0 := hx0.size
  have hb1' : w0.heap.size ≤ b1 := by omega
  have hb4 : w0.heap.size ≤ b_ ∧ b_ ≠ b1 := by omega
  have hl1' : b1 < M ∧ b_ < M ∧ M ≤ w_.heap.size := by omega
  have hzq : ZQ w0 M w_ d 0 zp := ⟨hM.zs, fun j p hj => by
    rw [if_neg om_]
    exact hM.zb p (List.mem_of_getElem? hj)⟩
  have hm := hM.zm
  have hR0 := hM.r0
  have hR1 := hM.r1
  have hF0 := hM.f0
  have hF1 := hM.f1
  dsimp only at hm hR0 hR1 hF0 hF1
  (repeat' (first | (refine WL_is ?_; first | refine WL_nil ?_ | refine wl_ ?_ ) | (refine WC_is ?_; first | ((fail_if_success (refine WC_isReg (id := 3) ?_)); refine WC_seq (fun _ _ => ?_)) | refine WC_orderE (.rd false 0 (.rd false 1 (.rd false 2 (.rd true 3 (.rd true 4 (.rd true 5 (.rd true 6 (.rd true 7 (.rd true 8 (.act true 9 (.rd true 10 (.rd true 11 (.act false 12 .nil .nil))) .nil)))))))))) [[], [], [], [], [], [], [], [], [], [3, 4, 5, 6, 7, 8], [], [], [0, 1, 2, 3, 4, 5, 6, 7, 8, 9, 10, 11]] [9, 12] (some 12) 5 (by kernel_rfl) (by kernel_rfl) (fun w_ hx_ hz_ => ?_) | refine WC_orderE (.rd false 0 (.rd false 1 (.rd true 2 (.rd true 3 (.rd true 4 (.rd true 5 (.rd false 7 (.rd false 8 (.rd false 9 (.rd false 10 (.rd false 12 (.rd false 15 (.act true 6 (.act true 11 (.rd true 13 (.act true 14 (.rd true 16 (.act false 17 .nil .nil)) .nil)) .nil) .nil))))))))))))) [[], [], [], [], [], [], [2, 3, 4, 5], [], [], [], [], [2, 3, 4, 5, 6, 7, 8, 9, 10], [], [], [0, 2, 3, 4, 5, 6, 7, 8, 9, 10, 11, 12, 13], [], [], [0, 1, 2, 3, 4, 5, 6, 7, 8, 9, 10, 11, 12, 13, 14, 15, 16]] [6, 11, 14, 17] (some 17) 10 (by kernel_rfl) (by kernel_rfl) (fun w_ hx_ hz_ => ?_) | refine wc_ ?_) | (refine WQ_is ?_; first | refine wq_ ?_ | refine WQ_bodyAC (Or.inl rfl) rfl rfl rfl blk_ lr_ blk_ ?_ | refine WQ_bodyAC (Or.inr rfl) rfl rfl rfl blk_ lr_ blk_ ?_) | (refine Kb.mk ?_; intro b_ w_ hb_ hl_ hx_ hB_) | (refine Ks.mk ?_; intro w_ hz_ hx_ hB_) | (refine Ko.mk ?_; intro A_ c_ w_ hx_ ho_ hr_; have hz_ := hx_.size; have hq_ := own_cap ho_) | (refine Kp.mk ?_; intro A_ c_ w_ hx_ hz_ ho_ hr_ hp_; have hq_ := own_cap ho_) | (refine Kl.mk ?_; intro b_ w_ hb_ hl_ hx_ hB_ ho_) | (refine Km.mk ?_; intro b_ w_ hb_ hl_ hx_ ho_) | (refine Ke.mk ?_; intro r_ hr_) | (refine Kg.mk ?_ ?_ <;> intro hs_ <;> (try simp only [strEq_t, strEq_f, decide_eq_true_eq, decide_eq_false_iff_not, beq_iff_eq, beq_eq_false_iff_ne, bne_iff_ne, bne_eq_false_iff_eq, Bool.not_eq_true', Bool.not_eq_false', Bool.not_true, Bool.not_false, gt_iff_lt, ge_iff_le, Int.not_lt, Int.not_le, ne_eq, Bool.false_eq_true, not_true_eq_false, reduceCtorEq] at hs_) <;> (try (exfalso; first | exact hs_ | (exact hs_ rfl) | omega))) | (refine WX_is ?_; first | refine wx_ ?_ | exact WX_altnil | (refine WX_isRd ?_; first | (refine WX_isT ?_; refine WX_readT rfl rfl rfl rfl rfl (by (first | refine wl_ ?_); refine WL_nil ?_; exact DR_mk rfl) ?_) | (refine WX_isF ?_; refine WX_read rfl rfl rfl rfl rfl (fun w_ hx_ => by (first | refine wl_ ?_); refine WL_nil ?_; exact DR_mk rfl) ?_) | refine WX_nilP rfl rfl rfl rfl rfl rfl ?_ | refine wxg_ ?_) | (refine WX_isAct ?_; first | refine WX_eff1 rfl (fun _ _ => ?_) | refine WX_eff rfl (fun _ _ => ?_) ?_))))
  refine WC_loopL (X := Nat × List (Zo × Sl)) [1, 2, 4, 6, 13, 30, 31, 32, 33, 34, 35, 36, 37, 38, 39, 40, 41, 42, 43, 44, 45, 46, 47, 48, 49, 50, 52] rfl (fun x w' => (x.1 ≤ n ∧ x.2.length = n ∧ ZQ w0 M w' d x.1 x.2) ∧ (Ext w0 w' ∧ w_.heap.size ≤ w'.heap.size) ∧ Blk w' b1 (dvC d ⟨⟨A_, n, c_⟩, r0, r1, f0, f1⟩) DeT ∧ Blk w' b_ (dvC dv0 ds0) DeT ∧ w'.ownsRow M ZoT 3 (slV ⟨A_, n, c_⟩) n (catC zpC x.2)) (fun x => [(14, .int .i64 x.1)]) (fun x => n - x.1) (0, zp) ⟨⟨om_, hm, hzq⟩, ⟨hx0, om_⟩, hBd, hBr, hro⟩ env_ ?_
  intro ⟨i, zq⟩ w4 ⟨⟨hi, hqn, hzq⟩, ⟨hx4, hz4⟩, hBd4, hBr4, hro4⟩ K hK
  dsimp only at hi hqn hzq hBd4 hBr4 hro4 ⊢
  have hz40 := hx4.size
  rcases Nat.lt_or_ge i n with hlt | hge
  · obtain ⟨p, hp⟩ : ∃ p, zq[i]? = some p := ⟨_, List.getElem?_eq_getElem om_⟩
    have hso := hzq.2 i p hp
    rw [if_neg om_] at hso
    obtain ⟨g, rest, hA, hg0, hBg⟩ := row_open hro4 om_
    dsimp only at hA
    subst hA
    have hgb := blk_ne hBg hBr4 (by decide)
    have hgd := blk_ne hBg hBd4 (by decide)
    obtain ⟨v0, v1, v2, vl⟩ := zp_rest (rest := rest) hp
    obtain ⟨⟨zs, zd, zl⟩, pA, pm, pc⟩ := p
    dsimp only at hso v0 v1 v2
    have hpw : Zst ⟨zs, zd, zl⟩ := hW.zw _ (by rw [← hzq.1]; exact List.mem_map_of_mem (List.mem_of_getElem? hp))
    have a2 := fun w hC => bytes_Clone_calls zd pA pm pc w hso.1 (by have := hpw.small; dsimp only at this; have := hso.1; dsimp only at this; omega) hC
    have hCo := hso.2.2
    dsimp only at hCo
    (repeat' (first | (refine WL_is ?_; first | refine WL_nil ?_ | (refine WL_isLoad ?_; refine WL_load rfl rfl rfl blk_ v1 ?_) | (refine WL_isStore ?_; refine WL_store1 rfl rfl rfl blk_ rfl rfl vl ?_; intro w_ hz_ hx_ hB_) | refine wl_ ?_ | (refine WL_isFn ?_; refine WL_call rfl rfl rfl (a2 _ cells_) ?_; rintro _ w_ ⟨A_, c_, rfl, ho_, hx_⟩; have hz_ := hx_.size; have hr_ := own_rd ho_; have hq_ := own_cap ho_; refine ⟨_, rfl, ?_⟩)) | (refine WC_is ?_; first | refine WC_seq (fun _ _ => ?_) | refine WC_orderE (.rd false 0 (.rd false 1 (.rd false 2 (.rd true 3 (.rd true 4 (.rd true 5 (.rd true 6 (.rd true 7 (.rd true 8 (.act true 9 (.rd true 10 (.rd true 11 (.act false 12 .nil .nil))) .nil)))))))))) [[], [], [], [], [], [], [], [], [], [3, 4, 5, 6, 7, 8], [], [], [0, 1, 2, 3, 4, 5, 6, 7, 8, 9, 10, 11]] [9, 12] (some 12) 5 (by kernel_rfl) (by kernel_rfl) (fun w_ hx_ hz_ => ?_) | refine WC_orderE (.rd false 0 (.rd false 1 (.rd true 2 (.rd true 3 (.rd true 4 (.rd true 5 (.rd false 7 (.rd false 8 (.rd false 9 (.rd false 10 (.rd false 12 (.rd false 15 (.act true 6 (.act true 11 (.rd true 13 (.act true 14 (.rd true 16 (.act false 17 .nil .nil)) .nil)) .nil) .nil))))))))))))) [[], [], [], [], [], [], [2, 3, 4, 5], [], [], [], [], [2, 3, 4, 5, 6, 7, 8, 9, 10], [], [], [0, 2, 3, 4, 5, 6, 7, 8, 9, 10, 11, 12, 13], [], [], [0, 1, 2, 3, 4, 5, 6, 7, 8, 9, 10, 11, 12, 13, 14, 15, 16]] [6, 11, 14, 17] (some 17) 10 (by kernel_rfl) (by kernel_rfl) (fun w_ hx_ hz_ => ?_) | refine wc_ ?_) | (refine WQ_is ?_; first | refine wq_ ?_ | refine WQ_bodyAC (Or.inl rfl) rfl rfl rfl blk_ lr_ blk_ ?_ | refine WQ_bodyAC (Or.inr rfl) rfl rfl rfl blk_ lr_ blk_ ?_) | (refine Kb.mk ?_; intro b_ w_ hb_ hl_ hx_ hB_) | (refine Ks.mk ?_; intro w_ hz_ hx_ hB_) | (refine Ko.mk ?_; intro A_ c_ w_ hx_ ho_ hr_; have hz_ := hx_.size; have hq_ := own_cap ho_) | (refine Kp.mk ?_; intro A_ c_ w_ hx_ hz_ ho_ hr_ hp_; have hq_ := own_cap ho_) | (refine Kl.mk ?_; intro b_ w_ hb_ hl_ hx_ hB_ ho_) | (refine Km.mk ?_; intro b_ w_ hb_ hl_ hx_ ho_) | (refine Ke.mk ?_; intro r_ hr_) | (refine Kg.mk ?_ ?_ <;> intro hs_ <;> (try simp only [strEq_t, strEq_f, decide_eq_true_eq, decide_eq_false_iff_not, beq_iff_eq, beq_eq_false_iff_ne, bne_iff_ne, bne_eq_false_iff_eq, Bool.not_eq_true', Bool.not_eq_false', Bool.not_true, Bool.not_false, gt_iff_lt, ge_iff_le, Int.not_lt, Int.not_le, ne_eq, Bool.false_eq_true, not_true_eq_false, reduceCtorEq] at hs_) <;> (try (exfalso; first | exact hs_ | (exact hs_ rfl) | omega))) | (refine WX_is ?_; first | refine wx_ ?_ | exact WX_altnil | (refine WX_isRd ?_; first | (refine WX_isT ?_; refine WX_readT rfl rfl rfl rfl rfl (by (first | (refine WL_isLoad ?_; refine WL_load rfl rfl rfl blk_ v1 ?_) | (refine WL_isStore ?_; refine WL_store1 rfl rfl rfl blk_ rfl rfl vl ?_; intro w_ hz_ hx_ hB_) | refine wl_ ?_); refine WL_nil ?_; exact DR_mk rfl) ?_) | (refine WX_isF ?_; refine WX_read rfl rfl rfl rfl rfl (fun w_ hx_ => by (first | (refine WL_isLoad ?_; refine WL_load rfl rfl rfl blk_ v1 ?_) | (refine WL_isStore ?_; refine WL_store1 rfl rfl rfl blk_ rfl rfl vl ?_; intro w_ hz_ hx_ hB_) | refine wl_ ?_); refine WL_nil ?_; exact DR_mk rfl) ?_) | refine WX_nilP rfl rfl rfl rfl rfl rfl ?_ | refine wxg_ ?_) | (refine WX_isAct ?_; first | refine WX_eff1 rfl (fun _ _ => ?_) | refine WX_eff rfl (fun _ _ => ?_) ?_))))
    all_goals
      obtain ⟨e1, e2⟩ := round1 (S := ⟨some ⟨g, 0, none⟩, n, _⟩) hzq hp hro4 rfl hBg ext_ ho_ hso.1 om_ hx_ hB_
      exact WQ_againL hK (i + 1, zq.set i (⟨zs, zd, zl⟩, ⟨A_, pm, c_⟩)) ⟨⟨om_, by rw [List.length_set]; exact hqn, e1⟩, ⟨ext_, om_⟩, blk_, blk_, e2⟩ env_ om_
  · obtain rfl : i = n := by omega
    have hzo : ∀ p ∈ zq, OwB M w4 p.2 p.1.d := fun p hp => by
      obtain ⟨j, hj, e⟩ := List.getElem_of_mem hp
      have := hzq.2 j p (by rw [List.getElem?_eq_getElem hj, e])
      rwa [if_pos om_] at this
    (repeat' (first | (refine WL_is ?_; first | refine WL_nil ?_ | refine wl_ ?_ ) | (refine WC_is ?_; first | ((fail_if_success (refine WC_isReg (id := 8) ?_)); refine WC_seq (fun _ _ => ?_)) | refine WC_orderE (.rd false 0 (.rd false 1 (.rd false 2 (.rd true 3 (.rd true 4 (.rd true 5 (.rd true 6 (.rd true 7 (.rd true 8 (.act true 9 (.rd true 10 (.rd true 11 (.act false 12 .nil .nil))) .nil)))))))))) [[], [], [], [], [], [], [], [], [], [3, 4, 5, 6, 7, 8], [], [], [0, 1, 2, 3, 4, 5, 6, 7, 8, 9, 10, 11]] [9, 12] (some 12) 5 (by kernel_rfl) (by kernel_rfl) (fun w_ hx_ hz_ => ?_) | refine WC_orderE (.rd false 0 (.rd false 1 (.rd true 2 (.rd true 3 (.rd true 4 (.rd true 5 (.rd false 7 (.rd false 8 (.rd false 9 (.rd false 10 (.rd false 12 (.rd false 15 (.act true 6 (.act true 11 (.rd true 13 (.act true 14 (.rd true 16 (.act false 17 .nil .nil)) .nil)) .nil) .nil))))))))))))) [[], [], [], [], [], [], [2, 3, 4, 5], [], [], [], [], [2, 3, 4, 5, 6, 7, 8, 9, 10], [], [], [0, 2, 3, 4, 5, 6, 7, 8, 9, 10, 11, 12, 13], [], [], [0, 1, 2, 3, 4, 5, 6, 7, 8, 9, 10, 11, 12, 13, 14, 15, 16]] [6, 11, 14, 17] (some 17) 10 (by kernel_rfl) (by kernel_rfl) (fun w_ hx_ hz_ => ?_) | refine wc_ ?_) | (refine WQ_is ?_; first | refine wq_ ?_ | refine WQ_bodyAC (Or.inl rfl) rfl rfl rfl blk_ lr_ blk_ ?_ | refine WQ_bodyAC (Or.inr rfl) rfl rfl rfl blk_ lr_ blk_ ?_) | (refine Kb.mk ?_; intro b_ w_ hb_ hl_ hx_ hB_) | (refine Ks.mk ?_; intro w_ hz_ hx_ hB_) | (refine Ko.mk ?_; intro A_ c_ w_ hx_ ho_ hr_; have hz_ := hx_.size; have hq_ := own_cap ho_) | (refine Kp.mk ?_; intro A_ c_ w_ hx_ hz_ ho_ hr_ hp_; have hq_ := own_cap ho_) | (refine Kl.mk ?_; intro b_ w_ hb_ hl_ hx_ hB_ ho_) | (refine Km.mk ?_; intro b_ w_ hb_ hl_ hx_ ho_) | (refine Ke.mk ?_; intro r_ hr_) | (refine Kg.mk ?_ ?_ <;> intro hs_ <;> (try simp only [strEq_t, strEq_f, decide_eq_true_eq, decide_eq_false_iff_not, beq_iff_eq, beq_eq_false_iff_ne, bne_iff_ne, bne_eq_false_iff_eq, Bool.not_eq_true', Bool.not_eq_false', Bool.not_true, Bool.not_false, gt_iff_lt, ge_iff_le, Int.not_lt, Int.not_le, ne_eq, Bool.false_eq_true, not_true_eq_false, reduceCtorEq] at hs_) <;> (try (exfalso; first | exact hs_ | (exact hs_ rfl) | omega))) | (refine WX_is ?_; first | refine wx_ ?_ | exact WX_altnil | (refine WX_isRd ?_; first | (refine WX_isT ?_; refine WX_readT rfl rfl rfl rfl rfl (by (first | refine wl_ ?_); refine WL_nil ?_; exact DR_mk rfl) ?_) | (refine WX_isF ?_; refine WX_read rfl rfl rfl rfl rfl (fun w_ hx_ => by (first | refine wl_ ?_); refine WL_nil ?_; exact DR_mk rfl) ?_) | refine WX_nilP rfl rfl rfl rfl rfl rfl ?_ | refine wxg_ ?_) | (refine WX_isAct ?_; first | refine WX_eff1 rfl (fun _ _ => ?_) | refine WX_eff rfl (fun _ _ => ?_) ?_))))
    refine WC_loopL (X := Nat × Ds) [1, 2, 4, 50, 52] rfl (fun x w' => (x.1 ≤ 2 ∧ x.2.Z = ⟨A_, i, c_⟩ ∧ (∀ p ∈ zq, OwB M w' p.2 p.1.d)) ∧ (RQ w0 M w' 0 x.1 x.2.r0 d.r0 ∧ RQ w0 M w' 1 x.1 x.2.r1 d.r1 ∧ RQ w0 M w' 0 x.1 x.2.f0 d.f0 ∧ RQ w0 M w' 1 x.1 x.2.f1 d.f1) ∧ (Ext w0 w' ∧ w_.heap.size ≤ w'.heap.size) ∧ Blk w' b1 (dvC d x.2) DeT ∧ Blk w' b_ (dvC dv0 ds0) DeT ∧ w'.ownsRow M ZoT 3 (.slice A_ i c_) i (catC zpC zq)) (fun x => [(30, .int .i64 x.1)]) (fun x => 2 - x.1) (0, ⟨⟨A_, i, c_⟩, r0, r1, f0, f1⟩) ⟨⟨om_, rfl, hzo⟩, ⟨hR0, hR1, hF0, hF1⟩, ⟨hx4, om_⟩, hBd4, hBr4, hro4⟩ env_ ?_
    intro ⟨j, ⟨Z, r0, r1, f0, f1⟩⟩ w5 ⟨⟨hj, hZ, hzo⟩, ⟨q0, q1, g0, g1⟩, ⟨hx5, hz5⟩, hBd5, hBr5, hro5⟩ K hK
    dsimp only at hj hZ hzo q0 q1 g0 g1 hBd5 hBr5 hro5 ⊢
    subst hZ
    have hz50 := hx5.size
    rcases Nat.lt_or_ge j 2 with hlt | hge
    · rcases (show j = 0 ∨ j = 1 by omega) with rfl | rfl
      · have o0 := q0.old om_
        have o1 := g0.old om_
        obtain ⟨RA, Rm, Rc⟩ := r0
        obtain ⟨FA, Fm, Fc⟩ := f0
        have hCa := o0.2.2
        have hCb := o1.2.2
        have n0 := o0.1
        have n1 := o1.1
        have n2 := hW.r0.2
        have n3 := hW.f0.2
        dsimp only at hCa hCb n0 n1
        have a3 := fun w hC => bytes_Clone_calls d.r0 RA Rm Rc w n0 om_ hC
        have a4 := fun w hC => bytes_Clone_calls d.f0 FA Fm Fc w n1 om_ hC
        (repeat' (first | (refine WL_is ?_; first | refine WL_nil ?_ | (refine WL_isLoad ?_; obtain ⟨cs_, hc1_, hc2_⟩ := hr_; refine WL_load rfl rfl rfl hc1_ hc2_ ?_) | refine wl_ ?_ | (refine WL_isFn ?_; refine WL_call rfl rfl rfl (a3 _ cells_) ?_; rintro _ w_ ⟨A1_, c1_, rfl, h1_, hx_⟩; have hz_ := hx_.size; refine ⟨_, rfl, ?_⟩) | (refine WL_isFn ?_; refine WL_call rfl rfl rfl (a4 _ cells_) ?_; rintro _ w_ ⟨A2_, c2_, rfl, h2_, hx_⟩; have hz_ := hx_.size; refine ⟨_, rfl, ?_⟩)) | (refine WC_is ?_; first | refine WC_seq (fun _ _ => ?_) | refine WC_orderE (.rd false 0 (.rd false 1 (.rd false 2 (.rd true 3 (.rd true 4 (.rd true 5 (.rd true 6 (.rd true 7 (.rd true 8 (.act true 9 (.rd true 10 (.rd true 11 (.act false 12 .nil .nil))) .nil)))))))))) [[], [], [], [], [], [], [], [], [], [3, 4, 5, 6, 7, 8], [], [], [0, 1, 2, 3, 4, 5, 6, 7, 8, 9, 10, 11]] [9, 12] (some 12) 5 (by kernel_rfl) (by kernel_rfl) (fun w_ hx_ hz_ => ?_) | (refine WC_order (.rd false 0 (.rd false 1 (.rd true 2 (.rd true 3 (.rd true 4 (.rd true 5 (.rd false 7 (.rd false 8 (.rd false 9 (.rd false 10 (.rd false 12 (.rd false 15 (.act true 6 (.act true 11 (.rd true 13 (.act true 14 (.rd true 16 (.act false 17 .nil .nil)) .nil)) .nil) .nil))))))))))))) [[], [], [], [], [], [], [2, 3, 4, 5], [], [], [], [], [2, 3, 4, 5, 6, 7, 8, 9, 10], [], [], [0, 2, 3, 4, 5, 6, 7, 8, 9, 10, 11, 12, 13], [], [], [0, 1, 2, 3, 4, 5, 6, 7, 8, 9, 10, 11, 12, 13, 14, 15, 16]] [6, 11, 14, 17] (some 17) (fun w' => True ∧ ∃ cs, Blk w' b1 cs DeT ∧ cs[4]? = some (slV ⟨FA, Fm, Fc⟩)) (id := 10) (by kernel_rfl) (by kernel_rfl) (fun w_ hx_ => ⟨trivial, _, blk_, rfl⟩) (fun w_ hx_ => ?_); have hz_ := hx_.size) | refine wc_ ?_) | (refine WQ_is ?_; first | refine WQ_x as_ rfl (by first | (intro _; first | exact ⟨trivial, _, blk_, rfl⟩ | exact ⟨trivial, _, hB_, rfl⟩) | (exact fun h_ => absurd h_ (by decide)) | (exact fun _ => trivial) | (intro _; exact ext_)) ?_ | refine wq_ ?_ | refine WQ_bodyAC (Or.inl rfl) rfl rfl rfl blk_ lr_ blk_ ?_ | refine WQ_bodyAC (Or.inr rfl) rfl rfl rfl blk_ lr_ blk_ ?_) | (refine Kb.mk ?_; intro b_ w_ hb_ hl_ hx_ hB_) | (refine Ks.mk ?_; intro w_ hz_ hx_ hB_) | (refine Ko.mk ?_; intro A_ c_ w_ hx_ ho_ hr_; have hz_ := hx_.size; have hq_ := own_cap ho_) | (refine Kp.mk ?_; intro A_ c_ w_ hx_ hz_ ho_ hr_ hp_; have hq_ := own_cap ho_) | (refine Kl.mk ?_; intro b_ w_ hb_ hl_ hx_ hB_ ho_) | (refine Km.mk ?_; intro b_ w_ hb_ hl_ hx_ ho_) | (refine Ke.mk ?_; intro r_ hr_) | (refine Kg.mk ?_ ?_ <;> intro hs_ <;> (try simp only [strEq_t, strEq_f, decide_eq_true_eq, decide_eq_false_iff_not, beq_iff_eq, beq_eq_false_iff_ne, bne_iff_ne, bne_eq_false_iff_eq, Bool.not_eq_true', Bool.not_eq_false', Bool.not_true, Bool.not_false, gt_iff_lt, ge_iff_le, Int.not_lt, Int.not_le, ne_eq, Bool.false_eq_true, not_true_eq_false, reduceCtorEq] at hs_) <;> (try (exfalso; first | exact hs_ | (exact hs_ rfl) | omega))) | (refine WX_is ?_; first | refine wx_ ?_ | exact WX_altnil | (refine WX_isRd ?_; first | (refine WX_isT ?_; refine WX_readT rfl rfl rfl rfl rfl (by (first | (refine WL_isLoad ?_; obtain ⟨cs_, hc1_, hc2_⟩ := hr_; refine WL_load rfl rfl rfl hc1_ hc2_ ?_) | refine wl_ ?_); refine WL_nil ?_; exact DR_mk rfl) ?_) | (refine WX_isF ?_; refine WX_read rfl rfl rfl rfl rfl (fun w_ hx_ => by obtain ⟨hx_, hr_⟩ := hx_; (first | (refine WL_isLoad ?_; obtain ⟨cs_, hc1_, hc2_⟩ := hr_; refine WL_load rfl rfl rfl hc1_ hc2_ ?_) | refine wl_ ?_); refine WL_nil ?_; exact DR_mk rfl) ?_) | refine WX_nilP rfl rfl rfl rfl rfl rfl ?_ | refine wxg_ ?_) | (refine WX_isAct ?_; first | refine WX_eff1 rfl (fun _ _ => ?_) | refine WX_eff rfl (fun _ _ => ?_) ?_))))
        all_goals
          have k1 : w_.ownsRow M ByT 1 (.slice A1_ Rm c1_) Rm (d.r0.map (.int .u8)) := own_
          have k2 : w_.ownsRow M ByT 1 (.slice A2_ Fm c2_) Fm (d.f0.map (.int .u8)) := own_
          have k3 : KeepO M w5.heap.size 0 0 w5 w_ := keepo_
          have k4 := own_go hro5 (Nat.le_refl _) k3
          exact WQ_againL hK (1, ⟨⟨A_, i, c_⟩, ⟨A1_, Rm, c1_⟩, r1, ⟨A2_, Fm, c2_⟩, f1⟩) ⟨⟨om_, rfl, fun p hp => (hzo p hp).keepo k3⟩, ⟨RQ.mk1 (OwB.of k1 n0 (Nat.le_refl _)), (q1.step om_).keepo k3, RQ.mk1 (OwB.of k2 n1 (Nat.le_refl _)), (g1.step om_).keepo k3⟩, ⟨ext_, om_⟩, hB_, blk_, k4⟩ env_ om_
      · have o0 := q1.old om_
        have o1 := g1.old om_
        obtain ⟨RA, Rm, Rc⟩ := r1
        obtain ⟨FA, Fm, Fc⟩ := f1
        have hCa := o0.2.2
        have hCb := o1.2.2
        have n0 := o0.1
        have n1 := o1.1
        have n2 := hW.r1.2
        have n3 := hW.f1.2
        dsimp only at hCa hCb n0 n1
        have a3 := fun w hC => bytes_Clone_calls d.r1 RA Rm Rc w n0 om_ hC
        have a4 := fun w hC => bytes_Clone_calls d.f1 FA Fm Fc w n1 om_ hC
        (repeat' (first | (refine WL_is ?_; first | refine WL_nil ?_ | (refine WL_isLoad ?_; obtain ⟨cs_, hc1_, hc2_⟩ := hr_; refine WL_load rfl rfl rfl hc1_ hc2_ ?_) | refine wl_ ?_ | (refine WL_isFn ?_; refine WL_call rfl rfl rfl (a3 _ cells_) ?_; rintro _ w_ ⟨A1_, c1_, rfl, h1_, hx_⟩; have hz_ := hx_.size; refine ⟨_, rfl, ?_⟩) | (refine WL_isFn ?_; refine WL_call rfl rfl rfl (a4 _ cells_) ?_; rintro _ w_ ⟨A2_, c2_, rfl, h2_, hx_⟩; have hz_ := hx_.size; refine ⟨_, rfl, ?_⟩)) | (refine WC_is ?_; first | refine WC_seq (fun _ _ => ?_) | refine WC_orderE (.rd false 0 (.rd false 1 (.rd false 2 (.rd true 3 (.rd true 4 (.rd true 5 (.rd true 6 (.rd true 7 (.rd true 8 (.act true 9 (.rd true 10 (.rd true 11 (.act false 12 .nil .nil))) .nil)))))))))) [[], [], [], [], [], [], [], [], [], [3, 4, 5, 6, 7, 8], [], [], [0, 1, 2, 3, 4, 5, 6, 7, 8, 9, 10, 11]] [9, 12] (some 12) 5 (by kernel_rfl) (by kernel_rfl) (fun w_ hx_ hz_ => ?_) | (refine WC_order (.rd false 0 (.rd false 1 (.rd true 2 (.rd true 3 (.rd true 4 (.rd true 5 (.rd false 7 (.rd false 8 (.rd false 9 (.rd false 10 (.rd false 12 (.rd false 15 (.act true 6 (.act true 11 (.rd true 13 (.act true 14 (.rd true 16 (.act false 17 .nil .nil)) .nil)) .nil) .nil))))))))))))) [[], [], [], [], [], [], [2, 3, 4, 5], [], [], [], [], [2, 3, 4, 5, 6, 7, 8, 9, 10], [], [], [0, 2, 3, 4, 5, 6, 7, 8, 9, 10, 11, 12, 13], [], [], [0, 1, 2, 3, 4, 5, 6, 7, 8, 9, 10, 11, 12, 13, 14, 15, 16]] [6, 11, 14, 17] (some 17) (fun w' => True ∧ ∃ cs, Blk w' b1 cs DeT ∧ cs[5]? = some (slV ⟨FA, Fm, Fc⟩)) (id := 10) (by kernel_rfl) (by kernel_rfl) (fun w_ hx_ => ⟨trivial, _, blk_, rfl⟩) (fun w_ hx_ => ?_); have hz_ := hx_.size) | refine wc_ ?_) | (refine WQ_is ?_; first | refine WQ_x as_ rfl (by first | (intro _; first | exact ⟨trivial, _, blk_, rfl⟩ | exact ⟨trivial, _, hB_, rfl⟩) | (exact fun h_ => absurd h_ (by decide)) | (exact fun _ => trivial) | (intro _; exact ext_)) ?_ | refine wq_ ?_ | refine WQ_bodyAC (Or.inl rfl) rfl rfl rfl blk_ lr_ blk_ ?_ | refine WQ_bodyAC (Or.inr rfl) rfl rfl rfl blk_ lr_ blk_ ?_) | (refine Kb.mk ?_; intro b_ w_ hb_ hl_ hx_ hB_) | (refine Ks.mk ?_; intro w_ hz_ hx_ hB_) | (refine Ko.mk ?_; intro A_ c_ w_ hx_ ho_ hr_; have hz_ := hx_.size; have hq_ := own_cap ho_) | (refine Kp.mk ?_; intro A_ c_ w_ hx_ hz_ ho_ hr_ hp_; have hq_ := own_cap ho_) | (refine Kl.mk ?_; intro b_ w_ hb_ hl_ hx_ hB_ ho_) | (refine Km.mk ?_; intro b_ w_ hb_ hl_ hx_ ho_) | (refine Ke.mk ?_; intro r_ hr_) | (refine Kg.mk ?_ ?_ <;> intro hs_ <;> (try simp only [strEq_t, strEq_f, decide_eq_true_eq, decide_eq_false_iff_not, beq_iff_eq, beq_eq_false_iff_ne, bne_iff_ne, bne_eq_false_iff_eq, Bool.not_eq_true', Bool.not_eq_false', Bool.not_true, Bool.not_false, gt_iff_lt, ge_iff_le, Int.not_lt, Int.not_le, ne_eq, Bool.false_eq_true, not_true_eq_false, reduceCtorEq] at hs_) <;> (try (exfalso; first | exact hs_ | (exact hs_ rfl) | omega))) | (refine WX_is ?_; first | refine wx_ ?_ | exact WX_altnil | (refine WX_isRd ?_; first | (refine WX_isT ?_; refine WX_readT rfl rfl rfl rfl rfl (by (first | (refine WL_isLoad ?_; obtain ⟨cs_, hc1_, hc2_⟩ := hr_; refine WL_load rfl rfl rfl hc1_ hc2_ ?_) | refine wl_ ?_); refine WL_nil ?_; exact DR_mk rfl) ?_) | (refine WX_isF ?_; refine WX_read rfl rfl rfl rfl rfl (fun w_ hx_ => by obtain ⟨hx_, hr_⟩ := hx_; (first | (refine WL_isLoad ?_; obtain ⟨cs_, hc1_, hc2_⟩ := hr_; refine WL_load rfl rfl rfl hc1_ hc2_ ?_) | refine wl_ ?_); refine WL_nil ?_; exact DR_mk rfl) ?_) | refine WX_nilP rfl rfl rfl rfl rfl rfl ?_ | refine wxg_ ?_) | (refine WX_isAct ?_; first | refine WX_eff1 rfl (fun _ _ => ?_) | refine WX_eff rfl (fun _ _ => ?_) ?_))))
        all_goals
          have k1 : w_.ownsRow M ByT 1 (.slice A1_ Rm c1_) Rm (d.r1.map (.int .u8)) := own_
          have k2 : w_.ownsRow M ByT 1 (.slice A2_ Fm c2_) Fm (d.f1.map (.int .u8)) := own_
          have k3 : KeepO M w5.heap.size 0 0 w5 w_ := keepo_
          have k4 := own_go hro5 (Nat.le_refl _) k3
          exact WQ_againL hK (2, ⟨⟨A_, i, c_⟩, r0, ⟨A1_, Rm, c1_⟩, f0, ⟨A2_, Fm, c2_⟩⟩) ⟨⟨om_, rfl, fun p hp => (hzo p hp).keepo k3⟩, ⟨(q0.step om_).keepo k3, RQ.mk1 (OwB.of k1 n0 (Nat.le_refl _)), (g0.step om_).keepo k3, RQ.mk1 (OwB.of k2 n1 (Nat.le_refl _))⟩, ⟨ext_, om_⟩, hB_, blk_, k4⟩ env_ om_
    · obtain rfl : j = 2 := by omega
      have hDS : DSt M w5 b1 d ⟨⟨A_, i, c_⟩, r0, r1, f0, f1⟩ zq := ⟨hBd5, hzq.1, hqn.symm ▸ hro5, hzo, q0.new om_, q1.new om_, g0.new om_, g1.new om_⟩
      (repeat' (first | (refine WL_is ?_; first | refine WL_nil ?_ | refine wl_ ?_ | (refine WL_callv rfl rfl rfl rfl (hdo _ b1 _ zq M ext_ om_ om_ om_ (hDS.ext ext_)) rfl ?_; rintro _ w_ ⟨rfl, s2_, zp2_, hD_, hK_, hE_⟩; have hB_ := hD_.bd; have hz_ := hK_.size; have hBr_ := hK_.blk hBr5 om_ (fun h => h.elim (fun h => absurd h om_) (fun h => absurd (hbe _ h) om_)); refine ⟨_, rfl, ?_⟩)) | (refine WC_is ?_; first | refine WC_seq (fun _ _ => ?_) | refine WC_orderE (.rd false 0 (.rd false 1 (.rd false 2 (.rd true 3 (.rd true 4 (.rd true 5 (.rd true 6 (.rd true 7 (.rd true 8 (.act true 9 (.rd true 10 (.rd true 11 (.act false 12 .nil .nil))) .nil)))))))))) [[], [], [], [], [], [], [], [], [], [3, 4, 5, 6, 7, 8], [], [], [0, 1, 2, 3, 4, 5, 6, 7, 8, 9, 10, 11]] [9, 12] (some 12) 5 (by kernel_rfl) (by kernel_rfl) (fun w_ hx_ hz_ => ?_) | refine WC_orderE (.rd false 0 (.rd false 1 (.rd true 2 (.rd true 3 (.rd true 4 (.rd true 5 (.rd false 7 (.rd false 8 (.rd false 9 (.rd false 10 (.rd false 12 (.rd false 15 (.act true 6 (.act true 11 (.rd true 13 (.act true 14 (.rd true 16 (.act false 17 .nil .nil)) .nil)) .nil) .nil))))))))))))) [[], [], [], [], [], [], [2, 3, 4, 5], [], [], [], [], [2, 3, 4, 5, 6, 7, 8, 9, 10], [], [], [0, 2, 3, 4, 5, 6, 7, 8, 9, 10, 11, 12, 13], [], [], [0, 1, 2, 3, 4, 5, 6, 7, 8, 9, 10, 11, 12, 13, 14, 15, 16]] [6, 11, 14, 17] (some 17) 10 (by kernel_rfl) (by kernel_rfl) (fun w_ hx_ hz_ => ?_) | refine wc_ ?_) | (refine WQ_is ?_; first | refine wq_ ?_ | refine WQ_bodyAC (Or.inl rfl) rfl rfl rfl blk_ lr_ blk_ ?_ | refine WQ_bodyAC (Or.inr rfl) rfl rfl rfl blk_ lr_ blk_ ?_) | (refine Kb.mk ?_; intro b_ w_ hb_ hl_ hx_ hB_) | (refine Ks.mk ?_; intro w_ hz_ hx_ hB_) | (refine Ko.mk ?_; intro A_ c_ w_ hx_ ho_ hr_; have hz_ := hx_.size; have hq_ := own_cap ho_) | (refine Kp.mk ?_; intro A_ c_ w_ hx_ hz_ ho_ hr_ hp_; have hq_ := own_cap ho_) | (refine Kl.mk ?_; intro b_ w_ hb_ hl_ hx_ hB_ ho_) | (refine Km.mk ?_; intro b_ w_ hb_ hl_ hx_ ho_) | (refine Ke.mk ?_; intro r_ hr_) | (refine Kg.mk ?_ ?_ <;> intro hs_ <;> (try simp only [strEq_t, strEq_f, decide_eq_true_eq, decide_eq_false_iff_not, beq_iff_eq, beq_eq_false_iff_ne, bne_iff_ne, bne_eq_false_iff_eq, Bool.not_eq_true', Bool.not_eq_false', Bool.not_true, Bool.not_false, gt_iff_lt, ge_iff_le, Int.not_lt, Int.not_le, ne_eq, Bool.false_eq_true, not_true_eq_false, reduceCtorEq] at hs_) <;> (try (exfalso; first | exact hs_ | (exact hs_ rfl) | omega))) | (refine WX_is ?_; first | refine wx_ ?_ | exact WX_altnil | (refine WX_isRd ?_; first | (refine WX_isT ?_; refine WX_readT rfl rfl rfl rfl rfl (by (first | refine wl_ ?_); refine WL_nil ?_; exact DR_mk rfl) ?_) | (refine WX_isF ?_; refine WX_read rfl rfl rfl rfl rfl (fun w_ hx_ => by (first | refine wl_ ?_); refine WL_nil ?_; exact DR_mk rfl) ?_) | refine WX_nilP rfl rfl rfl rfl rfl rfl ?_ | refine wxg_ ?_) | (refine WX_isAct ?_; first | refine WX_eff1 rfl (fun _ _ => ?_) | refine WX_eff rfl (fun _ _ => ?_) ?_))))
      all_goals
        have e1 := (hD_.other hBr_ hx_ om_ (by decide) (by decide)).dr.mono (show w0.heap.size ≤ M by omega)
        have e2 : BelowE w0.heap.size (fun k => be = some k) w0 w_ := ((BelowE.of hx5 (Nat.le_refl _)).then (hK_.mono om_ (fun k hk hp => hp.elim (fun h => absurd h om_) id))).extB hx_ (Nat.le_refl _) (.inl om_)
        exact ⟨_, _, rfl, e1, e2, fun x h => (hE_ x h).extB hx_ (by have := hbe x h; omega)⟩
end Go.Proofs.Ytemfngomfiimfaa.K
