/- Chapter 10 (dev): an append to a zone, and a zone's end, of a device that goes on. Seat-free. -/
import Derived.Test.YtemfngomfiimfaaH9
set_option linter.unusedVariables false
set_option linter.unusedSimpArgs false
set_option maxHeartbeats 4000000
set_option maxRecDepth 20000
namespace Go.Proofs.Ytemfngomfiimfaa.K
open Go.RowKit
attribute [local irreducible] strEq strOfNums Calls WL WC WQ WX Code.wp wpList bodyPost
theorem zp1 (q : Zo × Sl) : ∀ u ∈ zpC q, u.oneCell' = true := by
  intro u hu
  simp only [zpC, List.mem_cons, List.not_mem_nil, or_false] at hu
  rcases hu with rfl | rfl | rfl <;> rfl
/-- A device with another zone at a place. -/
def putZ (d : Dv) (i : Nat) (z : Zo) : Dv := { d with zs := d.zs.set i z }
theorem dev_zdoA_calls (i : Nat) (b : Sl) (bs : List Int) (M bd : Nat) (d : Dv) (s : Ds) (zp : List (Zo × Sl)) (w : World) (z : Zo) (hW : DvW d) (hD : DSt M w bd d s zp) (hbd : bd < M) (hM : M ≤ w.heap.size) (hb : SlB w b bs) (hbs : bs.length ≤ 1000000) (hz : d.zs[i]? = some z) (hap : appE z d.sz bs.length = 0) (ho4 : z.s = 0 → opD d < 4) :
    Calls Try.prog 36 #[.agg (cmV 1 i b).toArray, .pointer (some ⟨bd, 0, none⟩)] w fun e w' => e = .returned (.int .i64 0) ∧ ∃ s2 zp2, DSt M w' bd (putZ d i (appZ z d.sz bs)) s2 zp2 ∧ BelowE M (fun k => k = bd) w w' := by
  have hDM := hD.dm
  have hlen := hDM.len
  have hzl := hW.zl
  have hzm := hDM.zm
  have hBd := hD.bd
  have hzs := hD.zs
  have hsb := hW.sb
  have hbl := hb.1
  have hbc := hb.2.2
  have hil : i < d.zs.length := (List.getElem?_eq_some_iff.1 hz).1
  obtain ⟨bA, bm, bc⟩ := b
  obtain ⟨⟨ZA, Zm, Zc⟩, r0, r1, f0, f1⟩ := s
  dsimp only at hlen hzm hbl hbc
  have ho : ∀ u ∈ cmV 1 i ⟨bA, bm, bc⟩, u.oneCell' = true := by
    intro u hu
    simp only [List.mem_cons, List.not_mem_nil, or_false] at hu
    rcases hu with rfl | rfl | rfl <;> rfl
  have hi : i < zp.length := by omega
  have hp : zp[i]? = some zp[i] := List.getElem?_eq_getElem hi
  generalize zp[i] = p at hp
  have hdz : d.zs[i]? = some p.1 := by rw [← hzs, List.getElem?_map, hp]; rfl
  obtain rfl : p.1 = z := by rw [hz] at hdz; exact (Option.some.inj hdz).symm
  have hpm := List.mem_of_getElem? hp
  have hpw : Zst p.1 := hW.zw _ (List.mem_of_getElem? hdz)
  have hpb := hDM.zb p hpm
  obtain ⟨g, rest, hA, hg0, hBg⟩ := row_open hD.zr om_
  dsimp only at hA
  subst hA
  have hiZ : i < Zm := by omega
  have hgl := hBg.lt
  have hput := fun q => Put.zp (rest := rest) (zp := zp) (i := i) q hi
  obtain ⟨⟨zs, zd, zl⟩, pA, pm, pc⟩ := p
  have hpl := hpb.1
  have hpc := hpb.2.2
  dsimp only at hpl hpc hap ho4 hpw
  have hsg : Seg (catC zpC zp ++ rest) (0 + i * 3) 3 [.int .i64 zs, .slice pA pm pc, .int .i64 zl] := Seg.zp hp
  have a0 := fun w h => dev_Open_calls d ⟨⟨some ⟨g, 0, none⟩, Zm, Zc⟩, r0, r1, f0, f1⟩ zp w hW h
  have hpq := hpb.2.1
  dsimp only at hpq
  have a1 := fun w hC hB => zone_Append_calls ⟨zs, zd, zl⟩ bs pA bA pm pc bm bc d.sz w hpw hpl hbl om_ hsb hpq hC hB
  rw [hbl] at hap
  rw [hap] at a1
  show Calls _ _ _ _ fun e w' => e = .returned (.int .i64 0) ∧ ∃ s2 zp2, DSt M w' bd (putZ d i (appZ ⟨zs, zd, zl⟩ d.sz bs)) s2 zp2 ∧ BelowE M (fun k => k = bd) w w'
  generalize appZ ⟨zs, zd, zl⟩ d.sz bs = z' at *
  by_cases hz0 : zs = 0
  · have h4 := ho4 hz0
    refine calls_W (args := [.agg (cmV 1 i ⟨bA, bm, bc⟩).toArray, .pointer (some ⟨bd, 0, none⟩)]) Try.func36 rfl 78 rfl ?_
    (repeat' (first | (refine WL_is ?_; first | refine WL_nil ?_ | (refine WL_nilP rfl rfl rfl ?_) | (refine WL_isIndexAddr ?_; refine WL_indexB rfl rfl rfl rfl rfl hiZ ?_) | (refine WL_isStore ?_; refine WL_storeP rfl rfl rfl blk_ (hput (z', ⟨A_, z'.d.length, c_⟩)) rfl (zp1 (z', ⟨A_, z'.d.length, c_⟩)) ?_; intro w_ hz_ hx_ hB_) | (refine WL_isBin ?_; refine WL_ieT rfl rfl rfl rfl hz0 ?_) | refine wl_ ?_ | (refine WL_isFn ?_; refine WL_call rfl rfl rfl (a0 _ (DM.go hDM ext_)) ?_; rintro _ w_ ⟨rfl, hx_⟩; have hz_ := hx_.size; refine ⟨_, rfl, ?_⟩) | (refine WL_isFn ?_; refine WL_call rfl rfl rfl (a1 _ cells_ cells_) ?_; rintro _ w_ ⟨A_, c_, rfl, ho_, hx_⟩; have hz_ := hx_.size; have hr_ := own_rd ho_; have hq_ := own_cap ho_; refine ⟨_, rfl, ?_⟩)) | (refine WC_is ?_; first | refine WC_seq (fun _ _ => ?_) | refine WC_orderT (.rd true 0 (.rd true 1 (.rd true 2 (.rd true 3 (.rd true 4 (.rd true 5 (.rd true 6 (.rd true 7 (.rd true 8 (.rd true 9 (.rd true 10 (.rd true 11 (.rd true 12 .nil))))))))))))) [] [] 1 (by kernel_rfl) (by kernel_rfl) (fun w_ hx_ hz_ => ?_) | refine WC_orderE (.rd false 0 (.rd false 1 (.rd false 2 (.rd false 3 (.rd false 4 (.rd false 5 (.rd false 6 (.rd false 7 (.act true 8 (.act false 9 .nil .nil) .nil))))))))) [[], [], [], [], [], [], [], [], [], [0, 1, 2, 3, 4, 5, 6, 7, 8]] [8, 9] (some 9) 3 (by kernel_rfl) (by kernel_rfl) (fun w_ hx_ hz_ => ?_) | (refine WC_order (.rd true 0 (.rd true 1 (.rd true 2 (.rd true 3 (.rd true 4 (.rd true 5 (.rd true 6 (.act true 7 (.rd true 8 (.rd true 9 (.rd false 10 (.act true 11 (.rd true 12 .nil) .nil)))) .nil)))))))) [[], [], [], [], [], [], [], [0, 1, 2, 3, 4, 5, 6], [], [], [], [0, 1, 2, 3, 4, 5, 6, 7, 8, 9]] [7, 11] none (fun w' => True) (id := 4) (by kernel_rfl) (by kernel_rfl) (fun w_ hx_ => trivial) (fun w_ hx_ => ?_); have hz_ := hx_.size) | refine WC_orderT (.rd true 0 (.rd true 1 (.rd true 2 (.rd true 3 (.rd true 4 (.rd true 5 (.rd true 6 (.rd true 7 (.act true 8 .nil .nil))))))))) [[], [], [], [], [], [], [], [], [0, 1, 2, 3, 4, 5, 6, 7]] [8] 12 (by kernel_rfl) (by kernel_rfl) (fun w_ hx_ hz_ => ?_) | refine wc_ ?_) | (refine WQ_is ?_; first | refine wq_ ?_ | refine WQ_bodyAC (Or.inl rfl) rfl rfl rfl blk_ lr_ blk_ ?_ | refine WQ_bodyAC (Or.inr rfl) rfl rfl rfl blk_ lr_ blk_ ?_) | (refine Kb.mk ?_; intro b_ w_ hb_ hl_ hx_ hB_) | (refine Ks.mk ?_; intro w_ hz_ hx_ hB_) | (refine Ko.mk ?_; intro A_ c_ w_ hx_ ho_ hr_; have hz_ := hx_.size; have hq_ := own_cap ho_) | (refine Kp.mk ?_; intro A_ c_ w_ hx_ hz_ ho_ hr_ hp_; have hq_ := own_cap ho_) | (refine Kl.mk ?_; intro b_ w_ hb_ hl_ hx_ hB_ ho_) | (refine Km.mk ?_; intro b_ w_ hb_ hl_ hx_ ho_) | (refine Ke.mk ?_; intro r_ hr_) | (refine Kg.mk ?_ ?_ <;> intro hs_ <;> (try simp only [strEq_t, strEq_f, decide_eq_true_eq, decide_eq_false_iff_not, beq_iff_eq, beq_eq_false_iff_ne, bne_iff_ne, bne_eq_false_iff_eq, Bool.not_eq_true', Bool.not_eq_false', Bool.not_true, Bool.not_false, gt_iff_lt, ge_iff_le, Int.not_lt, Int.not_le, ne_eq, Bool.false_eq_true, not_true_eq_false, reduceCtorEq] at hs_) <;> (try (exfalso; first | exact hs_ | (exact hs_ rfl) | omega))) | (refine WX_is ?_; first | refine wx_ ?_ | exact WX_altnil | (refine WX_isRd ?_; first | (refine WX_isT ?_; refine WX_readT rfl rfl rfl rfl rfl (by (first | (refine WL_nilP rfl rfl rfl ?_) | (refine WL_isIndexAddr ?_; refine WL_indexB rfl rfl rfl rfl rfl hiZ ?_) | (refine WL_isStore ?_; refine WL_storeP rfl rfl rfl blk_ (hput (z', ⟨A_, z'.d.length, c_⟩)) rfl (zp1 (z', ⟨A_, z'.d.length, c_⟩)) ?_; intro w_ hz_ hx_ hB_) | (refine WL_isBin ?_; refine WL_ieT rfl rfl rfl rfl hz0 ?_) | refine wl_ ?_); refine WL_nil ?_; exact DR_mk rfl) ?_) | (refine WX_isF ?_; refine WX_read rfl rfl rfl rfl rfl (fun w_ hx_ => by (first | (refine WL_nilP rfl rfl rfl ?_) | (refine WL_isIndexAddr ?_; refine WL_indexB rfl rfl rfl rfl rfl hiZ ?_) | (refine WL_isStore ?_; refine WL_storeP rfl rfl rfl blk_ (hput (z', ⟨A_, z'.d.length, c_⟩)) rfl (zp1 (z', ⟨A_, z'.d.length, c_⟩)) ?_; intro w_ hz_ hx_ hB_) | (refine WL_isBin ?_; refine WL_ieT rfl rfl rfl rfl hz0 ?_) | refine wl_ ?_); refine WL_nil ?_; exact DR_mk rfl) ?_) | refine WX_nilP rfl rfl rfl rfl rfl rfl ?_ | refine wxg_ ?_) | (refine WX_isAct ?_; first | refine WX_eff1 rfl (fun _ _ => ?_) | refine WX_eff rfl (fun _ _ => ?_) ?_))))
    all_goals first
      | (exfalso; omega)
      | (obtain ⟨e1, e2⟩ := hD.zput2 (z := z') (P := fun k => k = bd) rfl hBg hi hM hg0 ext_ hx_ hB_ own_ rfl om_
         exact ⟨rfl, _, _, e1, e2⟩)
  · refine calls_W (args := [.agg (cmV 1 i ⟨bA, bm, bc⟩).toArray, .pointer (some ⟨bd, 0, none⟩)]) Try.func36 rfl 78 rfl ?_
    (repeat' (first | (refine WL_is ?_; first | refine WL_nil ?_ | (refine WL_nilP rfl rfl rfl ?_) | (refine WL_isIndexAddr ?_; refine WL_indexB rfl rfl rfl rfl rfl hiZ ?_) | (refine WL_isStore ?_; refine WL_storeP rfl rfl rfl blk_ (hput (z', ⟨A_, z'.d.length, c_⟩)) rfl (zp1 (z', ⟨A_, z'.d.length, c_⟩)) ?_; intro w_ hz_ hx_ hB_) | (refine WL_isBin ?_; refine WL_ieF rfl rfl rfl rfl hz0 ?_) | refine wl_ ?_ | (refine WL_isFn ?_; refine WL_call rfl rfl rfl (a1 _ cells_ cells_) ?_; rintro _ w_ ⟨A_, c_, rfl, ho_, hx_⟩; have hz_ := hx_.size; have hr_ := own_rd ho_; have hq_ := own_cap ho_; refine ⟨_, rfl, ?_⟩)) | (refine WC_is ?_; first | refine WC_seq (fun _ _ => ?_) | refine WC_orderT (.rd true 0 (.rd true 1 (.rd true 2 (.rd true 3 (.rd true 4 (.rd true 5 (.rd true 6 (.rd true 7 (.rd true 8 (.rd true 9 (.rd true 10 (.rd true 11 (.rd true 12 .nil))))))))))))) [] [] 1 (by kernel_rfl) (by kernel_rfl) (fun w_ hx_ hz_ => ?_) | refine WC_orderE (.rd false 0 (.rd false 1 (.rd false 2 (.rd false 3 (.rd false 4 (.rd false 5 (.rd false 6 (.rd false 7 (.act true 8 (.act false 9 .nil .nil) .nil))))))))) [[], [], [], [], [], [], [], [], [], [0, 1, 2, 3, 4, 5, 6, 7, 8]] [8, 9] (some 9) 3 (by kernel_rfl) (by kernel_rfl) (fun w_ hx_ hz_ => ?_) | (refine WC_order (.rd true 0 (.rd true 1 (.rd true 2 (.rd true 3 (.rd true 4 (.rd true 5 (.rd true 6 (.act true 7 (.rd true 8 (.rd true 9 (.rd false 10 (.act true 11 (.rd true 12 .nil) .nil)))) .nil)))))))) [[], [], [], [], [], [], [], [0, 1, 2, 3, 4, 5, 6], [], [], [], [0, 1, 2, 3, 4, 5, 6, 7, 8, 9]] [7, 11] none (fun w' => True) (id := 4) (by kernel_rfl) (by kernel_rfl) (fun w_ hx_ => trivial) (fun w_ hx_ => ?_); have hz_ := hx_.size) | refine WC_orderT (.rd true 0 (.rd true 1 (.rd true 2 (.rd true 3 (.rd true 4 (.rd true 5 (.rd true 6 (.rd true 7 (.act true 8 .nil .nil))))))))) [[], [], [], [], [], [], [], [], [0, 1, 2, 3, 4, 5, 6, 7]] [8] 12 (by kernel_rfl) (by kernel_rfl) (fun w_ hx_ hz_ => ?_) | refine wc_ ?_) | (refine WQ_is ?_; first | refine wq_ ?_ | refine WQ_bodyAC (Or.inl rfl) rfl rfl rfl blk_ lr_ blk_ ?_ | refine WQ_bodyAC (Or.inr rfl) rfl rfl rfl blk_ lr_ blk_ ?_) | (refine Kb.mk ?_; intro b_ w_ hb_ hl_ hx_ hB_) | (refine Ks.mk ?_; intro w_ hz_ hx_ hB_) | (refine Ko.mk ?_; intro A_ c_ w_ hx_ ho_ hr_; have hz_ := hx_.size; have hq_ := own_cap ho_) | (refine Kp.mk ?_; intro A_ c_ w_ hx_ hz_ ho_ hr_ hp_; have hq_ := own_cap ho_) | (refine Kl.mk ?_; intro b_ w_ hb_ hl_ hx_ hB_ ho_) | (refine Km.mk ?_; intro b_ w_ hb_ hl_ hx_ ho_) | (refine Ke.mk ?_; intro r_ hr_) | (refine Kg.mk ?_ ?_ <;> intro hs_ <;> (try simp only [strEq_t, strEq_f, decide_eq_true_eq, decide_eq_false_iff_not, beq_iff_eq, beq_eq_false_iff_ne, bne_iff_ne, bne_eq_false_iff_eq, Bool.not_eq_true', Bool.not_eq_false', Bool.not_true, Bool.not_false, gt_iff_lt, ge_iff_le, Int.not_lt, Int.not_le, ne_eq, Bool.false_eq_true, not_true_eq_false, reduceCtorEq] at hs_) <;> (try (exfalso; first | exact hs_ | (exact hs_ rfl) | omega))) | (refine WX_is ?_; first | refine wx_ ?_ | exact WX_altnil | (refine WX_isRd ?_; first | (refine WX_isT ?_; refine WX_readT rfl rfl rfl rfl rfl (by (first | (refine WL_nilP rfl rfl rfl ?_) | (refine WL_isIndexAddr ?_; refine WL_indexB rfl rfl rfl rfl rfl hiZ ?_) | (refine WL_isStore ?_; refine WL_storeP rfl rfl rfl blk_ (hput (z', ⟨A_, z'.d.length, c_⟩)) rfl (zp1 (z', ⟨A_, z'.d.length, c_⟩)) ?_; intro w_ hz_ hx_ hB_) | (refine WL_isBin ?_; refine WL_ieF rfl rfl rfl rfl hz0 ?_) | refine wl_ ?_); refine WL_nil ?_; exact DR_mk rfl) ?_) | (refine WX_isF ?_; refine WX_read rfl rfl rfl rfl rfl (fun w_ hx_ => by (first | (refine WL_nilP rfl rfl rfl ?_) | (refine WL_isIndexAddr ?_; refine WL_indexB rfl rfl rfl rfl rfl hiZ ?_) | (refine WL_isStore ?_; refine WL_storeP rfl rfl rfl blk_ (hput (z', ⟨A_, z'.d.length, c_⟩)) rfl (zp1 (z', ⟨A_, z'.d.length, c_⟩)) ?_; intro w_ hz_ hx_ hB_) | (refine WL_isBin ?_; refine WL_ieF rfl rfl rfl rfl hz0 ?_) | refine wl_ ?_); refine WL_nil ?_; exact DR_mk rfl) ?_) | refine WX_nilP rfl rfl rfl rfl rfl rfl ?_ | refine wxg_ ?_) | (refine WX_isAct ?_; first | refine WX_eff1 rfl (fun _ _ => ?_) | refine WX_eff rfl (fun _ _ => ?_) ?_))))
    all_goals first
      | (exfalso; omega)
      | (obtain ⟨e1, e2⟩ := hD.zput2 (z := z') (P := fun k => k = bd) rfl hBg hi hM hg0 ext_ hx_ hB_ own_ rfl om_
         exact ⟨rfl, _, _, e1, e2⟩)
theorem dev_zdoN_calls (i : Nat) (b : Sl) (M bd : Nat) (d : Dv) (s : Ds) (zp : List (Zo × Sl)) (w : World) (z : Zo) (hW : DvW d) (hD : DSt M w bd d s zp) (hbd : bd < M) (hM : M ≤ w.heap.size) (hz : d.zs[i]? = some z) (hap : fiE z = 0) :
    Calls Try.prog 36 #[.agg (cmV 3 i b).toArray, .pointer (some ⟨bd, 0, none⟩)] w fun e w' => e = .returned (.int .i64 0) ∧ ∃ s2 zp2, DSt M w' bd (putZ d i (fiZ z)) s2 zp2 ∧ BelowE M (fun k => k = bd) w w' := by
  have hDM := hD.dm
  have hlen := hDM.len
  have hzl := hW.zl
  have hzm := hDM.zm
  have hBd := hD.bd
  have hzs := hD.zs
  have hsb := hW.sb
  have hil : i < d.zs.length := (List.getElem?_eq_some_iff.1 hz).1
  obtain ⟨bA, bm, bc⟩ := b
  obtain ⟨⟨ZA, Zm, Zc⟩, r0, r1, f0, f1⟩ := s
  dsimp only at hlen hzm
  have ho : ∀ u ∈ cmV 3 i ⟨bA, bm, bc⟩, u.oneCell' = true := by
    intro u hu
    simp only [List.mem_cons, List.not_mem_nil, or_false] at hu
    rcases hu with rfl | rfl | rfl <;> rfl
  have hi : i < zp.length := by omega
  have hp : zp[i]? = some zp[i] := List.getElem?_eq_getElem hi
  generalize zp[i] = p at hp
  have hdz : d.zs[i]? = some p.1 := by rw [← hzs, List.getElem?_map, hp]; rfl
  obtain rfl : p.1 = z := by rw [hz] at hdz; exact (Option.some.inj hdz).symm
  have hpm := List.mem_of_getElem? hp
  have hpw : Zst p.1 := hW.zw _ (List.mem_of_getElem? hdz)
  have hpb := hDM.zb p hpm
  obtain ⟨g, rest, hA, hg0, hBg⟩ := row_open hD.zr om_
  dsimp only at hA
  subst hA
  have hiZ : i < Zm := by omega
  have hgl := hBg.lt
  have hput := fun q => Put.zp (rest := rest) (zp := zp) (i := i) q hi
  obtain ⟨⟨zs, zd, zl⟩, pA, pm, pc⟩ := p
  have hpl := hpb.1
  have hpc := hpb.2.2
  dsimp only at hpl hpc hap hpw
  have hsg : Seg (catC zpC zp ++ rest) (0 + i * 3) 3 [.int .i64 zs, .slice pA pm pc, .int .i64 zl] := Seg.zp hp
  have a1 := fun w hC => zone_Finish_calls ⟨zs, zd, zl⟩ pA pm pc w hpw hpl hC
  rw [hap] at a1
  show Calls _ _ _ _ fun e w' => e = .returned (.int .i64 0) ∧ ∃ s2 zp2, DSt M w' bd (putZ d i (fiZ ⟨zs, zd, zl⟩)) s2 zp2 ∧ BelowE M (fun k => k = bd) w w'
  generalize fiZ ⟨zs, zd, zl⟩ = z' at *
  refine calls_W (args := [.agg (cmV 3 i ⟨bA, bm, bc⟩).toArray, .pointer (some ⟨bd, 0, none⟩)]) Try.func36 rfl 78 rfl ?_
  (repeat' (first | (refine WL_is ?_; first | refine WL_nil ?_ | (refine WL_nilP rfl rfl rfl ?_) | (refine WL_isIndexAddr ?_; refine WL_indexB rfl rfl rfl rfl rfl hiZ ?_) | (refine WL_isStore ?_; refine WL_storeP rfl rfl rfl blk_ (hput (z', ⟨A_, z'.d.length, c_⟩)) rfl (zp1 (z', ⟨A_, z'.d.length, c_⟩)) ?_; intro w_ hz_ hx_ hB_) | refine wl_ ?_ | (refine WL_isFn ?_; refine WL_call rfl rfl rfl (a1 _ cells_) ?_; rintro _ w_ ⟨A_, c_, rfl, ho_, hx_⟩; have hz_ := hx_.size; have hr_ := own_rd ho_; have hq_ := own_cap ho_; refine ⟨_, rfl, ?_⟩)) | (refine WC_is ?_; first | refine WC_seq (fun _ _ => ?_) | refine WC_orderT (.rd true 0 (.rd true 1 (.rd true 2 (.rd true 3 (.rd true 4 (.rd true 5 (.rd true 6 (.rd true 7 (.rd true 8 (.rd true 9 (.rd true 10 (.rd true 11 (.rd true 12 .nil))))))))))))) [] [] 1 (by kernel_rfl) (by kernel_rfl) (fun w_ hx_ hz_ => ?_) | refine WC_orderE (.rd false 0 (.rd false 1 (.rd false 2 (.rd false 3 (.rd false 4 (.rd false 5 (.rd false 6 (.rd false 7 (.act true 8 (.act false 9 .nil .nil) .nil))))))))) [[], [], [], [], [], [], [], [], [], [0, 1, 2, 3, 4, 5, 6, 7, 8]] [8, 9] (some 9) 3 (by kernel_rfl) (by kernel_rfl) (fun w_ hx_ hz_ => ?_) | refine WC_orderE (.rd true 0 (.rd true 1 (.rd true 2 (.rd true 3 (.rd true 4 (.rd true 5 (.rd true 6 (.act true 7 (.rd true 8 (.rd true 9 (.rd false 10 (.act true 11 (.rd true 12 .nil) .nil)))) .nil)))))))) [[], [], [], [], [], [], [], [0, 1, 2, 3, 4, 5, 6], [], [], [], [0, 1, 2, 3, 4, 5, 6, 7, 8, 9]] [7, 11] none 4 (by kernel_rfl) (by kernel_rfl) (fun w_ hx_ hz_ => ?_) | refine WC_orderT (.rd true 0 (.rd true 1 (.rd true 2 (.rd true 3 (.rd true 4 (.rd true 5 (.rd true 6 (.rd true 7 (.act true 8 .nil .nil))))))))) [[], [], [], [], [], [], [], [], [0, 1, 2, 3, 4, 5, 6, 7]] [8] 12 (by kernel_rfl) (by kernel_rfl) (fun w_ hx_ hz_ => ?_) | refine wc_ ?_) | (refine WQ_is ?_; first | refine wq_ ?_ | refine WQ_bodyAC (Or.inl rfl) rfl rfl rfl blk_ lr_ blk_ ?_ | refine WQ_bodyAC (Or.inr rfl) rfl rfl rfl blk_ lr_ blk_ ?_) | (refine Kb.mk ?_; intro b_ w_ hb_ hl_ hx_ hB_) | (refine Ks.mk ?_; intro w_ hz_ hx_ hB_) | (refine Ko.mk ?_; intro A_ c_ w_ hx_ ho_ hr_; have hz_ := hx_.size; have hq_ := own_cap ho_) | (refine Kp.mk ?_; intro A_ c_ w_ hx_ hz_ ho_ hr_ hp_; have hq_ := own_cap ho_) | (refine Kl.mk ?_; intro b_ w_ hb_ hl_ hx_ hB_ ho_) | (refine Km.mk ?_; intro b_ w_ hb_ hl_ hx_ ho_) | (refine Ke.mk ?_; intro r_ hr_) | (refine Kg.mk ?_ ?_ <;> intro hs_ <;> (try simp only [strEq_t, strEq_f, decide_eq_true_eq, decide_eq_false_iff_not, beq_iff_eq, beq_eq_false_iff_ne, bne_iff_ne, bne_eq_false_iff_eq, Bool.not_eq_true', Bool.not_eq_false', Bool.not_true, Bool.not_false, gt_iff_lt, ge_iff_le, Int.not_lt, Int.not_le, ne_eq, Bool.false_eq_true, not_true_eq_false, reduceCtorEq] at hs_) <;> (try (exfalso; first | exact hs_ | (exact hs_ rfl) | omega))) | (refine WX_is ?_; first | refine wx_ ?_ | exact WX_altnil | (refine WX_isRd ?_; first | (refine WX_isT ?_; refine WX_readT rfl rfl rfl rfl rfl (by (first | (refine WL_nilP rfl rfl rfl ?_) | (refine WL_isIndexAddr ?_; refine WL_indexB rfl rfl rfl rfl rfl hiZ ?_) | (refine WL_isStore ?_; refine WL_storeP rfl rfl rfl blk_ (hput (z', ⟨A_, z'.d.length, c_⟩)) rfl (zp1 (z', ⟨A_, z'.d.length, c_⟩)) ?_; intro w_ hz_ hx_ hB_) | refine wl_ ?_); refine WL_nil ?_; exact DR_mk rfl) ?_) | (refine WX_isF ?_; refine WX_read rfl rfl rfl rfl rfl (fun w_ hx_ => by (first | (refine WL_nilP rfl rfl rfl ?_) | (refine WL_isIndexAddr ?_; refine WL_indexB rfl rfl rfl rfl rfl hiZ ?_) | (refine WL_isStore ?_; refine WL_storeP rfl rfl rfl blk_ (hput (z', ⟨A_, z'.d.length, c_⟩)) rfl (zp1 (z', ⟨A_, z'.d.length, c_⟩)) ?_; intro w_ hz_ hx_ hB_) | refine wl_ ?_); refine WL_nil ?_; exact DR_mk rfl) ?_) | refine WX_nilP rfl rfl rfl rfl rfl rfl ?_ | refine wxg_ ?_) | (refine WX_isAct ?_; first | refine WX_eff1 rfl (fun _ _ => ?_) | refine WX_eff rfl (fun _ _ => ?_) ?_))))
  all_goals first
    | (exfalso; omega)
    | (obtain ⟨e1, e2⟩ := hD.zput2 (z := z') (P := fun k => k = bd) rfl hBg hi hM hg0 ext_ hx_ hB_ own_ rfl om_
       exact ⟨rfl, _, _, e1, e2⟩)
theorem as_ZZ (x : Value) (w : World) : (Instr.typeAssert (.iface ZdT x) AnT ZdT true).run Try.prog w = .ok (.tuple #[x, .bool true]) w := by kernel_rfl
theorem dev_doneZ_calls (k n : Int) (hk : k = 1 ∨ k = 3) (b : Sl) (M bd : Nat) (d d2 : Dv) (s : Ds) (zp : List (Zo × Sl)) (w : World) (hD : DSt M w bd d s zp) (hbd : bd < M) (hM : M ≤ w.heap.size)
    (hdo : ∀ w1, Ext w w1 → M ≤ w1.heap.size → DSt M w1 bd d s zp → Calls Try.prog 36 #[.agg (cmV k n b).toArray, .pointer (some ⟨bd, 0, none⟩)] w1 fun e w' => e = .returned (.int .i64 0) ∧ ∃ s2 zp2, DSt M w' bd d2 s2 zp2 ∧ BelowE M (fun k => k = bd) w1 w') :
    Calls Try.prog 27 #[.pointer (some ⟨bd, 0, none⟩), .agg (cmV k n b).toArray] w fun e w' => e = .returned (.int .i64 0) ∧ ∃ s2 zp2, DSt M w' bd d2 s2 zp2 ∧ BelowE M (fun k => k = bd) w w' := by
  have a1 := fun w => dev_of_calls k n b w
  have e1 : ofV k n b = .iface ZdT (.agg (cmV k n b).toArray) := if_pos om_
  rw [e1] at a1
  have ho : ∀ u ∈ cmV k n b, u.oneCell' = true := by
    intro u hu
    simp only [List.mem_cons, List.not_mem_nil, or_false] at hu
    rcases hu with rfl | rfl | rfl <;> rfl
  refine calls_W (args := [.pointer (some ⟨bd, 0, none⟩), .agg (cmV k n b).toArray]) Try.func27 rfl 108 rfl ?_
  (repeat' (first | (refine WL_is ?_; first | refine WL_nil ?_ | (refine WL_nilP rfl rfl rfl ?_) | (refine WL_assert rfl rfl rfl (as_ZZ _) ?_) | refine wl_ ?_ | (refine WL_isFn ?_; refine WL_call rfl rfl rfl (a1 _) ?_; rintro _ w_ ⟨rfl, hx_⟩; have hz_ := hx_.size; refine ⟨_, rfl, ?_⟩) | (refine WL_isFn ?_; refine WL_call rfl rfl rfl (hdo _ ext_ om_ (hD.ext ext_)) ?_; rintro _ w_ ⟨rfl, s2_, zp2_, hD2_, hK2_⟩; have hz_ := hK2_.size; refine ⟨_, rfl, ?_⟩)) | (refine WC_is ?_; first | refine WC_seq (fun _ _ => ?_) | refine WC_orderE (.rd false 0 (.rd false 1 (.rd false 2 (.rd true 3 (.rd true 4 (.rd false 6 (.rd false 7 (.act true 5 (.rd true 8 (.act false 9 .nil .nil)) .nil)))))))) [[], [], [], [], [], [3, 4], [], [], [], [0, 1, 2, 3, 4, 5, 6, 7, 8]] [5, 9] (some 9) 9 (by kernel_rfl) (by kernel_rfl) (fun w_ hx_ hz_ => ?_) | refine WC_orderE (.rd false 0 (.rd false 1 (.rd false 2 (.rd false 3 (.rd false 4 (.rd true 5 (.rd true 6 (.rd true 7 (.rd true 8 (.rd true 9 (.rd true 10 (.rd true 11 (.act true 12 (.rd true 13 (.act false 14 .nil .nil)) .nil))))))))))))) [[], [], [], [], [], [], [], [], [], [], [], [], [5, 6, 7, 8, 9, 10, 11], [], [0, 1, 2, 3, 4, 5, 6, 7, 8, 9, 10, 11, 12, 13]] [12, 14] (some 14) 17 (by kernel_rfl) (by kernel_rfl) (fun w_ hx_ hz_ => ?_) | refine WC_orderE (.rd true 0 (.rd true 1 (.rd false 2 (.rd false 3 (.rd true 4 (.rd true 5 (.rd true 6 (.rd true 7 (.rd false 9 (.rd false 10 (.act true 8 (.rd true 11 (.act false 12 .nil .nil)) .nil))))))))))) [[], [], [], [], [], [], [], [], [0, 1, 4, 5, 6, 7], [], [], [], [0, 1, 2, 3, 4, 5, 6, 7, 8, 9, 10, 11]] [8, 12] (some 12) 23 (by kernel_rfl) (by kernel_rfl) (fun w_ hx_ hz_ => ?_) | refine wc_ ?_) | (refine WQ_is ?_; first | refine wq_ ?_ | refine WQ_bodyAC (Or.inl rfl) rfl rfl rfl blk_ lr_ blk_ ?_ | refine WQ_bodyAC (Or.inr rfl) rfl rfl rfl blk_ lr_ blk_ ?_) | (refine Kb.mk ?_; intro b_ w_ hb_ hl_ hx_ hB_) | (refine Ks.mk ?_; intro w_ hz_ hx_ hB_) | (refine Ko.mk ?_; intro A_ c_ w_ hx_ ho_ hr_; have hz_ := hx_.size; have hq_ := own_cap ho_) | (refine Kp.mk ?_; intro A_ c_ w_ hx_ hz_ ho_ hr_ hp_; have hq_ := own_cap ho_) | (refine Kl.mk ?_; intro b_ w_ hb_ hl_ hx_ hB_ ho_) | (refine Km.mk ?_; intro b_ w_ hb_ hl_ hx_ ho_) | (refine Ke.mk ?_; intro r_ hr_) | (refine Kg.mk ?_ ?_ <;> intro hs_ <;> (try simp only [strEq_t, strEq_f, decide_eq_true_eq, decide_eq_false_iff_not, beq_iff_eq, beq_eq_false_iff_ne, bne_iff_ne, bne_eq_false_iff_eq, Bool.not_eq_true', Bool.not_eq_false', Bool.not_true, Bool.not_false, gt_iff_lt, ge_iff_le, Int.not_lt, Int.not_le, ne_eq, Bool.false_eq_true, not_true_eq_false, reduceCtorEq] at hs_) <;> (try (exfalso; first | exact hs_ | (exact hs_ rfl) | omega))) | (refine WX_is ?_; first | refine wx_ ?_ | exact WX_altnil | (refine WX_isRd ?_; first | (refine WX_isT ?_; refine WX_readT rfl rfl rfl rfl rfl (by (first | (refine WL_nilP rfl rfl rfl ?_) | (refine WL_assert rfl rfl rfl (as_ZZ _) ?_) | refine wl_ ?_); refine WL_nil ?_; exact DR_mk rfl) ?_) | (refine WX_isF ?_; refine WX_read rfl rfl rfl rfl rfl (fun w_ hx_ => by (first | (refine WL_nilP rfl rfl rfl ?_) | (refine WL_assert rfl rfl rfl (as_ZZ _) ?_) | refine wl_ ?_); refine WL_nil ?_; exact DR_mk rfl) ?_) | refine WX_nilP rfl rfl rfl rfl rfl rfl ?_ | refine wxg_ ?_) | (refine WX_isAct ?_; first | refine WX_eff1 rfl (fun _ _ => ?_) | refine WX_eff rfl (fun _ _ => ?_) ?_))))
  all_goals exact ⟨rfl, _, _, hD2_, (BelowE.of ext_ hM).then hK2_⟩
/-- An append, and a finish, of a device that goes on. -/
theorem dev_DoA_calls (i : Nat) (b : Sl) (bs : List Int) (w : World) (d : Dv) (s : Ds) (zp : List (Zo × Sl)) (z : Zo) (hW : DvW d) (hG : Go1 d) (hM : DM w d s zp) (hb : SlB w b bs) (hbs : bs.length ≤ 1000000) (hz : d.zs[i]? = some z) (hap : appE z d.sz bs.length = 0) (ho4 : z.s = 0 → opD d < 4) :
    Calls Try.prog 15 #[.agg (dvC d s).toArray, .agg (cmV 1 i b).toArray] w fun e w' => ∃ s2 zp2, e = .returned (.tuple #[.agg (dvC (putZ (inc d) i (appZ z d.sz bs)) s2).toArray, .int .i64 0]) ∧ DRw w.heap.size w' (putZ (inc d) i (appZ z d.sz bs)) s2 zp2 ∧ Ext w w' :=
  dev_Do_calls 1 i b w d _ s zp hW hG hM fun w0 hx w1 bd s zp M hx1 hbd hM hD => dev_doneZ_calls 1 i (.inl rfl) b M bd (inc d) _ s zp w1 hD hbd hM fun w2 hx2 hM2 hD2 => dev_zdoA_calls i b bs M bd (inc d) s zp w2 z (hW.inc hG.2.2.2.2) hD2 hbd hM2 (((hb.ext hx).ext hx1).ext hx2) hbs hz hap ho4
theorem dev_DoN_calls (i : Nat) (b : Sl) (w : World) (d : Dv) (s : Ds) (zp : List (Zo × Sl)) (z : Zo) (hW : DvW d) (hG : Go1 d) (hM : DM w d s zp) (hz : d.zs[i]? = some z) (hap : fiE z = 0) :
    Calls Try.prog 15 #[.agg (dvC d s).toArray, .agg (cmV 3 i b).toArray] w fun e w' => ∃ s2 zp2, e = .returned (.tuple #[.agg (dvC (putZ (inc d) i (fiZ z)) s2).toArray, .int .i64 0]) ∧ DRw w.heap.size w' (putZ (inc d) i (fiZ z)) s2 zp2 ∧ Ext w w' :=
  dev_Do_calls 3 i b w d _ s zp hW hG hM fun w0 hx w1 bd s zp M hx1 hbd hM hD => dev_doneZ_calls 3 i (.inr rfl) b M bd (inc d) _ s zp w1 hD hbd hM fun w2 hx2 hM2 hD2 => dev_zdoN_calls i b M bd (inc d) s zp w2 z (hW.inc hG.2.2.2.2) hD2 hbd hM2 hz hap
end Go.Proofs.Ytemfngomfiimfaa.K
