/- Chapter 16 (log): how many zones are empty; what appends leave, in plain words. Seat-free. -/
import Derived.Test.YtemfngomfiimfaaL5
import Derived.Test.YtemfngomfiimfaaG4
set_option linter.unusedVariables false
set_option linter.unusedSimpArgs false
set_option maxHeartbeats 4000000
set_option maxRecDepth 20000
namespace Go.Proofs.Ytemfngomfiimfaa.K
open Go.RowKit
attribute [local irreducible] strEq strOfNums Calls WL WC WQ WX Code.wp wpList bodyPost
/-- How many of the first i zones are empty. -/
def emT (zs : List Zo) : Nat → Nat
  | 0 => 0
  | i + 1 => emT zs i + (if ((zs[i]?).map (·.s)) = some 0 then 1 else 0)
def emD (d : Dv) : Nat := emT d.zs d.zs.length
theorem emT_le (zs : List Zo) : ∀ i, emT zs i ≤ i
  | 0 => Nat.le_refl _
  | i + 1 => by have := emT_le zs i; unfold emT; split <;> omega
theorem emT_step (zs : List Zo) (i : Nat) : emT zs (i + 1) = emT zs i + (if ((zs[i]?).map (·.s)) = some 0 then 1 else 0) := rfl
theorem log_Empty_calls (d : Dv) (s : Ds) (zp : List (Zo × Sl)) (w : World) (hW : DvW d) (hM : DM w d s zp) :
    Calls Try.prog 7 #[.agg (dvC d s).toArray] w fun e w' => e = .returned (.int .i64 (emD d)) ∧ Ext w w' := by
  have hlen := hM.len
  have hzl := hW.zl
  have hzz := hM.zz
  have hsz := hM.sz
  have p1 := dvC_one d s
  have hzs := hM.zs
  have hzm := hM.zm
  obtain ⟨⟨ZA, Zm, Zc⟩, r0, r1, f0, f1⟩ := s
  dsimp only at hlen hzz hsz hzm
  unfold emD
  rw [hlen]
  refine calls_W (args := [.agg (dvC d ⟨⟨ZA, Zm, Zc⟩, r0, r1, f0, f1⟩).toArray]) Try.func7 rfl 19 rfl ?_
  (repeat' (first | (refine WL_is ?_; first | refine WL_nil ?_ | refine wl_ ?_ ) | (refine WC_is ?_; first | refine WC_seq (fun _ _ => ?_) | refine wc_ ?_ | refine WC_scope ?_ | refine WC_label ?_) | (refine WQ_is ?_; first | refine wq_ ?_ | refine WQ_bodyT4 (Or.inl rfl) rfl rfl rfl rfl rfl ?_ | refine WQ_bodyC4 (Or.inl rfl) rfl rfl rfl rfl rfl rfl blk_ lr_ ?_ | refine WQ_bodyT4 (Or.inr rfl) rfl rfl rfl rfl rfl ?_ | refine WQ_bodyC4 (Or.inr rfl) rfl rfl rfl rfl rfl rfl blk_ lr_ ?_ | refine WQ_noGotoN ?_ | refine WQ_noGotoR ?_ | refine WQ_noGotoE ?_) | (refine Kb.mk ?_; intro b_ w_ hb_ hl_ hx_ hB_) | (refine Ks.mk ?_; intro w_ hz_ hx_ hB_) | (refine Ko.mk ?_; intro A_ c_ w_ hx_ ho_ hr_; have hz_ := hx_.size; have hq_ := own_cap ho_) | (refine Kp.mk ?_; intro A_ c_ w_ hx_ hz_ ho_ hr_ hp_; have hq_ := own_cap ho_) | (refine Kl.mk ?_; intro b_ w_ hb_ hl_ hx_ hB_ ho_) | (refine Km.mk ?_; intro b_ w_ hb_ hl_ hx_ ho_) | (refine Ke.mk ?_; intro r_ hr_) | (refine Kg.mk ?_ ?_ <;> intro hs_ <;> (try simp only [strEq_t, strEq_f, decide_eq_true_eq, decide_eq_false_iff_not, beq_iff_eq, beq_eq_false_iff_ne, bne_iff_ne, bne_eq_false_iff_eq, Bool.not_eq_true', Bool.not_eq_false', Bool.not_true, Bool.not_false, gt_iff_lt, ge_iff_le, Int.not_lt, Int.not_le, ne_eq, Bool.false_eq_true, not_true_eq_false, reduceCtorEq] at hs_) <;> (try (exfalso; first | exact hs_ | (exact hs_ rfl) | omega))) | (refine WX_is ?_; first | refine wx_ ?_ | exact WX_altnil | (refine WX_isRd ?_; first | (refine WX_isT ?_; refine WX_readT rfl rfl rfl rfl rfl (by (first | refine wl_ ?_); refine WL_nil ?_; exact DR_mk rfl) ?_) | (refine WX_isF ?_; refine WX_read rfl rfl rfl rfl rfl (fun w_ hx_ => by (first | refine wl_ ?_); refine WL_nil ?_; exact DR_mk rfl) ?_) | refine wxg_ ?_) | (refine WX_isAct ?_; first | refine WX_eff1 rfl (fun _ _ => ?_) | refine WX_eff rfl (fun _ _ => ?_) ?_))))
  refine WC_loopL (X := Nat) [6, 7, 18] rfl (fun i w' => i ≤ Zm ∧ Ext w w') (fun i => [(8, .int .i64 i), (2, .int .i64 (emT d.zs i))]) (fun i => Zm - i) 0 ⟨om_, ext_⟩ env_ ?_
  intro i w2 ⟨hi, hx2⟩ K hK
  have hz2 := hx2.size
  have hop := emT_le d.zs i
  rcases Nat.lt_or_ge i Zm with hlt | hge
  · obtain ⟨p, hp⟩ : ∃ p, zp[i]? = some p := ⟨_, List.getElem?_eq_getElem om_⟩
    have hld := zp_load hp
    have hst := emT_step d.zs i
    have hi' : (d.zs[i]?).map (·.s) = some p.1.s := by rw [← hzs, List.getElem?_map, hp]; rfl
    rw [hi'] at hst
    have hpl := zpC_length p
    have hpo : ∀ u ∈ zpC p, u.oneCell' = true := by
      intro u hu
      simp only [zpC, List.mem_cons, List.not_mem_nil, or_false] at hu
      rcases hu with rfl | rfl | rfl <;> rfl
    by_cases hs : p.1.s = 0
    · rw [if_pos (by rw [hs])] at hst
      have em : ((emT d.zs (i + 1) : Nat) : Int) = (emT d.zs i : Int) + 1 := by omega
      (repeat' (first | (refine WL_is ?_; first | refine WL_nil ?_ | (refine WL_isIndexAddr ?_; refine WL_indexS rfl rfl rfl rfl cells_ om_ om_ om_ ?_) | (refine WL_isLoad ?_; refine WL_loadPA rfl rfl rfl cells_ hpl om_ hld ?_) | (refine WL_isBin ?_; refine WL_ieT rfl rfl rfl rfl hs ?_) | refine wl_ ?_ ) | (refine WC_is ?_; first | refine WC_seq (fun _ _ => ?_) | refine wc_ ?_ | refine WC_scope ?_ | refine WC_label ?_) | (refine WQ_is ?_; first | refine wq_ ?_ | refine WQ_bodyT4 (Or.inl rfl) rfl rfl rfl rfl rfl ?_ | refine WQ_bodyC4 (Or.inl rfl) rfl rfl rfl rfl rfl rfl blk_ lr_ ?_ | refine WQ_bodyT4 (Or.inr rfl) rfl rfl rfl rfl rfl ?_ | refine WQ_bodyC4 (Or.inr rfl) rfl rfl rfl rfl rfl rfl blk_ lr_ ?_ | refine WQ_noGotoN ?_ | refine WQ_noGotoR ?_ | refine WQ_noGotoE ?_) | (refine Kb.mk ?_; intro b_ w_ hb_ hl_ hx_ hB_) | (refine Ks.mk ?_; intro w_ hz_ hx_ hB_) | (refine Ko.mk ?_; intro A_ c_ w_ hx_ ho_ hr_; have hz_ := hx_.size; have hq_ := own_cap ho_) | (refine Kp.mk ?_; intro A_ c_ w_ hx_ hz_ ho_ hr_ hp_; have hq_ := own_cap ho_) | (refine Kl.mk ?_; intro b_ w_ hb_ hl_ hx_ hB_ ho_) | (refine Km.mk ?_; intro b_ w_ hb_ hl_ hx_ ho_) | (refine Ke.mk ?_; intro r_ hr_) | (refine Kg.mk ?_ ?_ <;> intro hs_ <;> (try simp only [strEq_t, strEq_f, decide_eq_true_eq, decide_eq_false_iff_not, beq_iff_eq, beq_eq_false_iff_ne, bne_iff_ne, bne_eq_false_iff_eq, Bool.not_eq_true', Bool.not_eq_false', Bool.not_true, Bool.not_false, gt_iff_lt, ge_iff_le, Int.not_lt, Int.not_le, ne_eq, Bool.false_eq_true, not_true_eq_false, reduceCtorEq] at hs_) <;> (try (exfalso; first | exact hs_ | (exact hs_ rfl) | omega))) | (refine WX_is ?_; first | refine wx_ ?_ | exact WX_altnil | (refine WX_isRd ?_; first | (refine WX_isT ?_; refine WX_readT rfl rfl rfl rfl rfl (by (first | (refine WL_isIndexAddr ?_; refine WL_indexS rfl rfl rfl rfl cells_ om_ om_ om_ ?_) | (refine WL_isLoad ?_; refine WL_loadPA rfl rfl rfl cells_ hpl om_ hld ?_) | (refine WL_isBin ?_; refine WL_ieT rfl rfl rfl rfl hs ?_) | refine wl_ ?_); refine WL_nil ?_; exact DR_mk rfl) ?_) | (refine WX_isF ?_; refine WX_read rfl rfl rfl rfl rfl (fun w_ hx_ => by (first | (refine WL_isIndexAddr ?_; refine WL_indexS rfl rfl rfl rfl cells_ om_ om_ om_ ?_) | (refine WL_isLoad ?_; refine WL_loadPA rfl rfl rfl cells_ hpl om_ hld ?_) | (refine WL_isBin ?_; refine WL_ieT rfl rfl rfl rfl hs ?_) | refine wl_ ?_); refine WL_nil ?_; exact DR_mk rfl) ?_) | refine wxg_ ?_) | (refine WX_isAct ?_; first | refine WX_eff1 rfl (fun _ _ => ?_) | refine WX_eff rfl (fun _ _ => ?_) ?_))))
      all_goals first | (exfalso; omega) | (refine WQ_againL hK (i + 1) ⟨om_, ext_⟩ ?_ om_; rw [em]; exact env_)
    · rw [if_neg (by simpa using hs)] at hst
      have em : ((emT d.zs (i + 1) : Nat) : Int) = (emT d.zs i : Int) := by omega
      (repeat' (first | (refine WL_is ?_; first | refine WL_nil ?_ | (refine WL_isIndexAddr ?_; refine WL_indexS rfl rfl rfl rfl cells_ om_ om_ om_ ?_) | (refine WL_isLoad ?_; refine WL_loadPA rfl rfl rfl cells_ hpl om_ hld ?_) | (refine WL_isBin ?_; refine WL_ieF rfl rfl rfl rfl hs ?_) | refine wl_ ?_ ) | (refine WC_is ?_; first | refine WC_seq (fun _ _ => ?_) | refine wc_ ?_ | refine WC_scope ?_ | refine WC_label ?_) | (refine WQ_is ?_; first | refine wq_ ?_ | refine WQ_bodyT4 (Or.inl rfl) rfl rfl rfl rfl rfl ?_ | refine WQ_bodyC4 (Or.inl rfl) rfl rfl rfl rfl rfl rfl blk_ lr_ ?_ | refine WQ_bodyT4 (Or.inr rfl) rfl rfl rfl rfl rfl ?_ | refine WQ_bodyC4 (Or.inr rfl) rfl rfl rfl rfl rfl rfl blk_ lr_ ?_ | refine WQ_noGotoN ?_ | refine WQ_noGotoR ?_ | refine WQ_noGotoE ?_) | (refine Kb.mk ?_; intro b_ w_ hb_ hl_ hx_ hB_) | (refine Ks.mk ?_; intro w_ hz_ hx_ hB_) | (refine Ko.mk ?_; intro A_ c_ w_ hx_ ho_ hr_; have hz_ := hx_.size; have hq_ := own_cap ho_) | (refine Kp.mk ?_; intro A_ c_ w_ hx_ hz_ ho_ hr_ hp_; have hq_ := own_cap ho_) | (refine Kl.mk ?_; intro b_ w_ hb_ hl_ hx_ hB_ ho_) | (refine Km.mk ?_; intro b_ w_ hb_ hl_ hx_ ho_) | (refine Ke.mk ?_; intro r_ hr_) | (refine Kg.mk ?_ ?_ <;> intro hs_ <;> (try simp only [strEq_t, strEq_f, decide_eq_true_eq, decide_eq_false_iff_not, beq_iff_eq, beq_eq_false_iff_ne, bne_iff_ne, bne_eq_false_iff_eq, Bool.not_eq_true', Bool.not_eq_false', Bool.not_true, Bool.not_false, gt_iff_lt, ge_iff_le, Int.not_lt, Int.not_le, ne_eq, Bool.false_eq_true, not_true_eq_false, reduceCtorEq] at hs_) <;> (try (exfalso; first | exact hs_ | (exact hs_ rfl) | omega))) | (refine WX_is ?_; first | refine wx_ ?_ | exact WX_altnil | (refine WX_isRd ?_; first | (refine WX_isT ?_; refine WX_readT rfl rfl rfl rfl rfl (by (first | (refine WL_isIndexAddr ?_; refine WL_indexS rfl rfl rfl rfl cells_ om_ om_ om_ ?_) | (refine WL_isLoad ?_; refine WL_loadPA rfl rfl rfl cells_ hpl om_ hld ?_) | (refine WL_isBin ?_; refine WL_ieF rfl rfl rfl rfl hs ?_) | refine wl_ ?_); refine WL_nil ?_; exact DR_mk rfl) ?_) | (refine WX_isF ?_; refine WX_read rfl rfl rfl rfl rfl (fun w_ hx_ => by (first | (refine WL_isIndexAddr ?_; refine WL_indexS rfl rfl rfl rfl cells_ om_ om_ om_ ?_) | (refine WL_isLoad ?_; refine WL_loadPA rfl rfl rfl cells_ hpl om_ hld ?_) | (refine WL_isBin ?_; refine WL_ieF rfl rfl rfl rfl hs ?_) | refine wl_ ?_); refine WL_nil ?_; exact DR_mk rfl) ?_) | refine wxg_ ?_) | (refine WX_isAct ?_; first | refine WX_eff1 rfl (fun _ _ => ?_) | refine WX_eff rfl (fun _ _ => ?_) ?_))))
      all_goals first | (exfalso; omega) | (refine WQ_againL hK (i + 1) ⟨om_, ext_⟩ ?_ om_; rw [em]; exact env_)
  · obtain rfl : i = Zm := by omega
    (repeat' (first | (refine WL_is ?_; first | refine WL_nil ?_ | refine wl_ ?_ ) | (refine WC_is ?_; first | refine WC_seq (fun _ _ => ?_) | refine wc_ ?_ | refine WC_scope ?_ | refine WC_label ?_) | (refine WQ_is ?_; first | refine wq_ ?_ | refine WQ_bodyT4 (Or.inl rfl) rfl rfl rfl rfl rfl ?_ | refine WQ_bodyC4 (Or.inl rfl) rfl rfl rfl rfl rfl rfl blk_ lr_ ?_ | refine WQ_bodyT4 (Or.inr rfl) rfl rfl rfl rfl rfl ?_ | refine WQ_bodyC4 (Or.inr rfl) rfl rfl rfl rfl rfl rfl blk_ lr_ ?_ | refine WQ_noGotoN ?_ | refine WQ_noGotoR ?_ | refine WQ_noGotoE ?_) | (refine Kb.mk ?_; intro b_ w_ hb_ hl_ hx_ hB_) | (refine Ks.mk ?_; intro w_ hz_ hx_ hB_) | (refine Ko.mk ?_; intro A_ c_ w_ hx_ ho_ hr_; have hz_ := hx_.size; have hq_ := own_cap ho_) | (refine Kp.mk ?_; intro A_ c_ w_ hx_ hz_ ho_ hr_ hp_; have hq_ := own_cap ho_) | (refine Kl.mk ?_; intro b_ w_ hb_ hl_ hx_ hB_ ho_) | (refine Km.mk ?_; intro b_ w_ hb_ hl_ hx_ ho_) | (refine Ke.mk ?_; intro r_ hr_) | (refine Kg.mk ?_ ?_ <;> intro hs_ <;> (try simp only [strEq_t, strEq_f, decide_eq_true_eq, decide_eq_false_iff_not, beq_iff_eq, beq_eq_false_iff_ne, bne_iff_ne, bne_eq_false_iff_eq, Bool.not_eq_true', Bool.not_eq_false', Bool.not_true, Bool.not_false, gt_iff_lt, ge_iff_le, Int.not_lt, Int.not_le, ne_eq, Bool.false_eq_true, not_true_eq_false, reduceCtorEq] at hs_) <;> (try (exfalso; first | exact hs_ | (exact hs_ rfl) | omega))) | (refine WX_is ?_; first | refine wx_ ?_ | exact WX_altnil | (refine WX_isRd ?_; first | (refine WX_isT ?_; refine WX_readT rfl rfl rfl rfl rfl (by (first | refine wl_ ?_); refine WL_nil ?_; exact DR_mk rfl) ?_) | (refine WX_isF ?_; refine WX_read rfl rfl rfl rfl rfl (fun w_ hx_ => by (first | refine wl_ ?_); refine WL_nil ?_; exact DR_mk rfl) ?_) | refine wxg_ ?_) | (refine WX_isAct ?_; first | refine WX_eff1 rfl (fun _ _ => ?_) | refine WX_eff rfl (fun _ _ => ?_) ?_))))
    all_goals first | (exfalso; omega) | exact ⟨rfl, ext_⟩
/-- A sum over zones. -/
def sumZ (f : Zo → Int) : List Zo → Int
  | [] => 0
  | z :: r => f z + sumZ f r
theorem sumZ_set (f : Zo → Int) : ∀ (zs : List Zo) (j : Nat) (y z : Zo), zs[j]? = some y → sumZ f (zs.set j z) = sumZ f zs - f y + f z
  | [], j, y, z, h => by simp at h
  | x :: r, 0, y, z, h => by
    simp only [List.getElem?_cons_zero, Option.some.injEq] at h
    subst h
    simp only [List.set_cons_zero, sumZ]
    omega
  | x :: r, j + 1, y, z, h => by
    rw [List.getElem?_cons_succ] at h
    have ih := sumZ_set f r j y z h
    simp only [List.set_cons_succ, sumZ]
    omega
theorem sumZ_le {f g : Zo → Int} : ∀ {zs : List Zo}, (∀ z ∈ zs, f z ≤ g z) → sumZ f zs ≤ sumZ g zs
  | [], _ => by simp [sumZ]
  | x :: r, h => by
    have h1 := h x (List.mem_cons_self ..)
    have h2 := sumZ_le (f := f) (g := g) (zs := r) (fun z hz => h z (List.mem_cons_of_mem _ hz))
    simp only [sumZ]
    omega
theorem sumZ_add (f g : Zo → Int) : ∀ zs : List Zo, sumZ (fun z => f z + g z) zs = sumZ f zs + sumZ g zs
  | [] => rfl
  | x :: r => by
    have ih := sumZ_add f g r
    simp only [sumZ]
    omega
theorem sumZ_mul (f : Zo → Int) (c : Int) : ∀ zs : List Zo, sumZ (fun z => f z * c) zs = sumZ f zs * c
  | [] => by simp [sumZ]
  | x :: r => by
    have ih := sumZ_mul f c r
    simp only [sumZ]
    rw [ih, Int.add_mul]
theorem sumZ_const (c : Int) : ∀ zs : List Zo, sumZ (fun _ => c) zs = zs.length * c
  | [] => by simp [sumZ]
  | x :: r => by
    have ih := sumZ_const c r
    simp only [sumZ, List.length_cons]
    rw [ih, Int.natCast_add, Int.add_mul]
    omega
/-- Is a zone used, is it light, how many bytes has it? -/
def usZ (z : Zo) : Int := if z.s = 0 then 0 else 1
def liZ (s : Int) (z : Zo) : Int := if z.s = 1 ∧ (z.d.length : Int) < s - 2409 then 1 else 0
def leZ (z : Zo) : Int := z.d.length
theorem sumZ_take (f : Zo → Int) : ∀ (zs : List Zo) (i : Nat) (h : i < zs.length), sumZ f (zs.take (i + 1)) = sumZ f (zs.take i) + f zs[i]
  | x :: r, 0, _ => by simp [sumZ]
  | x :: r, i + 1, h => by
    have ih := sumZ_take f r i (by simpa using h)
    simp only [List.take_succ_cons, sumZ, List.getElem_cons_succ]
    omega
theorem emT_sum (zs : List Zo) : ∀ i, i ≤ zs.length → (emT zs i : Int) = i - sumZ usZ (zs.take i)
  | 0, _ => by simp [emT, sumZ]
  | i + 1, h => by
    have ih := emT_sum zs i om_
    have hi : i < zs.length := by omega
    have e := sumZ_take usZ zs i hi
    have e2 : usZ zs[i] = if zs[i].s = 0 then 0 else 1 := rfl
    rw [emT_step, e, e2, List.getElem?_eq_getElem hi]
    simp only [Option.map_some, Option.some.injEq]
    split <;> omega
theorem emD_sum (d : Dv) : (emD d : Int) = d.zs.length - sumZ usZ d.zs := by
  have := emT_sum d.zs d.zs.length (Nat.le_refl _)
  rwa [List.take_length] at this
/-- What holds of a device behind i appends of so many bytes together. -/
structure Held (s : Int) (i : Nat) (S : Int) (d : Dv) : Prop where
  dw : DvW d
  go : Go1 d
  sz : d.sz = s
  zl : d.zs.length = 60
  op : opD d ≤ 4
  de : d.de ≤ 2 * i
  st : ∀ z ∈ d.zs, (z.s = 0 ∧ z.d.length = 0) ∨ z.s = 1 ∨ (z.s = 2 ∧ s - 2409 ≤ z.d.length)
  li : sumZ (liZ s) d.zs ≤ 1
  le : sumZ leZ d.zs = S
  us : sumZ usZ d.zs ≤ i
theorem Held.empty {s S : Int} {i : Nat} {d : Dv} (h : Held s i S d) (hi : i < 60) : ∃ z ∈ d.zs, z.s = 0 := by
  refine Classical.byContradiction fun hn => ?_
  have h1 : sumZ (fun _ => 1) d.zs ≤ sumZ usZ d.zs := sumZ_le fun z hz => by
    unfold usZ
    rw [if_neg (fun k => hn ⟨z, hz, k⟩)]
    exact Int.le_refl _
  rw [sumZ_const] at h1
  have := h.us
  have := h.zl
  omega
theorem Held.takes {s S : Int} {i : Nat} {d : Dv} (h : Held s i S d) (hs : 4096 ≤ s ∧ s ≤ 65536) (hS : 0 ≤ S) : 60 - (emD d : Int) ≤ takesS S s := by
  have h1 : sumZ (fun z => usZ z * (s - 2409)) d.zs ≤ sumZ (fun z => leZ z + liZ s z * (s - 2409)) d.zs := sumZ_le fun z hz => by
    have := h.st z hz
    have hn : (0 : Int) ≤ z.d.length := Int.natCast_nonneg _
    unfold usZ liZ leZ
    split <;> split <;> simp only [Int.zero_mul, Int.one_mul] <;> omega
  rw [sumZ_add, sumZ_mul, sumZ_mul, h.le] at h1
  have h2 : sumZ (liZ s) d.zs * (s - 2409) ≤ 1 * (s - 2409) := Int.mul_le_mul_of_nonneg_right h.li om_
  have h3 : (sumZ usZ d.zs - 1) * (s - 2409) ≤ S := by rw [Int.sub_mul]; omega
  have h4 : sumZ usZ d.zs - 1 ≤ S / (s - 2409) := Int.le_ediv_of_mul_le om_ h3
  rw [takesS_pos S s hs, emD_sum, h.zl]
  have : max S 0 = S := by omega
  rw [this]
  omega
theorem app_st {z : Zo} {bs : List Int} {s : Int} (h : OkZ z s) (hb : 1 ≤ bs.length) (hf : (bs.length : Int) ≤ s - z.d.length) : stZ (z.d.length + bs.length) s = 1 ∨ (stZ (z.d.length + bs.length) s = 2 ∧ ((z.d.length + bs.length : Nat) : Int) = s) := by
  unfold stZ
  rw [if_neg om_]
  split
  · right; exact ⟨rfl, by assumption⟩
  · left; rfl
theorem Zst.app {z : Zo} {bs : List Int} {s st : Int} (h : Zst z) (hO : OkZ z s) (hbb : ∀ x ∈ bs, 0 ≤ x ∧ x < 256) (hf : (bs.length : Int) ≤ s - z.d.length) (hst : st = 1 ∨ st = 2) : Zst ⟨st, z.d ++ bs, z.l⟩ := by
  unfold OkZ at hO
  refine ⟨fun x hx => (List.mem_append.1 hx).elim (h.bytes x) (hbb x), by dsimp only; rw [List.length_append]; omega, by dsimp only; omega, h.lb⟩
/-- One zone gets bytes: an open one, or, where no open one is light, an empty one. -/
theorem Held.app {s S : Int} {i k : Nat} {d : Dv} {j : Nat} {z : Zo} {bs : List Int} (h : Held s i S d) (hs : 4096 ≤ s ∧ s ≤ 65536) (hz : d.zs[j]? = some z) (st : Int) (hst : (st = 1) ∨ (st = 0 ∧ opD d < 4 ∧ sumZ (liZ s) d.zs ≤ 0 ∧ sumZ usZ d.zs ≤ (k : Int) - 1)) (hf : Fits z st bs.length d.sz) (hn : 1 ≤ bs.length) (hbb : ∀ x ∈ bs, 0 ≤ x ∧ x < 256) (hk : i ≤ k) (hde : d.de + 1 ≤ 2 * k) (hi : d.de ≤ 999999) : Held s k (S + bs.length) (putZ (inc d) j (appZ z d.sz bs)) := by
  have hm := List.mem_of_getElem? hz
  have hO := h.go.1.1 z hm
  have hsz := h.sz
  obtain ⟨e1, e2, e3⟩ := ap_ok hO (show st = 0 ∨ st = 1 by omega) hf hn
  have hs0 := h.st z hm
  obtain ⟨f1, f2⟩ := hf
  rw [hsz] at hO e1 e2 e3 f2
  rw [hsz]
  have ha := app_st hO hn f2
  have hop := opD_put (d := inc d) (appZ z s bs) hz
  have e0 : opD (inc d) = opD d := rfl
  rw [e0] at hop
  have hlen : ((z.d ++ bs).length : Int) = z.d.length + bs.length := by rw [List.length_append]; omega
  rw [e2] at hop e3 ⊢
  generalize hst' : stZ (z.d.length + bs.length) s = st' at *
  have c1 := sumZ_set (liZ s) d.zs j z ⟨st', z.d ++ bs, z.l⟩ hz
  have c2 := sumZ_set leZ d.zs j z ⟨st', z.d ++ bs, z.l⟩ hz
  have c3 := sumZ_set usZ d.zs j z ⟨st', z.d ++ bs, z.l⟩ hz
  have hl1 := h.li
  have hl2 := h.le
  have hl3 := h.us
  have hl4 := h.op
  refine ⟨(h.dw.inc h.go.2.2.2.2).put ((h.dw.zw z hm).app hO hbb f2 om_), h.go.step hi (by rw [hsz]; exact e3), hsz, by show (d.zs.set j _).length = 60; rw [List.length_set]; exact h.zl, ?_, ?_, ?_, ?_, ?_, ?_⟩
  · dsimp only at hop
    split at hop <;> split at hop <;> omega
  · show d.de + 1 ≤ _
    omega
  · intro x hx
    rcases List.mem_or_eq_of_mem_set hx with hx | rfl
    · exact h.st x hx
    · dsimp only
      omega
  · show sumZ (liZ s) (d.zs.set j _) ≤ 1
    rw [c1]
    unfold liZ at *
    dsimp only
    rw [hlen]
    split <;> split <;> omega
  · show sumZ leZ (d.zs.set j _) = _
    rw [c2]
    unfold leZ at *
    dsimp only
    omega
  · show sumZ usZ (d.zs.set j _) ≤ _
    rw [c3]
    unfold usZ at *
    dsimp only
    split <;> split <;> omega
/-- An open zone that is not light is finished. -/
theorem Held.fin {s S : Int} {i : Nat} {d : Dv} {j : Nat} {y : Zo} (h : Held s i S d) (hy : d.zs[j]? = some y) (hy1 : y.s = 1) (hl : s - 2409 ≤ y.d.length) (hi : d.de ≤ 999999) : DvW (putZ (inc d) j (fiZ y)) ∧ Go1 (putZ (inc d) j (fiZ y)) ∧ opD (putZ (inc d) j (fiZ y)) + 1 = opD d ∧ (∀ z ∈ (putZ (inc d) j (fiZ y)).zs, (z.s = 0 ∧ z.d.length = 0) ∨ z.s = 1 ∨ (z.s = 2 ∧ s - 2409 ≤ z.d.length)) ∧ sumZ (liZ s) (putZ (inc d) j (fiZ y)).zs = sumZ (liZ s) d.zs ∧ sumZ leZ (putZ (inc d) j (fiZ y)).zs = S ∧ sumZ usZ (putZ (inc d) j (fiZ y)).zs = sumZ usZ d.zs := by
  have hm := List.mem_of_getElem? hy
  have hO := h.go.1.1 y hm
  obtain ⟨f1, f2, f3⟩ := fi_ok hO hy1
  have hyW := h.dw.zw y hm
  have hop := opD_put (d := inc d) (fiZ y) hy
  have e0 : opD (inc d) = opD d := rfl
  rw [e0, if_pos hy1] at hop
  rw [f2] at hop f3 ⊢
  have c1 := sumZ_set (liZ s) d.zs j y ⟨2, y.d, y.l⟩ hy
  have c2 := sumZ_set leZ d.zs j y ⟨2, y.d, y.l⟩ hy
  have c3 := sumZ_set usZ d.zs j y ⟨2, y.d, y.l⟩ hy
  have hl2 := h.le
  refine ⟨(h.dw.inc h.go.2.2.2.2).put ⟨hyW.bytes, hyW.small, by dsimp only; omega, hyW.lb⟩, h.go.step hi f3, ?_, ?_, ?_, ?_, ?_⟩
  · rw [if_neg (by dsimp only; omega)] at hop
    omega
  · intro x hx
    rcases List.mem_or_eq_of_mem_set hx with hx | rfl
    · exact h.st x hx
    · exact .inr (.inr ⟨rfl, hl⟩)
  · show sumZ (liZ s) (d.zs.set j _) = _
    rw [c1]
    unfold liZ
    dsimp only
    rw [if_neg om_, if_neg om_]
    omega
  · show sumZ leZ (d.zs.set j _) = _
    rw [c2]
    unfold leZ at *
    dsimp only
    omega
  · show sumZ usZ (d.zs.set j _) = _
    rw [c3]
    unfold usZ
    dsimp only
    rw [if_neg om_, if_neg om_]
    omega
theorem Held.heavy {s S : Int} {i : Nat} {d : Dv} {n : Int} (h : Held s i S d) (hn : n ≤ 2409) (hno : ∀ z ∈ d.zs, ¬ Fits z 1 n d.sz) : (∀ z ∈ d.zs, z.s = 1 → s - 2409 ≤ z.d.length) ∧ sumZ (liZ s) d.zs ≤ 0 := by
  have h1 : ∀ z ∈ d.zs, z.s = 1 → s - 2409 ≤ z.d.length := fun z hz h1 => by
    have h2 := hno z hz
    have h3 := h.sz
    refine Classical.byContradiction fun hc => h2 ⟨h1, by omega⟩
  refine ⟨h1, ?_⟩
  have h2 : sumZ (liZ s) d.zs ≤ sumZ (fun _ => 0) d.zs := sumZ_le fun z hz => by
    have := h1 z hz
    unfold liZ
    split <;> omega
  rw [sumZ_const] at h2
  omega
theorem Held.next {s S : Int} {i : Nat} {d d2 : Dv} {bs : List Int} (h : Held s i S d) (hi : i < 60) (hs : 4096 ≤ s ∧ s ≤ 65536) (hn : 1 ≤ bs.length ∧ bs.length ≤ 2409) (hbb : ∀ x ∈ bs, 0 ≤ x ∧ x < 256) (ha : AppD d bs d2) : Held s (i + 1) (S + bs.length) d2 := by
  have hde := h.de
  have hus := h.us
  have hop := h.op
  rcases ha with ⟨j, z, hz, hf, rfl⟩ | ⟨j, z, hz, hf, hno, h4, rfl⟩ | ⟨j, z, l, y, hz, hf, hno, hy, hy1, rfl⟩
  · exact h.app hs hz 1 (.inl rfl) hf hn.1 hbb om_ om_ om_
  · obtain ⟨h1, h2⟩ := h.heavy om_ hno
    exact h.app hs hz 0 (.inr ⟨rfl, h4, h2, by omega⟩) hf hn.1 hbb om_ om_ om_
  · obtain ⟨h1, h2⟩ := h.heavy om_ hno
    obtain ⟨g1, g2, g3, g4, g5, g6, g7⟩ := h.fin hy hy1 (h1 y (List.mem_of_getElem? hy) hy1) om_
    have hne : l ≠ j := by
      rintro rfl
      rw [hy] at hz
      cases hz
      have := hf.1
      omega
    have hz1 : (putZ (inc d) l (fiZ y)).zs[j]? = some z := by
      show (d.zs.set l (fiZ y))[j]? = some z
      rw [List.getElem?_set_ne hne]; exact hz
    have hd1 : (putZ (inc d) l (fiZ y)).de = d.de + 1 := rfl
    have hH : Held s (i + 1) S (putZ (inc d) l (fiZ y)) := ⟨g1, g2, h.sz, by show (d.zs.set l _).length = 60; rw [List.length_set]; exact h.zl, by omega, by omega, g4, by omega, g6, by omega⟩
    exact hH.app hs hz1 0 (.inr ⟨rfl, by omega, by omega, by omega⟩) hf hn.1 hbb (Nat.le_refl _) om_ om_
theorem held_new {s : Int} (hs : 4096 ≤ s ∧ s ≤ 65536) : Held s 0 0 (dvN s zN zN) ∧ emD (dvN s zN zN) = 60 := by
  have hz : ∀ z ∈ (dvN s zN zN).zs, z = zo0 := fun z hz => List.eq_of_mem_replicate hz
  have hN : ∀ x ∈ zN, 0 ≤ x ∧ x < 256 := fun x hx => by rw [List.eq_of_mem_replicate hx]; omega
  have hl : zN.length = 128 := rfl
  have h0 : OkZ zo0 s := ⟨by omega, by omega, by show ((0 : Nat) : Int) ≤ s; omega, by decide, by decide, .inl ⟨rfl, rfl⟩⟩
  have k0 : (128 : Nat) ≤ 1000000 := by decide
  have k1 : (0 : Nat) ≤ 1000000 := by decide
  have k2 : (60 : Nat) ≤ 1000000 := by decide
  have k3 : -9223372036854775808 ≤ (-1 : Int) ∧ (-1 : Int) ≤ 9223372036854775807 := by decide
  have k4 : -9223372036854775808 ≤ (0 : Int) ∧ (0 : Int) ≤ 9223372036854775807 := by decide
  have k5 : 0 < (60 : Nat) ∧ (60 : Nat) ≤ 64 := by decide
  have k6 : 0 ≤ (0 : Int) ∧ (0 : Int) ≤ 1000000 := by decide
  have k7 : opT (List.replicate 60 zo0) (List.replicate 60 zo0).length = 0 := by decide
  have k8 : sumZ usZ (List.replicate 60 zo0) = 0 := by decide
  have k9 : (0 : Int) ≤ 2 * ((0 : Nat) : Int) := by decide
  refine ⟨⟨⟨fun z h => hz z h ▸ ⟨by simp [zo0], by decide, by decide, by decide⟩, ⟨hN, k0⟩, ⟨hN, k0⟩, ⟨by simp [dvN], k1⟩, ⟨by simp [dvN], k1⟩, k2, by show -9223372036854775808 ≤ s ∧ s ≤ _; omega, k3, k3, k4⟩, ⟨⟨fun z h => hz z h ▸ h0, ⟨rfl, .inl rfl⟩, ⟨rfl, .inl rfl⟩, k5, by show 0 < s ∧ s ≤ 65536; omega⟩, rfl, rfl, rfl, k6⟩, rfl, rfl, by show opT (List.replicate 60 zo0) (List.replicate 60 zo0).length ≤ 4; omega, k9, fun z h => by rw [hz z h]; exact .inl ⟨rfl, rfl⟩, ?_, rfl, by show sumZ usZ (List.replicate 60 zo0) ≤ 0; omega⟩, rfl⟩
  have h2 : sumZ (liZ s) (dvN s zN zN).zs ≤ sumZ (fun _ => 0) (dvN s zN zN).zs := sumZ_le fun z h => by rw [hz z h]; unfold liZ zo0; dsimp only; rw [if_neg om_]; omega
  rw [sumZ_const] at h2
  omega
end Go.Proofs.Ytemfngomfiimfaa.K
