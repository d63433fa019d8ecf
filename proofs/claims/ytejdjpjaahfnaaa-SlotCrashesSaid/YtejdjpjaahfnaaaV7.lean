/- Chapter 13 (root): the record that bytes are, in plain words; bytes.Equal. Seat-free. -/
import Derived.Test.YtejdjpjaahfnaaaV6
import Derived.Test.YtejdjpjaahfnaaaP4
import Derived.Test.YtejdjpjaahfnaaaF8
set_option linter.unusedVariables false
set_option linter.unusedSimpArgs false
set_option maxHeartbeats 4000000
set_option maxRecDepth 20000
namespace Go.Proofs.Ytejdjpjaahfnaaa.K
open Go.RowKit
attribute [local irreducible] strEq strOfNums Calls WL WC WQ WX Code.wp wpList bodyPost
theorem bytes_Equal_calls (xs ys : List Int) (A B : Option Addr) (m c k e : Nat) (w : World) (hx : xs.length = m) (hy : ys.length = k) (hC : Cells w A (xs.map (.int .u8))) (hD : Cells w B (ys.map (.int .u8))) (b : Bool) (hb : strEq (strOfNums xs) (strOfNums ys) = b) :
    Calls Try.prog 46 #[.slice A m c, .slice B k e] w fun r w' => r = .returned (.bool b) ∧ Ext w w' := by
  subst hb
  have h1 := hC
  refine calls_W (args := [.slice A m c, .slice B k e]) Try.func46 rfl 10 rfl ?_
  (repeat' (first | (refine WL_is ?_; first | refine WL_nil ?_ | (refine WL_isConv ?_; refine WL_str2 rfl rfl rfl hC hx ?_) | (refine WL_isConv ?_; refine WL_str2 rfl rfl rfl hD hy ?_) | refine wl_ ?_ ) | (refine WC_is ?_; first | refine WC_seq (fun _ _ => ?_) | refine wc_ ?_) | (refine WQ_is ?_; first | refine wq_ ?_) | (refine Kb.mk ?_; intro b_ w_ hb_ hl_ hx_ hB_) | (refine Ks.mk ?_; intro w_ hz_ hx_ hB_) | (refine Ko.mk ?_; intro A_ c_ w_ hx_ ho_ hr_; have hz_ := hx_.size; have hq_ := own_cap ho_) | (refine Kp.mk ?_; intro A_ c_ w_ hx_ hz_ ho_ hr_ hp_; have hq_ := own_cap ho_) | (refine Kl.mk ?_; intro b_ w_ hb_ hl_ hx_ hB_ ho_) | (refine Km.mk ?_; intro b_ w_ hb_ hl_ hx_ ho_) | (refine Ke.mk ?_; intro r_ hr_) | (refine Kg.mk ?_ ?_ <;> intro hs_ <;> (try simp only [strEq_t, strEq_f, decide_eq_true_eq, decide_eq_false_iff_not, beq_iff_eq, beq_eq_false_iff_ne, bne_iff_ne, bne_eq_false_iff_eq, Bool.not_eq_true', Bool.not_eq_false', Bool.not_true, Bool.not_false, gt_iff_lt, ge_iff_le, Int.not_lt, Int.not_le, ne_eq, Bool.false_eq_true, not_true_eq_false, reduceCtorEq] at hs_) <;> (try (exfalso; first | exact hs_ | (exact hs_ rfl) | omega))) ))
  all_goals exact ⟨rfl, ext_⟩
/-- The number that so many bytes are. -/
def nA (bs : List Int) (i k : Nat) : Int := valL ((bs.drop i).take k)
def chE (bs : List Int) : List Int := (bs.drop 16).take 36
def chJ (bs : List Int) : List Int := (bs.drop 52).take 32
/-- The record that bytes tell of, whether it may be or not. -/
def toR (bs : List Int) : Rc := ⟨nA bs 4 4, toE (chE bs), chJ bs, nA bs 8 8, nA bs 1 1⟩
def OkRd (bs : List Int) : Prop := bs.length = 128 ∧ OkB (chE bs) ∧ nA bs 8 8 ≤ 4611686018427387903 ∧ OkR (toR bs) ∧ wrA (toR bs) = bs
instance (bs : List Int) : Decidable (OkRd bs) := by unfold OkRd; infer_instance
def rdR (bs : List Int) : Rc := if OkRd bs then toR bs else rc0
def rdRE (bs : List Int) : Int := if OkRd bs then 0 else 130
theorem rdR_t {bs : List Int} (h : OkRd bs) : rdR bs = toR bs ∧ rdRE bs = 0 := ⟨if_pos h, if_pos h⟩
theorem rdR_f {bs : List Int} (h : ¬ OkRd bs) : rdR bs = rc0 ∧ rdRE bs = 130 := ⟨if_neg h, if_neg h⟩
theorem part_bytes {bs : List Int} (hb : ∀ x ∈ bs, 0 ≤ x ∧ x < 256) (i k : Nat) : ∀ x ∈ (bs.drop i).take k, 0 ≤ x ∧ x < 256 := fun x hx => hb x (List.mem_of_mem_drop (List.mem_of_mem_take hx))
theorem nA_in {bs : List Int} (hb : ∀ x ∈ bs, 0 ≤ x ∧ x < 256) (hl : bs.length = 128) {i k : Nat} (hk : i + k ≤ 128) : 0 ≤ nA bs i k ∧ nA bs i k < 2 ^ (8 * k) := by
  have h := valL_bound _ (part_bytes hb i k)
  rw [List.length_take, List.length_drop, hl, Nat.min_eq_left om_] at h
  exact h
theorem chE_length {bs : List Int} (hl : bs.length = 128) : (chE bs).length = 36 := by unfold chE; rw [List.length_take, List.length_drop, hl]; rfl
theorem chJ_length {bs : List Int} (hl : bs.length = 128) : (chJ bs).length = 32 := by unfold chJ; rw [List.length_take, List.length_drop, hl]; rfl
theorem toR_W {bs : List Int} (hl : bs.length = 128) (hb : ∀ x ∈ bs, 0 ≤ x ∧ x < 256) (hs : nA bs 8 8 ≤ 4611686018427387903) : RcW (toR bs) := by
  have h1 := nA_in hb hl (i := 4) (k := 4) om_
  have h2 := nA_in hb hl (i := 8) (k := 8) om_
  have h3 := nA_in hb hl (i := 1) (k := 1) om_
  refine ⟨toE_W (chE_length hl) (part_bytes hb _ _), chJ_length hl, part_bytes hb _ _, ?_, ?_, ?_⟩
  · show _ ≤ nA bs 4 4 ∧ nA bs 4 4 ≤ _; omega
  · show _ ≤ nA bs 8 8 ∧ nA bs 8 8 ≤ _; omega
  · show _ ≤ nA bs 1 1 ∧ nA bs 1 1 ≤ _; omega
theorem spl_rc {bs : List Int} (hl : bs.length = 128) : splV [1, 1, 2, 4, 8] (bs.take 16) = [nA bs 0 1, nA bs 1 1, nA bs 2 2, nA bs 4 4, nA bs 8 8] ∧ splE [1, 1, 2, 4, 8] (bs.take 16) = 0 := by
  have h : splitL [1, 1, 2, 4, 8] (bs.take 16) = some [nA bs 0 1, nA bs 1 1, nA bs 2 2, nA bs 4 4, nA bs 8 8] := by
    unfold nA
    simp [splitL, mayS, hl, List.drop_take, List.take_take]
  unfold splV splE
  rw [h]
  exact ⟨rfl, rfl⟩
theorem fillS_step {pl : List (Nat × Nat)} {cs cs' out : List Value} {i off s : Nat} {v : Value} {r : List (Nat × Value)} (h : nthP pl i = some (off, s)) (hl : v.cells.toList.length = s) (hb : off + s ≤ cs.length) (hs : setAts cs off v.cells.toList = cs') (hr : fillS pl cs' r = some out) : fillS pl cs ((i, v) :: r) = some out := by
  rw [fillS, h]
  show (bif Nat.beq v.cells.toList.length s && Nat.ble (off + s) cs.length then _ else none) = _
  rw [hl, Nat.beq_refl, Nat.ble_eq_true_of_le hb, hs]
  exact hr
theorem agg_cells (vs : List Value) : (Value.agg vs.toArray).cells.toList = vs := by simp [Value.cells]
/-- A record's parts, one by one. -/
theorem rc_setE {r : Rc} (hr : RcW r) {t : En} (ht : t.k.length = 32) : setAts (rcC r) 1 (enC t) = rcC { r with t := t } := by
  have hl := rcC_length hr
  have e1 := enC_length ht
  rw [setAts_spec _ _ _ om_, e1, rc_drop hr]
  show [Value.int .i64 r.ep] ++ enC t ++ rcT r = _
  rfl
theorem rc_take36 {r : Rc} (hr : RcW r) : (rcC r).take 36 = .int .i64 r.ep :: enC r.t := by
  show Value.int .i64 r.ep :: (enC r.t ++ rcT r).take 35 = _
  rw [← enC_length hr.ew.len, List.take_left]
theorem rc_dropT {r : Rc} (hr : RcW r) (k : Nat) : (rcC r).drop (36 + k) = (rcT r).drop k := by rw [← rc_drop hr, List.drop_drop]
theorem rcT_drop32 {r : Rc} (h : RcW r) : (rcT r).drop 32 = [.int .i64 r.sq, .int .i64 r.bl] := by
  unfold rcT; rw [List.drop_append_of_le_length (by simp [h.len]), List.drop_of_length_le (by simp [h.len])]; rfl
theorem rc_setJ {r : Rc} (hr : RcW r) {j : List Int} (hj : j.length = 32) : setAts (rcC r) 36 (j.map (.int .u8)) = rcC { r with j := j } := by
  have hl := rcC_length hr
  have e1 : (j.map (Value.int .u8)).length = 32 := by simpa using hj
  rw [setAts_spec _ _ _ om_, e1, rc_take36 hr, rc_dropT hr, rcT_drop32 hr]
  simp [rcC, rcT]
theorem rc_take68 {r : Rc} (hr : RcW r) : (rcC r).take 68 = .int .i64 r.ep :: (enC r.t ++ r.j.map (.int .u8)) := by
  have h1 := rc_take36 hr
  have h2 := rc_drop hr
  rw [show 68 = 36 + 32 from rfl, List.take_add, h1, h2]
  unfold rcT
  rw [List.take_append_of_le_length (by simp [hr.len]), List.take_of_length_le (by simp [hr.len])]
  rfl
theorem rc_setS {r : Rc} (hr : RcW r) (s : Int) : setAts (rcC r) 68 [.int .i64 s] = rcC { r with sq := s } := by
  have hl := rcC_length hr
  rw [setAts_spec _ _ _ (by simp only [List.length_cons, List.length_nil]; omega)]
  have : (rcC r).drop (68 + [Value.int .i64 s].length) = [.int .i64 r.bl] := by
    show (rcC r).drop (36 + 33) = _
    rw [rc_dropT hr, show 33 = 32 + 1 from rfl, ← List.drop_drop, rcT_drop32 hr]; rfl
  rw [this, rc_take68 hr]
  simp [rcC, rcT]
theorem rc_setB {r : Rc} (hr : RcW r) (b : Int) : setAts (rcC r) 69 [.int .i64 b] = rcC { r with bl := b } := by
  have hl := rcC_length hr
  rw [setAts_spec _ _ _ (by simp only [List.length_cons, List.length_nil]; omega)]
  have e0 : (rcC r).drop (69 + [Value.int .i64 b].length) = [] := List.drop_of_length_le (by simp only [List.length_cons, List.length_nil]; omega)
  have e1 : (rcC r).take 69 = .int .i64 r.ep :: (enC r.t ++ r.j.map (.int .u8)) ++ [.int .i64 r.sq] := by
    rw [show 69 = 68 + 1 from rfl, List.take_add, rc_take68 hr, show 68 = 36 + 32 from rfl, rc_dropT hr, rcT_drop32 hr]; rfl
  rw [e0, e1]
  simp [rcC, rcT]
theorem RcW.fields {t : En} {j : List Int} (ht : EnW t) (hj : j.length = 32) (hb : ∀ x ∈ j, 0 ≤ x ∧ x < 256) {ep sq bl : Int} (h1 : 0 ≤ ep ∧ ep ≤ 9223372036854775807) (h2 : 0 ≤ sq ∧ sq ≤ 9223372036854775807) (h3 : 0 ≤ bl ∧ bl ≤ 9223372036854775807) : RcW ⟨ep, t, j, sq, bl⟩ :=
  ⟨ht, hj, hb, by dsimp only; omega, by dsimp only; omega, by dsimp only; omega⟩
theorem fill_rc {r : Rc} (hr : RcW r) (h1 : 0 ≤ r.ep ∧ 0 ≤ r.sq ∧ 0 ≤ r.bl) : fillS [(0, 1), (1, 35), (36, 32), (68, 1), (69, 1)] (rcC rc0) [(0, .int .i64 r.ep), (1, .agg (enC r.t).toArray), (2, .agg (r.j.map (.int .u8)).toArray), (3, .int .i64 r.sq), (4, .int .i64 r.bl)] = some (rcC r) := by
  obtain ⟨ep, t, j, sq, bl⟩ := r
  have hEn := hr.ew
  have hJl := hr.len
  have hJb := hr.bytes
  have e1 := hr.eb
  have e2 := hr.sb
  have e3 := hr.bb
  dsimp only at h1 e1 e2 e3 hEn hJl hJb ⊢
  have w1 : RcW ⟨ep, en0, zk, 0, 0⟩ := RcW.fields EnW.zero rfl EnW.zero.bytes ⟨h1.1, e1.2⟩ (by decide) (by decide)
  have w2 : RcW ⟨ep, t, zk, 0, 0⟩ := RcW.fields hEn rfl EnW.zero.bytes ⟨h1.1, e1.2⟩ (by decide) (by decide)
  have w3 : RcW ⟨ep, t, j, 0, 0⟩ := RcW.fields hEn hJl hJb ⟨h1.1, e1.2⟩ (by decide) (by decide)
  have w4 : RcW ⟨ep, t, j, sq, 0⟩ := RcW.fields hEn hJl hJb ⟨h1.1, e1.2⟩ ⟨h1.2.1, e2.2⟩ (by decide)
  refine fillS_step (cs' := rcC ⟨ep, en0, zk, 0, 0⟩) rfl rfl (by decide) rfl ?_
  refine fillS_step (cs' := rcC ⟨ep, t, zk, 0, 0⟩) rfl (by rw [agg_cells]; exact enC_length hEn.len) (by rw [rcC_length w1]; decide) (by rw [agg_cells]; exact rc_setE w1 hEn.len) ?_
  refine fillS_step (cs' := rcC ⟨ep, t, j, 0, 0⟩) rfl (by rw [agg_cells]; simpa using hJl) (by rw [rcC_length w2]; decide) (by rw [agg_cells]; exact rc_setJ w2 hJl) ?_
  refine fillS_step (cs' := rcC ⟨ep, t, j, sq, 0⟩) rfl rfl (by rw [rcC_length w3]; decide) (rc_setS w3 sq) ?_
  exact fillS_step (cs' := rcC ⟨ep, t, j, sq, bl⟩) rfl rfl (by rw [rcC_length w4]; decide) (rc_setB w4 bl) rfl
end Go.Proofs.Ytejdjpjaahfnaaa.K
