/- Chapter 13 (root): a record's bytes: root.{sizes, Write}. Seat-free. -/
import Derived.Test.YtejdjpjaahfnaaaV3
import Derived.Test.YtejdjpjaahfnaaaV1
set_option linter.unusedVariables false
set_option linter.unusedSimpArgs false
set_option maxHeartbeats 4000000
set_option maxRecDepth 20000
namespace Go.Proofs.Ytejdjpjaahfnaaa.K
open Go.RowKit
attribute [local irreducible] strEq strOfNums Calls WL WC WQ WX Code.wp wpList bodyPost
def hdL (r : Rc) : List Int := [82, r.bl, 0, 0] ++ (leB r.ep 4 ++ leB r.sq 8)
/-- A record's bytes ahead of the sum. -/
def wrL (r : Rc) : List Int := hdL r ++ enL r.t ++ r.j ++ List.replicate 40 0
def wrA (r : Rc) : List Int := wrL r ++ leB (adS 1 (wrL r)) 4
def wrB (r : Rc) : List Int := if OkR r then wrA r else []
def wrE (r : Rc) : Int := if OkR r then 0 else 130
theorem hdL_length (r : Rc) : (hdL r).length = 16 := by simp [hdL, leB_length]
theorem wrL_length {r : Rc} (h : RcW r) : (wrL r).length = 124 := by simp [wrL, hdL_length, enL_length h.ew.len, h.len]
theorem wrA_length {r : Rc} (h : RcW r) : (wrA r).length = 128 := by simp [wrA, wrL_length h, leB_length]
theorem hdL_bytes {r : Rc} (h : OkR r) : ∀ x ∈ hdL r, 0 ≤ x ∧ x < 256 := by
  have h1 := h.2.2.2.2
  intro x hx
  rcases List.mem_append.1 hx with hx | hx
  · simp only [List.mem_cons, List.not_mem_nil, or_false] at hx; omega
  · rcases List.mem_append.1 hx with hx | hx
    · exact leB_byte _ _ x hx
    · exact leB_byte _ _ x hx
theorem wrL_bytes {r : Rc} (h : OkR r) (hw : RcW r) : ∀ x ∈ wrL r, 0 ≤ x ∧ x < 256 := by
  intro x hx
  rcases List.mem_append.1 hx with hx | hx
  · rcases List.mem_append.1 hx with hx | hx
    · rcases List.mem_append.1 hx with hx | hx
      · exact hdL_bytes h x hx
      · exact enL_bytes h.1 hw.ew x hx
    · exact hw.bytes x hx
  · rw [List.eq_of_mem_replicate hx]; omega
theorem wrA_bytes {r : Rc} (h : OkR r) (hw : RcW r) : ∀ x ∈ wrA r, 0 ≤ x ∧ x < 256 := by
  intro x hx
  rcases List.mem_append.1 hx with hx | hx
  · exact wrL_bytes h hw x hx
  · exact leB_byte _ _ x hx
theorem fld_rc {bl ep sq : Int} (hb : 0 ≤ bl ∧ bl < 256) (he : 0 ≤ ep ∧ ep ≤ 4294967295) (hs : 0 ≤ sq ∧ sq ≤ 4611686018427387903) : fldB [1, 1, 2, 4, 8] [82, bl, 0, ep, sq] = [82, bl, 0, 0] ++ (leB ep 4 ++ leB sq 8) ∧ fldE [1, 1, 2, 4, 8] [82, bl, 0, ep, sq] = 0 := by
  have p0 : putOk 82 1 = true := by decide
  have p1 : putOk bl 1 = true := by unfold putOk; rw [show mayS 1 = true from rfl, Bool.true_and]; exact decide_eq_true (by show bl < 256; omega)
  have p2 : putOk 0 2 = true := by decide
  have p3 : putOk ep 4 = true := by unfold putOk; rw [show mayS 4 = true from rfl, Bool.true_and]; exact decide_eq_true (by show ep < 4294967296; omega)
  have p4 : putOk sq 8 = true := by unfold putOk; rw [show mayS 8 = true from rfl, Bool.true_and]; exact decide_eq_true (by show sq < 18446744073709551616; omega)
  have hok : fldOk [1, 1, 2, 4, 8] [82, bl, 0, ep, sq] = true := by
    unfold fldOk
    simp [okN, p0, p1, p2, p3, p4]
  have l1 : ∀ n : Int, leB n 1 = [n % 256] := fun n => by simp [leB]
  have l2 : leB 0 2 = [0, 0] := by decide
  constructor
  · unfold fldB
    rw [if_pos hok]
    show catB _ _ 5 = _
    simp only [catB, putB]
    simp [p0, p1, p2, p3, p4, l1, l2]
    omega
  · unfold fldE
    rw [if_pos hok]
theorem adS_in (s : Int) (bs : List Int) : 0 ≤ adS s bs ∧ adS s bs ≤ 4294967295 := by unfold adS; omega
theorem put4 {n : Int} (h : 0 ≤ n ∧ n ≤ 4294967295) : putB n 4 = leB n 4 ∧ putE n 4 = 0 := by
  have p : putOk n 4 = true := by unfold putOk; rw [show mayS 4 = true from rfl, Bool.true_and]; exact decide_eq_true (by show n < 4294967296; omega)
  unfold putB putE
  rw [if_pos p, if_pos p]
  exact ⟨rfl, rfl⟩
theorem rc_key {w : World} {b : Nat} {r : Rc} {T : TypeId} (hr : RcW r) (h : Blk w b (rcC r) T) : Cells w (some ⟨b, 0 + 36, none⟩) (r.j.map (.int .u8)) := by
  refine .inr ⟨_, rfl, fun j v hj => ?_⟩
  have e1 : j < 32 := by have := (List.getElem?_eq_some_iff.1 hj).1; simpa [hr.len] using this
  rw [add_plain', h.cell]
  have e : ∀ k, (rcC r)[36 + k]? = (rcT r)[k]? := fun k => by rw [← rc_drop hr, List.getElem?_drop]
  rw [show 0 + 36 + j = 36 + j by omega, e]
  unfold rcT
  rw [List.getElem?_append_left (by simpa [hr.len] using e1)]
  exact hj
attribute [local irreducible] enL hdL wrL fldB fldE putB putE adS leB
theorem root_sizes_calls (w : World) : Calls Try.prog 37 #[] w fun e w' => ∃ A c, e = .returned (.slice A 5 c) ∧ w'.ownsRow w.heap.size 3 1 (.slice A 5 c) 5 (([1, 1, 2, 4, 8] : List Int).map (.int .i64)) ∧ Ext w w' := by
  refine calls_W (args := []) Try.func37 rfl 2 rfl ?_
  (repeat' (first | (refine WL_is ?_; first | refine WL_nil ?_ | refine wl_ ?_ ) | (refine WC_is ?_; first | refine WC_seq (fun _ _ => ?_) | refine wc_ ?_) | (refine WQ_is ?_; first | refine wq_ ?_) | (refine Kb.mk ?_; intro b_ w_ hb_ hl_ hx_ hB_) | (refine Ks.mk ?_; intro w_ hz_ hx_ hB_) | (refine Ko.mk ?_; intro A_ c_ w_ hx_ ho_ hr_; have hz_ := hx_.size; have hq_ := own_cap ho_) | (refine Kp.mk ?_; intro A_ c_ w_ hx_ hz_ ho_ hr_ hp_; have hq_ := own_cap ho_) | (refine Kl.mk ?_; intro b_ w_ hb_ hl_ hx_ hB_ ho_) | (refine Km.mk ?_; intro b_ w_ hb_ hl_ hx_ ho_) | (refine Ke.mk ?_; intro r_ hr_) | (refine Kg.mk ?_ ?_ <;> intro hs_ <;> (try simp only [strEq_t, strEq_f, decide_eq_true_eq, decide_eq_false_iff_not, beq_iff_eq, beq_eq_false_iff_ne, bne_iff_ne, bne_eq_false_iff_eq, Bool.not_eq_true', Bool.not_eq_false', Bool.not_true, Bool.not_false, gt_iff_lt, ge_iff_le, Int.not_lt, Int.not_le, ne_eq, Bool.false_eq_true, not_true_eq_false, reduceCtorEq] at hs_) <;> (try (exfalso; first | exact hs_ | (exact hs_ rfl) | omega))) ))
  all_goals exact ⟨_, _, rfl, own_, ext_⟩
theorem root_put_calls (w : World) (ns xs ys : List Int) (bo be base : Nat) (A : Option Addr) (k c : Nat) (v : Value) (mo n : Nat) (hy : xs ++ ns = ys) (hl : ns.length = k) (hC : Cells w A (ns.map (.int .u8))) (hBo : Blk w bo [v] 27) (hBe : Blk w be [.int .i64 0] 29)
    (hown : w.ownsRow base 5 1 v mo (xs.map (.int .u8))) (hb : bo < base ∧ be < base ∧ bo ≠ be) (hbase : base ≤ w.heap.size) (hn : mo + k = n) (hn1 : n ≤ 1000000) :
    Calls Try.prog 35 #[.slice A k c, .int .i64 0, .pointer (some ⟨bo, 0, none⟩), .pointer (some ⟨be, 0, none⟩)] w fun e w' => e = .returned (.tuple #[]) ∧ w.heap.size ≤ w'.heap.size ∧ ∃ A' c', Blk w' bo [.slice A' n c'] 27 ∧
      w'.ownsRow base 5 1 (.slice A' n c') n (ys.map (.int .u8)) ∧ (∀ b cs T, b < base → b ≠ bo → Blk w b cs T → Blk w' b cs T) ∧ ∀ w0 : World, w0.heap.size ≤ bo → w0.heap.size ≤ base → Ext w0 w → Ext w0 w' := by
  subst hn
  subst hy
  have hlo := hBo.lt
  refine calls_W (args := [.slice A k c, .int .i64 0, .pointer (some ⟨bo, 0, none⟩), .pointer (some ⟨be, 0, none⟩)]) Try.func35 rfl 11 rfl ?_
  (repeat' (first | (refine WL_is ?_; first | refine WL_nil ?_ | refine wl_ ?_ ) | (refine WC_is ?_; first | refine WC_seq (fun _ _ => ?_) | refine wc_ ?_) | (refine WQ_is ?_; first | refine wq_ ?_) | (refine Kb.mk ?_; intro b_ w_ hb_ hl_ hx_ hB_) | (refine Ks.mk ?_; intro w_ hz_ hx_ hB_) | (refine Ko.mk ?_; intro A_ c_ w_ hx_ ho_ hr_; have hz_ := hx_.size; have hq_ := own_cap ho_) | (refine Kp.mk ?_; intro A_ c_ w_ hx_ hz_ ho_ hr_ hp_; have hq_ := own_cap ho_) | (refine Kl.mk ?_; intro b_ w_ hb_ hl_ hx_ hB_ ho_) | (refine Km.mk ?_; intro b_ w_ hb_ hl_ hx_ ho_) | (refine Ke.mk ?_; intro r_ hr_) | (refine Kg.mk ?_ ?_ <;> intro hs_ <;> (try simp only [strEq_t, strEq_f, decide_eq_true_eq, decide_eq_false_iff_not, beq_iff_eq, beq_eq_false_iff_ne, bne_iff_ne, bne_eq_false_iff_eq, Bool.not_eq_true', Bool.not_eq_false', Bool.not_true, Bool.not_false, gt_iff_lt, ge_iff_le, Int.not_lt, Int.not_le, ne_eq, Bool.false_eq_true, not_true_eq_false, reduceCtorEq] at hs_) <;> (try (exfalso; first | exact hs_ | (exact hs_ rfl) | omega))) ))
  all_goals exact ⟨rfl, om_, A_, c_, blk_, own_, fun b cs T h1 h2 h3 => Blk.go h3 keepb_, fun w0 h1 h2 h3 => ext_⟩
end Go.Proofs.Ytejdjpjaahfnaaa.K
