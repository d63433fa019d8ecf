/- Chapter 14 (slot): commands in memory; the commands that turn, and that close; both. Seat-free. -/
import Derived.Test.YtejdjpjaahfnaaaU2
set_option linter.unusedVariables false
set_option linter.unusedSimpArgs false
set_option maxHeartbeats 4000000
set_option maxRecDepth 20000
namespace Go.Proofs.Ytejdjpjaahfnaaa.K
open Go.RowKit
attribute [local irreducible] strEq strOfNums Calls WL WC WQ WX Code.wp wpList bodyPost
/-- A command. -/
structure Cm where
  k : Int
  n : Int
  d : List Int
/-- A command as it lies in memory. -/
structure Cv where
  k : Int
  n : Int
  B : Option Addr
  m : Nat
  c : Nat
def cvC (z : Cv) : List Value := [.int .i64 z.k, .int .i64 z.n, .slice z.B z.m z.c]
theorem cvC_length (z : Cv) : (cvC z).length = 3 := rfl
/-- What lies in memory is these commands. -/
def MC (w : World) : List Cv → List Cm → Prop
  | [], [] => True
  | z :: zs, c :: cs => (z.k = c.k ∧ z.n = c.n ∧ c.d.length = z.m ∧ (z.m ≤ z.c ∧ z.c ≤ 9223372036854775807) ∧ Cells w z.B (c.d.map (.int .u8))) ∧ MC w zs cs
  | _, _ => False
theorem MC.length {w : World} : ∀ {zs : List Cv} {cs : List Cm}, MC w zs cs → zs.length = cs.length
  | [], [], _ => rfl
  | z :: zs, c :: cs, h => by rw [List.length_cons, List.length_cons, h.2.length]
theorem MC.ext {w w' : World} (k : Ext w w') : ∀ {zs : List Cv} {cs : List Cm}, MC w zs cs → MC w' zs cs
  | [], [], h => h
  | z :: zs, c :: cs, h => ⟨⟨h.1.1, h.1.2.1, h.1.2.2.1, h.1.2.2.2.1, h.1.2.2.2.2.ext k⟩, h.2.ext k⟩
theorem MC.get {w : World} : ∀ {zs : List Cv} {cs : List Cm}, MC w zs cs → ∀ {i : Nat}, i < zs.length → ∃ z c, zs[i]? = some z ∧ cs[i]? = some c ∧ z.k = c.k ∧ z.n = c.n ∧ c.d.length = z.m ∧ (z.m ≤ z.c ∧ z.c ≤ 9223372036854775807) ∧ Cells w z.B (c.d.map (.int .u8))
  | z :: zs, c :: cs, h, 0, _ => ⟨z, c, rfl, rfl, h.1⟩
  | z :: zs, c :: cs, h, i + 1, hi => by simpa using h.2.get (i := i) (by simpa using hi)
/-- Sixteen and more noughts. -/
def erL (n : Int) : List Cm := [⟨5, n, z128⟩, ⟨4, 0, []⟩]
def tuL (b : List Int) (n : Int) : List Cm := [⟨5, 1 - n, b⟩, ⟨4, 0, []⟩, ⟨5, n, z128⟩, ⟨4, 0, []⟩]
instance : TBld Try.prog 54 [.int .i64 0, .int .i64 0, .slice none 0 0] [(0, 1), (1, 1), (2, 1)] := ⟨by kernel_rfl, by kernel_rfl⟩
theorem z128_length : z128.length = 128 := rfl
theorem slot_erases_calls (n : Int) (hn : n = 0 ∨ n = 1) (w : World) :
    Calls Try.prog 53 #[.int .i64 n] w fun e w' => ∃ A c B, e = .returned (.slice A 2 c) ∧ w'.ownsRow w.heap.size 54 3 (.slice A 2 c) 2 [.int .i64 5, .int .i64 n, .slice B 128 128, .int .i64 4, .int .i64 0, .slice none 0 0] ∧ w'.ownsRow w.heap.size 5 1 (.slice B 128 128) 128 (z128.map (.int .u8)) ∧ Ext w w' := by
  have hR : z128 = z128 := rfl
  obtain ⟨Z, hZ⟩ : ∃ Z, z128 = Z := ⟨_, rfl⟩
  rw [hZ]
  refine calls_W (args := [.int .i64 n]) Try.func53 rfl 8 rfl ?_
  (repeat' (first | (refine WL_is ?_; first | refine WL_nil ?_ | (refine WL_makeI 128 hZ rfl rfl rfl rfl rfl rfl (by decide) (by decide) ?_; intro b_ w_ hb_ hl_ hx_ ho_ hr_) | (refine WL_isLit ?_; refine WL_litA rfl rfl rfl rfl rfl rfl rfl rfl ?_; intro b_ w_ hb_ hl_ hx_ hB_ ho_ hr_) | refine wl_ ?_ ) | (refine WC_is ?_; first | refine WC_seq (fun _ _ => ?_) | refine wc_ ?_) | (refine WQ_is ?_; first | refine wq_ ?_ | refine WQ_bodyCTT (Or.inl rfl) rfl rfl rfl rfl blk_ lr_ ?_ | refine WQ_bodyCTT (Or.inr rfl) rfl rfl rfl rfl blk_ lr_ ?_) | (refine Kb.mk ?_; intro b_ w_ hb_ hl_ hx_ hB_) | (refine Ks.mk ?_; intro w_ hz_ hx_ hB_) | (refine Ko.mk ?_; intro A_ c_ w_ hx_ ho_ hr_; have hz_ := hx_.size; have hq_ := own_cap ho_) | (refine Kp.mk ?_; intro A_ c_ w_ hx_ hz_ ho_ hr_ hp_; have hq_ := own_cap ho_) | (refine Kl.mk ?_; intro b_ w_ hb_ hl_ hx_ hB_ ho_) | (refine Km.mk ?_; intro b_ w_ hb_ hl_ hx_ ho_) | (refine Ke.mk ?_; intro r_ hr_) | (refine Kg.mk ?_ ?_ <;> intro hs_ <;> (try simp only [strEq_t, strEq_f, decide_eq_true_eq, decide_eq_false_iff_not, beq_iff_eq, beq_eq_false_iff_ne, bne_iff_ne, bne_eq_false_iff_eq, Bool.not_eq_true', Bool.not_eq_false', Bool.not_true, Bool.not_false, gt_iff_lt, ge_iff_le, Int.not_lt, Int.not_le, ne_eq, Bool.false_eq_true, not_true_eq_false, reduceCtorEq] at hs_) <;> (try (exfalso; first | exact hs_ | (exact hs_ rfl) | omega))) ))
  all_goals exact ⟨_, _, _, rfl, own_, own_, ext_⟩
theorem slot_lays_calls (n : Int) (bo m c : Nat) (B : Option Addr) (w : World) (hB : Blk w bo [.slice B m c] 27) :
    Calls Try.prog 52 #[.int .i64 n, .pointer (some ⟨bo, 0, none⟩)] w fun e w' => ∃ A c', e = .returned (.slice A 2 c') ∧ w'.ownsRow w.heap.size 54 3 (.slice A 2 c') 2 [.int .i64 5, .int .i64 n, .slice B m c, .int .i64 4, .int .i64 0, .slice none 0 0] ∧ Ext w w' := by
  refine calls_W (args := [.int .i64 n, .pointer (some ⟨bo, 0, none⟩)]) Try.func52 rfl 9 rfl ?_
  (repeat' (first | (refine WL_is ?_; first | refine WL_nil ?_ | (refine WL_isLit ?_; refine WL_litA rfl rfl rfl rfl rfl rfl rfl rfl ?_; intro b_ w_ hb_ hl_ hx_ hB_ ho_ hr_) | refine wl_ ?_ ) | (refine WC_is ?_; first | refine WC_seq (fun _ _ => ?_) | refine wc_ ?_) | (refine WQ_is ?_; first | refine wq_ ?_ | refine WQ_bodyCTT (Or.inl rfl) rfl rfl rfl rfl blk_ lr_ ?_ | refine WQ_bodyCTT (Or.inr rfl) rfl rfl rfl rfl blk_ lr_ ?_) | (refine Kb.mk ?_; intro b_ w_ hb_ hl_ hx_ hB_) | (refine Ks.mk ?_; intro w_ hz_ hx_ hB_) | (refine Ko.mk ?_; intro A_ c_ w_ hx_ ho_ hr_; have hz_ := hx_.size; have hq_ := own_cap ho_) | (refine Kp.mk ?_; intro A_ c_ w_ hx_ hz_ ho_ hr_ hp_; have hq_ := own_cap ho_) | (refine Kl.mk ?_; intro b_ w_ hb_ hl_ hx_ hB_ ho_) | (refine Km.mk ?_; intro b_ w_ hb_ hl_ hx_ ho_) | (refine Ke.mk ?_; intro r_ hr_) | (refine Kg.mk ?_ ?_ <;> intro hs_ <;> (try simp only [strEq_t, strEq_f, decide_eq_true_eq, decide_eq_false_iff_not, beq_iff_eq, beq_eq_false_iff_ne, bne_iff_ne, bne_eq_false_iff_eq, Bool.not_eq_true', Bool.not_eq_false', Bool.not_true, Bool.not_false, gt_iff_lt, ge_iff_le, Int.not_lt, Int.not_le, ne_eq, Bool.false_eq_true, not_true_eq_false, reduceCtorEq] at hs_) <;> (try (exfalso; first | exact hs_ | (exact hs_ rfl) | omega))) ))
  all_goals exact ⟨_, _, rfl, own_, ext_⟩
end Go.Proofs.Ytejdjpjaahfnaaa.K
