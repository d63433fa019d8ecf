/- Chapter 13 (root): records that come in. Seat-free. -/
import Derived.Test.YtejdjpjaahfnaaaV12
set_option linter.unusedVariables false
set_option linter.unusedSimpArgs false
set_option maxHeartbeats 4000000
set_option maxRecDepth 20000
namespace Go.Proofs.Ytejdjpjaahfnaaa.K
open Go.RowKit
attribute [local irreducible] strEq strOfNums Calls WL WC WQ WX Code.wp wpList bodyPost
open Go.ChangeShapes Go.WideShapes Go.ChangeAt Go.ChangeMaps Go.Deep
abbrev REn : World → List Value → Prop := RStr 35 [(0, 1, RBool), (1, 1, RInt .i64), (2, 1, RInt .i64), (3, 32, RArr 32 1 (RInt .u8))]
theorem open_en {w : World} {cs : List Value} (h : REn w cs) : ∃ e, cs = enC e ∧ EnW e := by
  obtain ⟨hl, ⟨u, h1⟩, ⟨z, h2, wz⟩, ⟨a, h3, wa⟩, h4, _⟩ := h
  match cs, hl with
  | x :: y :: v :: r, hl =>
    simp at h1 h2 h3
    obtain ⟨ks, h5, h6, h7⟩ := rarr_ints h4
    have hr : (List.drop 3 (x :: y :: v :: r)).take 32 = r := by
      show r.take 32 = r
      exact List.take_of_length_le (by simp at hl; omega)
    rw [hr] at h5
    subst h1; subst h2; subst h3; subst h5
    exact ⟨⟨u, z, a, ks⟩, rfl, h6, fun x hx => wf_u8 (h7 x hx), wf_i64 wz, wf_i64 wa⟩
abbrev RRc : World → List Value → Prop := RStr 70 [(0, 1, RInt .i64), (1, 35, REn), (36, 32, RArr 32 1 (RInt .u8)), (68, 1, RInt .i64), (69, 1, RInt .i64)]
theorem open_rc {w : World} {cs : List Value} (h : RRc w cs) : ∃ r, cs = rcC r ∧ RcW r := by
  obtain ⟨hl, ⟨ep, h1, we⟩, h2, h3, ⟨sq, h4, ws⟩, ⟨bl, h5, wb⟩, _⟩ := h
  obtain ⟨t, e2, ht⟩ := open_en h2
  obtain ⟨j, e3, j1, j2⟩ := rarr_ints h3
  have p5 : (cs.drop 69).take 1 = cs.drop 69 := List.take_of_length_le (by rw [List.length_drop, hl]; decide)
  have p4 : (cs.drop 68).take 1 ++ cs.drop 69 = cs.drop 68 := by
    have := List.take_append_drop 1 (cs.drop 68)
    rwa [List.drop_drop] at this
  have p3 : (cs.drop 36).take 32 ++ cs.drop 68 = cs.drop 36 := by
    have := List.take_append_drop 32 (cs.drop 36)
    rwa [List.drop_drop] at this
  have p2 : (cs.drop 1).take 35 ++ cs.drop 36 = cs.drop 1 := by
    have := List.take_append_drop 35 (cs.drop 1)
    rwa [List.drop_drop] at this
  have p1 : (cs.drop 0).take 1 ++ cs.drop 1 = cs := List.take_append_drop 1 cs
  refine ⟨⟨ep, t, j, sq, bl⟩, ?_, ht, j1, fun x hx => wf_u8 (j2 x hx), wf_i64 we, wf_i64 ws, wf_i64 wb⟩
  rw [← p1, ← p2, ← p3, ← p4, ← p5, h1, e2, e3, h4, h5]
  rfl
end Go.Proofs.Ytejdjpjaahfnaaa.K
