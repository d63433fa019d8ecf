/- Chapter 12 (page): awake; entries and pages that come in; the laws PageTells, PageReads. Seat-free. -/
import Derived.Test.YtjcfblaeloiclaaP7
set_option linter.unusedVariables false
set_option linter.unusedSimpArgs false
set_option maxHeartbeats 4000000
set_option maxRecDepth 20000
namespace Go.Proofs.Ytjcfblaeloiclaa.K
open Go.RowKit
attribute [local irreducible] strEq strOfNums Calls WL WC WQ WX Code.wp wpList bodyPost
open Go.ChangeShapes Go.WideShapes Go.ChangeAt Go.ChangeMaps Go.Deep
abbrev REn : World → List Value → Prop := RStr 35 [(0, 1, RBool), (1, 1, RInt .i64), (2, 1, RInt .i64), (3, 32, RArr 32 1 (RInt .u8))]
theorem open_en {w : World} {cs : List Value} (h : REn w cs) : ∃ e, cs = enC e ∧ EnW e := by
  obtain ⟨hl, ⟨u, h1⟩, ⟨z, h2, wz⟩, ⟨a, h3, wa⟩, h4, _⟩ := h
  match cs, hl with
  | x :: y :: v :: r, hl =>
    simp at h1 h2 h3
    obtain ⟨ks, h5, h6, h7⟩ := rarr_ints h4
    have hr : (List.drop 3 (x :: y :: v :: r)).take 32 = r := by
      show r.take 32 = r
      exact List.take_of_length_le (by simp at hl; omega)
    rw [hr] at h5
    subst h1; subst h2; subst h3; subst h5
    exact ⟨⟨u, z, a, ks⟩, rfl, h6, fun x hx => wf_u8 (h7 x hx), wf_i64 wz, wf_i64 wa⟩
theorem catC_val (xs : List {e : En // EnW e}) : catC (fun e => enC e.val) xs = pgC (xs.map (·.val)) := by
  induction xs with
  | nil => rfl
  | cons x r ih => rw [catC_cons, List.map_cons, pgC, catC_cons, ih]
theorem open_pg {w : World} {cs : List Value} (h : RArr 8 35 REn w cs) : ∃ p, cs = pgC p ∧ PgW p := by
  obtain ⟨xs, h1, h2⟩ := rarr_cat (f := fun e : {e : En // EnW e} => enC e.val) (fun cs h => by obtain ⟨e, h1, h2⟩ := open_en h; exact ⟨⟨e, h2⟩, h1⟩) h
  refine ⟨xs.map (·.val), by rw [h1, catC_val], by simpa using h2, fun e he => ?_⟩
  obtain ⟨x, _, rfl⟩ := List.mem_map.1 he
  exact x.property
theorem pgB_bytes {p : List En} (hp : PgW p) : ∀ x ∈ pgB p, 0 ≤ x ∧ x < 256 := by
  cases h : okPg p with
  | false => rw [pgB_f h]; simp
  | true =>
    rw [pgB_t h]
    have : ∀ i, i ≤ 8 → ∀ x ∈ pgL p i, 0 ≤ x ∧ x < 256 := by
      intro i
      induction i with
      | zero => intro _ x hx; unfold pgL at hx; simp at hx
      | succ i ih =>
        intro hi x hx
        rw [pgL_step] at hx
        rcases List.mem_append.1 hx with hx | hx
        · exact ih om_ x hx
        · exact enL_bytes (okE_iff.1 (okT_at om_ h)) (hp.at i) x hx
    exact this 8 om_
theorem enB_bytes {e : En} (he : EnW e) : ∀ x ∈ enB e, 0 ≤ x ∧ x < 256 := by
  cases h : okE e with
  | false => rw [(enB_f h).1]; simp
  | true => rw [(enB_t h).1]; exact enL_bytes (okE_iff.1 h) he
abbrev SPg : List Value → Prop := SArr 8 35 SEn
theorem spg {p : List En} (h : PgW p) : SPg (pgC p) := by
  refine ⟨by rw [pgC_length h], fun i hi => ?_⟩
  have := catC_seg h.each (show i < p.length by rw [h.len]; exact hi)
  rw [this.2.2]
  exact sen (h.at i).len
instance : TEq Try.prog 52 true 280 4 SPg := teq_arr (e := 50) (by kernel_rfl) (by kernel_rfl) (by kernel_rfl) rfl
instance : TEqG Try.prog 52 := ⟨by kernel_rfl⟩
end Go.Proofs.Ytjcfblaeloiclaa.K
