/- Facts that a walk needs at every turn, each found by the tactic that stands with it. Seat-free. -/
import Derived.Test.YtemfngomfiimfaaB
set_option linter.unusedVariables false
namespace Go.Proofs.Ytemfngomfiimfaa.K
open Go.RowKit
theorem om_ {p : Prop} (h : p := by omega) : p := h
theorem as_ {p : Prop} (h : p := by assumption) : p := h
theorem lr_ {p : Prop} (h : p := by first | assumption | rfl | omega) : p := h
theorem len_ {p : Prop} (h : p := by first | assumption | (with_reducible rfl) | omega | (exact List.length_append) | (simp; done) | rfl) : p := h
theorem ext_ {w w' : World} (h : Ext w w' := by ((repeat' (first | exact Ext.refl' _ | assumption | (refine Ext.then ?_ (by assumption)) | (refine ExtB.ext ?_ (by assumption) (by omega)) | (refine ExtR.ext ?_ (by assumption) (by omega)))); first | done | fail)) : Ext w w' := h
theorem keepo_ {a b c d : Nat} {w0 w : World} (h : KeepO a b c d w0 w := by ((repeat' (first | exact KeepO.refl _ _ _ _ _ | (refine KeepO.ext ?_ (by assumption)) | (refine KeepO.extB ?_ (by assumption) ?hne; (case hne => omega)) | (refine KeepO.extR ?_ (by assumption) ?hne; (case hne => omega)))); first | done | fail)) : KeepO a b c d w0 w := h
theorem keepb_ {b : Nat} {w0 w : World} (h : KeepB b w0 w := by ((repeat' (first | exact KeepB.refl _ _ | (refine KeepB.ext ?_ (by assumption)) | (refine KeepB.extB ?_ (by assumption) ?hne; (case hne => omega)) | (refine KeepB.extR ?_ (by assumption) ?hne; (case hne => omega)))); first | done | fail)) : KeepB b w0 w := h
theorem blk_ {w : World} {b : Nat} {cs : List Value} {T : TypeId} (h : Blk w b cs T := by (first | assumption | (refine Blk.go (by assumption) keepb_))) : Blk w b cs T := h
theorem own_ {w : World} {base n : Nat} {e : TypeId} {s : Nat} {v : Value} {xs : List Value} (h : w.ownsRow base e s v n xs := by (first | assumption | (exact own_nil _ _ _ _) | (refine own_goG (by assumption) (by assumption) (Nat.le_refl _) keepo_) | (refine own_goG (by assumption) (by assumption) (by omega) keepo_) | (refine own_go (by assumption) (Nat.le_refl _) keepo_) | (refine own_go (by assumption) (by omega) keepo_))) : w.ownsRow base e s v n xs := h
theorem Blk.cellsV {w : World} {g off : Nat} {cs vs : List Value} {T : TypeId} (h : Blk w g cs T) (hv : cs.drop off = vs) : Cells w (some ⟨g, off, none⟩) vs := hv ▸ h.cells off
theorem cells_ {w : World} {A : Option Addr} {cs : List Value} (h : Cells w A cs := by (first | assumption | (exact Cells.ext (by assumption) ext_) | (exact Blk.cells0 blk_) | (refine own_rdGG (by assumption) (by assumption) keepo_) | (refine own_rdG (by assumption) keepo_) | (exact Blk.cellsV blk_ (by rfl)) | (exact Cells.nil _ _))) : Cells w A cs := h
theorem env_ {E L : Env} (h : AllV (lk E) L := by ((repeat (refine And.intro rfl ?_)); exact True.intro)) : ∀ t v, lk L t = some v → lk E t = some v := lk_all h
theorem one_ {v : Value} (h : ∀ u ∈ v.cells.toList, u.oneCell' = true := by first | exact one_int _ _ | exact one_bool _ | exact one_slice _ _ _ | exact one_pointer _ | assumption) : ∀ u ∈ v.cells.toList, u.oneCell' = true := h
end Go.Proofs.Ytemfngomfiimfaa.K
