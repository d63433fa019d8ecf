/-
  No cell of these rows narrows 'for every input' (looked for: loops, veiled, ifaces, maps, wideKeys, modest, calm, conditions, laid).
  DERIVED. THE GIVEN ROWS OF THIS SEAT. 12 by the template 'for every input the law returns true; each argument reads behind the call as it read before'; 0 by the template 'total and deterministic' (their statements: YtjcfblaeloiclaaTotals.lean).
  GIVEN WITH THE SEED: the statements are not yours to turn. If you find one false, say at which input.
  Laid BY PROGRAM, IN A SANDBOX (cutbox-rows.mjs): the forced cells as the released guide's own fill.sh prints them over the translation f9ab0e183e4b64e0… (all of the seat's roots in one cut). By AI agents, Wed Nov 11 2026. No macro, syntax, notation, axiom, sorry.
-/
import Derived.Test.YtjcfblaeloiclaaChecked
import GoSem.Claim
import GoSem.ClaimJoined
import GoSem.ClaimMapViews
import Derived.JoinedTies
import Derived.KernelRfl
namespace Go.Proofs.Ytjcfblaeloiclaa
/- THE CELL 'sum', in the pinned program and in every row, IS THE sha256 OF THE DUMP (.gsa) THAT YtjcfblaeloiclaaProg.lean LOADS. Nothing in Lean hashes anything: it is a label: what it is worth is what the hold of that sum in a sandbox is worth. -/
noncomputable def Try.pinned : Pinned := { name := "ytjcfblaeloiclaa", sum := "f9ab0e183e4b64e0688099b03d08ffd69185fe26e3354178a01dbc4f0a31351a", checked := Try.checked }
namespace Rows
def none {H : Type} : Left H := { results := [], args := [] }

/-- 'quicklimelaw09.ZoneNames': WHATEVER THE INPUT: true; the input reads as it did. -/
def zoneNamesSpec : ChangeSpec := { name := "zoneNames", fn := fun _ => fun
  | [] => { results := [.lit (.bool true)], args := [] }
  | _ => none }
def zoneNamesRow : OpenClaim := { program := "ytjcfblaeloiclaa", sum := "f9ab0e183e4b64e0688099b03d08ffd69185fe26e3354178a01dbc4f0a31351a", func := "quicklime/quicklimelaw09.ZoneNames", spec := "zoneNames", apart := false }
def ZoneNamesSaid : Prop := zoneNamesRow.holds Try.pinned (OpenSpec.ofChange zoneNamesSpec)

/-- ITS FALSE NEIGHBOUR: 'it returns false'. Refute it at one input. -/
def zoneNamesWrong : ChangeSpec := { name := "zoneNames", fn := fun _ => fun
  | [] => { results := [.lit (.bool false)], args := [] }
  | _ => none }
def ZoneNamesWrongFalsely : Prop := zoneNamesRow.holds Try.pinned (OpenSpec.ofChange zoneNamesWrong)

/-- 'quicklimelaw09.ZoneReads': WHATEVER THE INPUT: true; the input reads as it did. -/
def zoneReadsSpec : ChangeSpec := { name := "zoneReads", fn := fun _ => fun
  | [d1, d2, d3] => { results := [.lit (.bool true)], args := [d1, d2, d3] }
  | _ => none }
def zoneReadsRow : OpenClaim := { program := "ytjcfblaeloiclaa", sum := "f9ab0e183e4b64e0688099b03d08ffd69185fe26e3354178a01dbc4f0a31351a", func := "quicklime/quicklimelaw09.ZoneReads", spec := "zoneReads", apart := false }
def ZoneReadsSaid : Prop := zoneReadsRow.holds Try.pinned (OpenSpec.ofChange zoneReadsSpec)

/-- ITS FALSE NEIGHBOUR: 'it returns false'. Refute it at one input. -/
def zoneReadsWrong : ChangeSpec := { name := "zoneReads", fn := fun _ => fun
  | [d1, d2, d3] => { results := [.lit (.bool false)], args := [d1, d2, d3] }
  | _ => none }
def ZoneReadsWrongFalsely : Prop := zoneReadsRow.holds Try.pinned (OpenSpec.ofChange zoneReadsWrong)

/-- 'quicklimelaw09.ZoneOwn': WHATEVER THE INPUT: true; the input reads as it did. -/
def zoneOwnSpec : ChangeSpec := { name := "zoneOwn", fn := fun _ => fun
  | [d1, d2, d3, d4] => { results := [.lit (.bool true)], args := [d1, d2, d3, d4] }
  | _ => none }
def zoneOwnRow : OpenClaim := { program := "ytjcfblaeloiclaa", sum := "f9ab0e183e4b64e0688099b03d08ffd69185fe26e3354178a01dbc4f0a31351a", func := "quicklime/quicklimelaw09.ZoneOwn", spec := "zoneOwn", apart := false }
def ZoneOwnSaid : Prop := zoneOwnRow.holds Try.pinned (OpenSpec.ofChange zoneOwnSpec)

/-- ITS FALSE NEIGHBOUR: 'it returns false'. Refute it at one input. -/
def zoneOwnWrong : ChangeSpec := { name := "zoneOwn", fn := fun _ => fun
  | [d1, d2, d3, d4] => { results := [.lit (.bool false)], args := [d1, d2, d3, d4] }
  | _ => none }
def ZoneOwnWrongFalsely : Prop := zoneOwnRow.holds Try.pinned (OpenSpec.ofChange zoneOwnWrong)

/-- 'quicklimelaw09.ZoneReadsBack': WHATEVER THE INPUT: true; the input reads as it did. -/
def zoneReadsBackSpec : ChangeSpec := { name := "zoneReadsBack", fn := fun _ => fun
  | [d1, d2] => { results := [.lit (.bool true)], args := [d1, d2] }
  | _ => none }
def zoneReadsBackRow : OpenClaim := { program := "ytjcfblaeloiclaa", sum := "f9ab0e183e4b64e0688099b03d08ffd69185fe26e3354178a01dbc4f0a31351a", func := "quicklime/quicklimelaw09.ZoneReadsBack", spec := "zoneReadsBack", apart := false }
def ZoneReadsBackSaid : Prop := zoneReadsBackRow.holds Try.pinned (OpenSpec.ofChange zoneReadsBackSpec)

/-- ITS FALSE NEIGHBOUR: 'it returns false'. Refute it at one input. -/
def zoneReadsBackWrong : ChangeSpec := { name := "zoneReadsBack", fn := fun _ => fun
  | [d1, d2] => { results := [.lit (.bool false)], args := [d1, d2] }
  | _ => none }
def ZoneReadsBackWrongFalsely : Prop := zoneReadsBackRow.holds Try.pinned (OpenSpec.ofChange zoneReadsBackWrong)

/-- 'quicklimelaw09.ZoneEnds': WHATEVER THE INPUT: true; the input reads as it did. -/
def zoneEndsSpec : ChangeSpec := { name := "zoneEnds", fn := fun _ => fun
  | [d1, d2] => { results := [.lit (.bool true)], args := [d1, d2] }
  | _ => none }
def zoneEndsRow : OpenClaim := { program := "ytjcfblaeloiclaa", sum := "f9ab0e183e4b64e0688099b03d08ffd69185fe26e3354178a01dbc4f0a31351a", func := "quicklime/quicklimelaw09.ZoneEnds", spec := "zoneEnds", apart := false }
def ZoneEndsSaid : Prop := zoneEndsRow.holds Try.pinned (OpenSpec.ofChange zoneEndsSpec)

/-- ITS FALSE NEIGHBOUR: 'it returns false'. Refute it at one input. -/
def zoneEndsWrong : ChangeSpec := { name := "zoneEnds", fn := fun _ => fun
  | [d1, d2] => { results := [.lit (.bool false)], args := [d1, d2] }
  | _ => none }
def ZoneEndsWrongFalsely : Prop := zoneEndsRow.holds Try.pinned (OpenSpec.ofChange zoneEndsWrong)

/-- 'quicklimelaw09.ZoneTells': WHATEVER THE INPUT: true; the input reads as it did. -/
def zoneTellsSpec : ChangeSpec := { name := "zoneTells", fn := fun _ => fun
  | [d1, d2, d3, d4] => { results := [.lit (.bool true)], args := [d1, d2, d3, d4] }
  | _ => none }
def zoneTellsRow : OpenClaim := { program := "ytjcfblaeloiclaa", sum := "f9ab0e183e4b64e0688099b03d08ffd69185fe26e3354178a01dbc4f0a31351a", func := "quicklime/quicklimelaw09.ZoneTells", spec := "zoneTells", apart := false }
def ZoneTellsSaid : Prop := zoneTellsRow.holds Try.pinned (OpenSpec.ofChange zoneTellsSpec)

/-- ITS FALSE NEIGHBOUR: 'it returns false'. Refute it at one input. -/
def zoneTellsWrong : ChangeSpec := { name := "zoneTells", fn := fun _ => fun
  | [d1, d2, d3, d4] => { results := [.lit (.bool false)], args := [d1, d2, d3, d4] }
  | _ => none }
def ZoneTellsWrongFalsely : Prop := zoneTellsRow.holds Try.pinned (OpenSpec.ofChange zoneTellsWrong)

/-- 'quicklimelaw09.ZoneMay': WHATEVER THE INPUT: true; the input reads as it did. -/
def zoneMaySpec : ChangeSpec := { name := "zoneMay", fn := fun _ => fun
  | [d1, d2, d3] => { results := [.lit (.bool true)], args := [d1, d2, d3] }
  | _ => none }
def zoneMayRow : OpenClaim := { program := "ytjcfblaeloiclaa", sum := "f9ab0e183e4b64e0688099b03d08ffd69185fe26e3354178a01dbc4f0a31351a", func := "quicklime/quicklimelaw09.ZoneMay", spec := "zoneMay", apart := false }
def ZoneMaySaid : Prop := zoneMayRow.holds Try.pinned (OpenSpec.ofChange zoneMaySpec)

/-- ITS FALSE NEIGHBOUR: 'it returns false'. Refute it at one input. -/
def zoneMayWrong : ChangeSpec := { name := "zoneMay", fn := fun _ => fun
  | [d1, d2, d3] => { results := [.lit (.bool false)], args := [d1, d2, d3] }
  | _ => none }
def ZoneMayWrongFalsely : Prop := zoneMayRow.holds Try.pinned (OpenSpec.ofChange zoneMayWrong)

/-- 'quicklimelaw12.PageTells': WHATEVER THE INPUT: true; the input reads as it did. -/
def pageTellsSpec : ChangeSpec := { name := "pageTells", fn := fun _ => fun
  | [d1, d2] => { results := [.lit (.bool true)], args := [d1, d2] }
  | _ => none }
def pageTellsRow : OpenClaim := { program := "ytjcfblaeloiclaa", sum := "f9ab0e183e4b64e0688099b03d08ffd69185fe26e3354178a01dbc4f0a31351a", func := "quicklime/quicklimelaw12.PageTells", spec := "pageTells", apart := false }
def PageTellsSaid : Prop := pageTellsRow.holds Try.pinned (OpenSpec.ofChange pageTellsSpec)

/-- ITS FALSE NEIGHBOUR: 'it returns false'. Refute it at one input. -/
def pageTellsWrong : ChangeSpec := { name := "pageTells", fn := fun _ => fun
  | [d1, d2] => { results := [.lit (.bool false)], args := [d1, d2] }
  | _ => none }
def PageTellsWrongFalsely : Prop := pageTellsRow.holds Try.pinned (OpenSpec.ofChange pageTellsWrong)

/-- 'quicklimelaw12.PageReads': WHATEVER THE INPUT: true; the input reads as it did. -/
def pageReadsSpec : ChangeSpec := { name := "pageReads", fn := fun _ => fun
  | [d1, d2] => { results := [.lit (.bool true)], args := [d1, d2] }
  | _ => none }
def pageReadsRow : OpenClaim := { program := "ytjcfblaeloiclaa", sum := "f9ab0e183e4b64e0688099b03d08ffd69185fe26e3354178a01dbc4f0a31351a", func := "quicklime/quicklimelaw12.PageReads", spec := "pageReads", apart := false }
def PageReadsSaid : Prop := pageReadsRow.holds Try.pinned (OpenSpec.ofChange pageReadsSpec)

/-- ITS FALSE NEIGHBOUR: 'it returns false'. Refute it at one input. -/
def pageReadsWrong : ChangeSpec := { name := "pageReads", fn := fun _ => fun
  | [d1, d2] => { results := [.lit (.bool false)], args := [d1, d2] }
  | _ => none }
def PageReadsWrongFalsely : Prop := pageReadsRow.holds Try.pinned (OpenSpec.ofChange pageReadsWrong)

/-- 'quicklimelaw12.PageBack': WHATEVER THE INPUT: true; the input reads as it did. -/
def pageBackSpec : ChangeSpec := { name := "pageBack", fn := fun _ => fun
  | [d1, d2] => { results := [.lit (.bool true)], args := [d1, d2] }
  | _ => none }
def pageBackRow : OpenClaim := { program := "ytjcfblaeloiclaa", sum := "f9ab0e183e4b64e0688099b03d08ffd69185fe26e3354178a01dbc4f0a31351a", func := "quicklime/quicklimelaw12.PageBack", spec := "pageBack", apart := false }
def PageBackSaid : Prop := pageBackRow.holds Try.pinned (OpenSpec.ofChange pageBackSpec)

/-- ITS FALSE NEIGHBOUR: 'it returns false'. Refute it at one input. -/
def pageBackWrong : ChangeSpec := { name := "pageBack", fn := fun _ => fun
  | [d1, d2] => { results := [.lit (.bool false)], args := [d1, d2] }
  | _ => none }
def PageBackWrongFalsely : Prop := pageBackRow.holds Try.pinned (OpenSpec.ofChange pageBackWrong)

/-- 'quicklimelaw12.PageApart': WHATEVER THE INPUT: true; the input reads as it did. -/
def pageApartSpec : ChangeSpec := { name := "pageApart", fn := fun _ => fun
  | [d1, d2, d3] => { results := [.lit (.bool true)], args := [d1, d2, d3] }
  | _ => none }
def pageApartRow : OpenClaim := { program := "ytjcfblaeloiclaa", sum := "f9ab0e183e4b64e0688099b03d08ffd69185fe26e3354178a01dbc4f0a31351a", func := "quicklime/quicklimelaw12.PageApart", spec := "pageApart", apart := false }
def PageApartSaid : Prop := pageApartRow.holds Try.pinned (OpenSpec.ofChange pageApartSpec)

/-- ITS FALSE NEIGHBOUR: 'it returns false'. Refute it at one input. -/
def pageApartWrong : ChangeSpec := { name := "pageApart", fn := fun _ => fun
  | [d1, d2, d3] => { results := [.lit (.bool false)], args := [d1, d2, d3] }
  | _ => none }
def PageApartWrongFalsely : Prop := pageApartRow.holds Try.pinned (OpenSpec.ofChange pageApartWrong)

/-- 'quicklimelaw12.PageEntries': WHATEVER THE INPUT: true; the input reads as it did. -/
def pageEntriesSpec : ChangeSpec := { name := "pageEntries", fn := fun _ => fun
  | [d1, d2] => { results := [.lit (.bool true)], args := [d1, d2] }
  | _ => none }
def pageEntriesRow : OpenClaim := { program := "ytjcfblaeloiclaa", sum := "f9ab0e183e4b64e0688099b03d08ffd69185fe26e3354178a01dbc4f0a31351a", func := "quicklime/quicklimelaw12.PageEntries", spec := "pageEntries", apart := false }
def PageEntriesSaid : Prop := pageEntriesRow.holds Try.pinned (OpenSpec.ofChange pageEntriesSpec)

/-- ITS FALSE NEIGHBOUR: 'it returns false'. Refute it at one input. -/
def pageEntriesWrong : ChangeSpec := { name := "pageEntries", fn := fun _ => fun
  | [d1, d2] => { results := [.lit (.bool false)], args := [d1, d2] }
  | _ => none }
def PageEntriesWrongFalsely : Prop := pageEntriesRow.holds Try.pinned (OpenSpec.ofChange pageEntriesWrong)

/- THE SECOND FORM. 'bulk': how many values and letters a reading holds, each counted each time it is reached (what is shared counts as often as it is met; a slice's spare places count too). A statement '..UptoSaid' is the law's where the arguments, and the package variables that the reading takes, are together of bulk at most 1048576: NARROWER than '..Said'. Prove '..Said' where nothing that the law and all that it calls make is longer than what came in: it says more and counts as full. Else prove '..UptoSaid'. A law counts once. -/
mutual
def uptoBulk {H : Type} : DataW H → Nat
  | .lit (.string bytes) => bytes.length + 1
  | .lit _ => 1
  | .nil => 1
  | .ptr d => uptoBulk d + 1
  | .slice elems spare => uptoBulkAll elems + uptoBulkAll spare + 1
  | .agg parts => uptoBulkAll parts + 1
  | .iface _ d => uptoBulk d + 1
  | .map entries => uptoBulkEntries entries + 1
  | .held _ => 1
def uptoBulkAll {H : Type} : List (DataW H) → Nat
  | [] => 0
  | d :: r => uptoBulk d + uptoBulkAll r
def uptoBulkEntries {H : Type} : List (Lit × DataW H) → Nat
  | [] => 0
  | x :: r => uptoBulkEntry x + uptoBulkEntries r
def uptoBulkEntry {H : Type} : Lit × DataW H → Nat
  | (.string bytes, d) => bytes.length + uptoBulk d + 1
  | (_, d) => uptoBulk d + 1
 end
def uptoSmall : (H : Type) → List (DataW H) → Bool := fun _ ds => decide (uptoBulkAll ds ≤ 1048576)
def OpenSpec.upto (s : _root_.Go.ChangeSpec) : _root_.Go.OpenSpec := { _root_.Go.OpenSpec.ofChange s with cond := some uptoSmall }

/-- 'quicklimelaw09.ZoneNames', WHERE WHAT IT READS IS OF BULK AT MOST 1048576: true; the input reads as it did. -/
def zoneNamesUptoRow : OpenClaim := { program := "ytjcfblaeloiclaa", sum := "f9ab0e183e4b64e0688099b03d08ffd69185fe26e3354178a01dbc4f0a31351a", func := "quicklime/quicklimelaw09.ZoneNames", spec := "zoneNames", apart := false, narrowed := true }
def ZoneNamesUptoSaid : Prop := zoneNamesUptoRow.holds Try.pinned (OpenSpec.upto zoneNamesSpec)

/-- 'quicklimelaw09.ZoneReads', WHERE WHAT IT READS IS OF BULK AT MOST 1048576: true; the input reads as it did. -/
def zoneReadsUptoRow : OpenClaim := { program := "ytjcfblaeloiclaa", sum := "f9ab0e183e4b64e0688099b03d08ffd69185fe26e3354178a01dbc4f0a31351a", func := "quicklime/quicklimelaw09.ZoneReads", spec := "zoneReads", apart := false, narrowed := true }
def ZoneReadsUptoSaid : Prop := zoneReadsUptoRow.holds Try.pinned (OpenSpec.upto zoneReadsSpec)

/-- 'quicklimelaw09.ZoneOwn', WHERE WHAT IT READS IS OF BULK AT MOST 1048576: true; the input reads as it did. -/
def zoneOwnUptoRow : OpenClaim := { program := "ytjcfblaeloiclaa", sum := "f9ab0e183e4b64e0688099b03d08ffd69185fe26e3354178a01dbc4f0a31351a", func := "quicklime/quicklimelaw09.ZoneOwn", spec := "zoneOwn", apart := false, narrowed := true }
def ZoneOwnUptoSaid : Prop := zoneOwnUptoRow.holds Try.pinned (OpenSpec.upto zoneOwnSpec)

/-- 'quicklimelaw09.ZoneReadsBack', WHERE WHAT IT READS IS OF BULK AT MOST 1048576: true; the input reads as it did. -/
def zoneReadsBackUptoRow : OpenClaim := { program := "ytjcfblaeloiclaa", sum := "f9ab0e183e4b64e0688099b03d08ffd69185fe26e3354178a01dbc4f0a31351a", func := "quicklime/quicklimelaw09.ZoneReadsBack", spec := "zoneReadsBack", apart := false, narrowed := true }
def ZoneReadsBackUptoSaid : Prop := zoneReadsBackUptoRow.holds Try.pinned (OpenSpec.upto zoneReadsBackSpec)

/-- 'quicklimelaw09.ZoneEnds', WHERE WHAT IT READS IS OF BULK AT MOST 1048576: true; the input reads as it did. -/
def zoneEndsUptoRow : OpenClaim := { program := "ytjcfblaeloiclaa", sum := "f9ab0e183e4b64e0688099b03d08ffd69185fe26e3354178a01dbc4f0a31351a", func := "quicklime/quicklimelaw09.ZoneEnds", spec := "zoneEnds", apart := false, narrowed := true }
def ZoneEndsUptoSaid : Prop := zoneEndsUptoRow.holds Try.pinned (OpenSpec.upto zoneEndsSpec)

/-- 'quicklimelaw09.ZoneTells', WHERE WHAT IT READS IS OF BULK AT MOST 1048576: true; the input reads as it did. -/
def zoneTellsUptoRow : OpenClaim := { program := "ytjcfblaeloiclaa", sum := "f9ab0e183e4b64e0688099b03d08ffd69185fe26e3354178a01dbc4f0a31351a", func := "quicklime/quicklimelaw09.ZoneTells", spec := "zoneTells", apart := false, narrowed := true }
def ZoneTellsUptoSaid : Prop := zoneTellsUptoRow.holds Try.pinned (OpenSpec.upto zoneTellsSpec)

/-- 'quicklimelaw09.ZoneMay', WHERE WHAT IT READS IS OF BULK AT MOST 1048576: true; the input reads as it did. -/
def zoneMayUptoRow : OpenClaim := { program := "ytjcfblaeloiclaa", sum := "f9ab0e183e4b64e0688099b03d08ffd69185fe26e3354178a01dbc4f0a31351a", func := "quicklime/quicklimelaw09.ZoneMay", spec := "zoneMay", apart := false, narrowed := true }
def ZoneMayUptoSaid : Prop := zoneMayUptoRow.holds Try.pinned (OpenSpec.upto zoneMaySpec)

/-- 'quicklimelaw12.PageTells', WHERE WHAT IT READS IS OF BULK AT MOST 1048576: true; the input reads as it did. -/
def pageTellsUptoRow : OpenClaim := { program := "ytjcfblaeloiclaa", sum := "f9ab0e183e4b64e0688099b03d08ffd69185fe26e3354178a01dbc4f0a31351a", func := "quicklime/quicklimelaw12.PageTells", spec := "pageTells", apart := false, narrowed := true }
def PageTellsUptoSaid : Prop := pageTellsUptoRow.holds Try.pinned (OpenSpec.upto pageTellsSpec)

/-- 'quicklimelaw12.PageReads', WHERE WHAT IT READS IS OF BULK AT MOST 1048576: true; the input reads as it did. -/
def pageReadsUptoRow : OpenClaim := { program := "ytjcfblaeloiclaa", sum := "f9ab0e183e4b64e0688099b03d08ffd69185fe26e3354178a01dbc4f0a31351a", func := "quicklime/quicklimelaw12.PageReads", spec := "pageReads", apart := false, narrowed := true }
def PageReadsUptoSaid : Prop := pageReadsUptoRow.holds Try.pinned (OpenSpec.upto pageReadsSpec)

/-- 'quicklimelaw12.PageBack', WHERE WHAT IT READS IS OF BULK AT MOST 1048576: true; the input reads as it did. -/
def pageBackUptoRow : OpenClaim := { program := "ytjcfblaeloiclaa", sum := "f9ab0e183e4b64e0688099b03d08ffd69185fe26e3354178a01dbc4f0a31351a", func := "quicklime/quicklimelaw12.PageBack", spec := "pageBack", apart := false, narrowed := true }
def PageBackUptoSaid : Prop := pageBackUptoRow.holds Try.pinned (OpenSpec.upto pageBackSpec)

/-- 'quicklimelaw12.PageApart', WHERE WHAT IT READS IS OF BULK AT MOST 1048576: true; the input reads as it did. -/
def pageApartUptoRow : OpenClaim := { program := "ytjcfblaeloiclaa", sum := "f9ab0e183e4b64e0688099b03d08ffd69185fe26e3354178a01dbc4f0a31351a", func := "quicklime/quicklimelaw12.PageApart", spec := "pageApart", apart := false, narrowed := true }
def PageApartUptoSaid : Prop := pageApartUptoRow.holds Try.pinned (OpenSpec.upto pageApartSpec)

/-- 'quicklimelaw12.PageEntries', WHERE WHAT IT READS IS OF BULK AT MOST 1048576: true; the input reads as it did. -/
def pageEntriesUptoRow : OpenClaim := { program := "ytjcfblaeloiclaa", sum := "f9ab0e183e4b64e0688099b03d08ffd69185fe26e3354178a01dbc4f0a31351a", func := "quicklime/quicklimelaw12.PageEntries", spec := "pageEntries", apart := false, narrowed := true }
def PageEntriesUptoSaid : Prop := pageEntriesUptoRow.holds Try.pinned (OpenSpec.upto pageEntriesSpec)

end Rows
end Go.Proofs.Ytjcfblaeloiclaa
