/-
  No cell of these rows narrows 'for every input' (looked for: loops, veiled, ifaces, maps, wideKeys, modest, calm, conditions, laid).
  DERIVED. THE GIVEN ROWS OF THIS SEAT. 12 by the template 'for every input the law returns true; each argument reads behind the call as it read before'; 0 by the template 'total and deterministic' (their statements: YtcggdgcbhfgfiaaTotals.lean).
  GIVEN WITH THE SEED: the statements are not yours to turn. If you find one false, say at which input.
  Laid BY PROGRAM, IN A SANDBOX (cutbox-rows.mjs): the forced cells as the released guide's own fill.sh prints them over the translation f52a08d05a80174c… (all of the seat's roots in one cut). By AI agents, Wed Nov 11 2026. No macro, syntax, notation, axiom, sorry.
-/
import Derived.Test.YtcggdgcbhfgfiaaChecked
import GoSem.Claim
import GoSem.ClaimJoined
import GoSem.ClaimMapViews
import Derived.JoinedTies
import Derived.KernelRfl
namespace Go.Proofs.Ytcggdgcbhfgfiaa
/- THE CELL 'sum', in the pinned program and in every row, IS THE sha256 OF THE DUMP (.gsa) THAT YtcggdgcbhfgfiaaProg.lean LOADS. Nothing in Lean hashes anything: it is a label: what it is worth is what the hold of that sum in a sandbox is worth. -/
noncomputable def Try.pinned : Pinned := { name := "ytcggdgcbhfgfiaa", sum := "f52a08d05a80174c5be5e6ebe7952faff6ee092e87fc3791f993ea1c1011eafc", checked := Try.checked }
namespace Rows
def none {H : Type} : Left H := { results := [], args := [] }

/-- 'quicklimelaw18.GeomTells': WHATEVER THE INPUT: true; the input reads as it did. -/
def geomTellsSpec : ChangeSpec := { name := "geomTells", fn := fun _ => fun
  | [d1, d2, d3, d4] => { results := [.lit (.bool true)], args := [d1, d2, d3, d4] }
  | _ => none }
def geomTellsRow : OpenClaim := { program := "ytcggdgcbhfgfiaa", sum := "f52a08d05a80174c5be5e6ebe7952faff6ee092e87fc3791f993ea1c1011eafc", func := "quicklime/quicklimelaw18.GeomTells", spec := "geomTells", unfollowed := true, recurses := true, apart := false }
def GeomTellsSaid : Prop := geomTellsRow.holds Try.pinned (OpenSpec.ofChange geomTellsSpec)

/-- ITS FALSE NEIGHBOUR: 'it returns false'. Refute it at one input. -/
def geomTellsWrong : ChangeSpec := { name := "geomTells", fn := fun _ => fun
  | [d1, d2, d3, d4] => { results := [.lit (.bool false)], args := [d1, d2, d3, d4] }
  | _ => none }
def GeomTellsWrongFalsely : Prop := geomTellsRow.holds Try.pinned (OpenSpec.ofChange geomTellsWrong)

/-- 'quicklimelaw18.GeomGrows': WHATEVER THE INPUT: true; the input reads as it did. -/
def geomGrowsSpec : ChangeSpec := { name := "geomGrows", fn := fun _ => fun
  | [d1, d2, d3, d4, d5] => { results := [.lit (.bool true)], args := [d1, d2, d3, d4, d5] }
  | _ => none }
def geomGrowsRow : OpenClaim := { program := "ytcggdgcbhfgfiaa", sum := "f52a08d05a80174c5be5e6ebe7952faff6ee092e87fc3791f993ea1c1011eafc", func := "quicklime/quicklimelaw18.GeomGrows", spec := "geomGrows", unfollowed := true, recurses := true, apart := false }
def GeomGrowsSaid : Prop := geomGrowsRow.holds Try.pinned (OpenSpec.ofChange geomGrowsSpec)

/-- ITS FALSE NEIGHBOUR: 'it returns false'. Refute it at one input. -/
def geomGrowsWrong : ChangeSpec := { name := "geomGrows", fn := fun _ => fun
  | [d1, d2, d3, d4, d5] => { results := [.lit (.bool false)], args := [d1, d2, d3, d4, d5] }
  | _ => none }
def GeomGrowsWrongFalsely : Prop := geomGrowsRow.holds Try.pinned (OpenSpec.ofChange geomGrowsWrong)

/-- 'quicklimelaw18.GeomRoom': WHATEVER THE INPUT: true; the input reads as it did. -/
def geomRoomSpec : ChangeSpec := { name := "geomRoom", fn := fun _ => fun
  | [d1, d2] => { results := [.lit (.bool true)], args := [d1, d2] }
  | _ => none }
def geomRoomRow : OpenClaim := { program := "ytcggdgcbhfgfiaa", sum := "f52a08d05a80174c5be5e6ebe7952faff6ee092e87fc3791f993ea1c1011eafc", func := "quicklime/quicklimelaw18.GeomRoom", spec := "geomRoom", unfollowed := true, recurses := true, apart := false }
def GeomRoomSaid : Prop := geomRoomRow.holds Try.pinned (OpenSpec.ofChange geomRoomSpec)

/-- ITS FALSE NEIGHBOUR: 'it returns false'. Refute it at one input. -/
def geomRoomWrong : ChangeSpec := { name := "geomRoom", fn := fun _ => fun
  | [d1, d2] => { results := [.lit (.bool false)], args := [d1, d2] }
  | _ => none }
def GeomRoomWrongFalsely : Prop := geomRoomRow.holds Try.pinned (OpenSpec.ofChange geomRoomWrong)

/-- 'quicklimelaw18.GeomSums': WHATEVER THE INPUT: true; the input reads as it did. -/
def geomSumsSpec : ChangeSpec := { name := "geomSums", fn := fun _ => fun
  | [d1, d2, d3] => { results := [.lit (.bool true)], args := [d1, d2, d3] }
  | _ => none }
def geomSumsRow : OpenClaim := { program := "ytcggdgcbhfgfiaa", sum := "f52a08d05a80174c5be5e6ebe7952faff6ee092e87fc3791f993ea1c1011eafc", func := "quicklime/quicklimelaw18.GeomSums", spec := "geomSums", unfollowed := true, recurses := true, apart := false }
def GeomSumsSaid : Prop := geomSumsRow.holds Try.pinned (OpenSpec.ofChange geomSumsSpec)

/-- ITS FALSE NEIGHBOUR: 'it returns false'. Refute it at one input. -/
def geomSumsWrong : ChangeSpec := { name := "geomSums", fn := fun _ => fun
  | [d1, d2, d3] => { results := [.lit (.bool false)], args := [d1, d2, d3] }
  | _ => none }
def GeomSumsWrongFalsely : Prop := geomSumsRow.holds Try.pinned (OpenSpec.ofChange geomSumsWrong)

/-- 'quicklimelaw01.FixTells': WHATEVER THE INPUT: true; the input reads as it did. -/
def fixTellsSpec : ChangeSpec := { name := "fixTells", fn := fun _ => fun
  | [d1, d2, d3] => { results := [.lit (.bool true)], args := [d1, d2, d3] }
  | _ => none }
def fixTellsRow : OpenClaim := { program := "ytcggdgcbhfgfiaa", sum := "f52a08d05a80174c5be5e6ebe7952faff6ee092e87fc3791f993ea1c1011eafc", func := "quicklime/quicklimelaw01.FixTells", spec := "fixTells", apart := false }
def FixTellsSaid : Prop := fixTellsRow.holds Try.pinned (OpenSpec.ofChange fixTellsSpec)

/-- ITS FALSE NEIGHBOUR: 'it returns false'. Refute it at one input. -/
def fixTellsWrong : ChangeSpec := { name := "fixTells", fn := fun _ => fun
  | [d1, d2, d3] => { results := [.lit (.bool false)], args := [d1, d2, d3] }
  | _ => none }
def FixTellsWrongFalsely : Prop := fixTellsRow.holds Try.pinned (OpenSpec.ofChange fixTellsWrong)

/-- 'quicklimelaw01.FixFields': WHATEVER THE INPUT: true; the input reads as it did. -/
def fixFieldsSpec : ChangeSpec := { name := "fixFields", fn := fun _ => fun
  | [d1, d2, d3] => { results := [.lit (.bool true)], args := [d1, d2, d3] }
  | _ => none }
def fixFieldsRow : OpenClaim := { program := "ytcggdgcbhfgfiaa", sum := "f52a08d05a80174c5be5e6ebe7952faff6ee092e87fc3791f993ea1c1011eafc", func := "quicklime/quicklimelaw01.FixFields", spec := "fixFields", apart := false }
def FixFieldsSaid : Prop := fixFieldsRow.holds Try.pinned (OpenSpec.ofChange fixFieldsSpec)

/-- ITS FALSE NEIGHBOUR: 'it returns false'. Refute it at one input. -/
def fixFieldsWrong : ChangeSpec := { name := "fixFields", fn := fun _ => fun
  | [d1, d2, d3] => { results := [.lit (.bool false)], args := [d1, d2, d3] }
  | _ => none }
def FixFieldsWrongFalsely : Prop := fixFieldsRow.holds Try.pinned (OpenSpec.ofChange fixFieldsWrong)

/-- 'quicklimelaw01.FixBack': WHATEVER THE INPUT: true; the input reads as it did. -/
def fixBackSpec : ChangeSpec := { name := "fixBack", fn := fun _ => fun
  | [d1, d2, d3] => { results := [.lit (.bool true)], args := [d1, d2, d3] }
  | _ => none }
def fixBackRow : OpenClaim := { program := "ytcggdgcbhfgfiaa", sum := "f52a08d05a80174c5be5e6ebe7952faff6ee092e87fc3791f993ea1c1011eafc", func := "quicklime/quicklimelaw01.FixBack", spec := "fixBack", apart := false }
def FixBackSaid : Prop := fixBackRow.holds Try.pinned (OpenSpec.ofChange fixBackSpec)

/-- ITS FALSE NEIGHBOUR: 'it returns false'. Refute it at one input. -/
def fixBackWrong : ChangeSpec := { name := "fixBack", fn := fun _ => fun
  | [d1, d2, d3] => { results := [.lit (.bool false)], args := [d1, d2, d3] }
  | _ => none }
def FixBackWrongFalsely : Prop := fixBackRow.holds Try.pinned (OpenSpec.ofChange fixBackWrong)

/-- 'quicklimelaw01.FixBytes': WHATEVER THE INPUT: true; the input reads as it did. -/
def fixBytesSpec : ChangeSpec := { name := "fixBytes", fn := fun _ => fun
  | [d1, d2, d3, d4] => { results := [.lit (.bool true)], args := [d1, d2, d3, d4] }
  | _ => none }
def fixBytesRow : OpenClaim := { program := "ytcggdgcbhfgfiaa", sum := "f52a08d05a80174c5be5e6ebe7952faff6ee092e87fc3791f993ea1c1011eafc", func := "quicklime/quicklimelaw01.FixBytes", spec := "fixBytes", apart := false }
def FixBytesSaid : Prop := fixBytesRow.holds Try.pinned (OpenSpec.ofChange fixBytesSpec)

/-- ITS FALSE NEIGHBOUR: 'it returns false'. Refute it at one input. -/
def fixBytesWrong : ChangeSpec := { name := "fixBytes", fn := fun _ => fun
  | [d1, d2, d3, d4] => { results := [.lit (.bool false)], args := [d1, d2, d3, d4] }
  | _ => none }
def FixBytesWrongFalsely : Prop := fixBytesRow.holds Try.pinned (OpenSpec.ofChange fixBytesWrong)

/-- 'quicklimelaw01.FixApart': WHATEVER THE INPUT: true; the input reads as it did. -/
def fixApartSpec : ChangeSpec := { name := "fixApart", fn := fun _ => fun
  | [d1, d2, d3, d4, d5] => { results := [.lit (.bool true)], args := [d1, d2, d3, d4, d5] }
  | _ => none }
def fixApartRow : OpenClaim := { program := "ytcggdgcbhfgfiaa", sum := "f52a08d05a80174c5be5e6ebe7952faff6ee092e87fc3791f993ea1c1011eafc", func := "quicklime/quicklimelaw01.FixApart", spec := "fixApart", apart := false }
def FixApartSaid : Prop := fixApartRow.holds Try.pinned (OpenSpec.ofChange fixApartSpec)

/-- ITS FALSE NEIGHBOUR: 'it returns false'. Refute it at one input. -/
def fixApartWrong : ChangeSpec := { name := "fixApart", fn := fun _ => fun
  | [d1, d2, d3, d4, d5] => { results := [.lit (.bool false)], args := [d1, d2, d3, d4, d5] }
  | _ => none }
def FixApartWrongFalsely : Prop := fixApartRow.holds Try.pinned (OpenSpec.ofChange fixApartWrong)

/-- 'quicklimelaw01.FixSplits': WHATEVER THE INPUT: true; the input reads as it did. -/
def fixSplitsSpec : ChangeSpec := { name := "fixSplits", fn := fun _ => fun
  | [d1, d2] => { results := [.lit (.bool true)], args := [d1, d2] }
  | _ => none }
def fixSplitsRow : OpenClaim := { program := "ytcggdgcbhfgfiaa", sum := "f52a08d05a80174c5be5e6ebe7952faff6ee092e87fc3791f993ea1c1011eafc", func := "quicklime/quicklimelaw01.FixSplits", spec := "fixSplits", apart := false }
def FixSplitsSaid : Prop := fixSplitsRow.holds Try.pinned (OpenSpec.ofChange fixSplitsSpec)

/-- ITS FALSE NEIGHBOUR: 'it returns false'. Refute it at one input. -/
def fixSplitsWrong : ChangeSpec := { name := "fixSplits", fn := fun _ => fun
  | [d1, d2] => { results := [.lit (.bool false)], args := [d1, d2] }
  | _ => none }
def FixSplitsWrongFalsely : Prop := fixSplitsRow.holds Try.pinned (OpenSpec.ofChange fixSplitsWrong)

/-- 'quicklimelaw01.FixWide': WHATEVER THE INPUT: true; the input reads as it did. -/
def fixWideSpec : ChangeSpec := { name := "fixWide", fn := fun _ => fun
  | [d1, d2, d3] => { results := [.lit (.bool true)], args := [d1, d2, d3] }
  | _ => none }
def fixWideRow : OpenClaim := { program := "ytcggdgcbhfgfiaa", sum := "f52a08d05a80174c5be5e6ebe7952faff6ee092e87fc3791f993ea1c1011eafc", func := "quicklime/quicklimelaw01.FixWide", spec := "fixWide", apart := false }
def FixWideSaid : Prop := fixWideRow.holds Try.pinned (OpenSpec.ofChange fixWideSpec)

/-- ITS FALSE NEIGHBOUR: 'it returns false'. Refute it at one input. -/
def fixWideWrong : ChangeSpec := { name := "fixWide", fn := fun _ => fun
  | [d1, d2, d3] => { results := [.lit (.bool false)], args := [d1, d2, d3] }
  | _ => none }
def FixWideWrongFalsely : Prop := fixWideRow.holds Try.pinned (OpenSpec.ofChange fixWideWrong)

/-- 'quicklimelaw01.FixSizes': WHATEVER THE INPUT: true; the input reads as it did. -/
def fixSizesSpec : ChangeSpec := { name := "fixSizes", fn := fun _ => fun
  | [d1, d2] => { results := [.lit (.bool true)], args := [d1, d2] }
  | _ => none }
def fixSizesRow : OpenClaim := { program := "ytcggdgcbhfgfiaa", sum := "f52a08d05a80174c5be5e6ebe7952faff6ee092e87fc3791f993ea1c1011eafc", func := "quicklime/quicklimelaw01.FixSizes", spec := "fixSizes", apart := false }
def FixSizesSaid : Prop := fixSizesRow.holds Try.pinned (OpenSpec.ofChange fixSizesSpec)

/-- ITS FALSE NEIGHBOUR: 'it returns false'. Refute it at one input. -/
def fixSizesWrong : ChangeSpec := { name := "fixSizes", fn := fun _ => fun
  | [d1, d2] => { results := [.lit (.bool false)], args := [d1, d2] }
  | _ => none }
def FixSizesWrongFalsely : Prop := fixSizesRow.holds Try.pinned (OpenSpec.ofChange fixSizesWrong)

/- THE SECOND FORM. 'bulk': how many values and letters a reading holds, each counted each time it is reached (what is shared counts as often as it is met; a slice's spare places count too). A statement '..UptoSaid' is the law's where the arguments, and the package variables that the reading takes, are together of bulk at most 1048576: NARROWER than '..Said'. Prove '..Said' where nothing that the law and all that it calls make is longer than what came in: it says more and counts as full. Else prove '..UptoSaid'. A law counts once. -/
mutual
def uptoBulk {H : Type} : DataW H → Nat
  | .lit (.string bytes) => bytes.length + 1
  | .lit _ => 1
  | .nil => 1
  | .ptr d => uptoBulk d + 1
  | .slice elems spare => uptoBulkAll elems + uptoBulkAll spare + 1
  | .agg parts => uptoBulkAll parts + 1
  | .iface _ d => uptoBulk d + 1
  | .map entries => uptoBulkEntries entries + 1
  | .held _ => 1
def uptoBulkAll {H : Type} : List (DataW H) → Nat
  | [] => 0
  | d :: r => uptoBulk d + uptoBulkAll r
def uptoBulkEntries {H : Type} : List (Lit × DataW H) → Nat
  | [] => 0
  | x :: r => uptoBulkEntry x + uptoBulkEntries r
def uptoBulkEntry {H : Type} : Lit × DataW H → Nat
  | (.string bytes, d) => bytes.length + uptoBulk d + 1
  | (_, d) => uptoBulk d + 1
 end
def uptoSmall : (H : Type) → List (DataW H) → Bool := fun _ ds => decide (uptoBulkAll ds ≤ 1048576)
def OpenSpec.upto (s : _root_.Go.ChangeSpec) : _root_.Go.OpenSpec := { _root_.Go.OpenSpec.ofChange s with cond := some uptoSmall }

/-- 'quicklimelaw18.GeomTells', WHERE WHAT IT READS IS OF BULK AT MOST 1048576: true; the input reads as it did. -/
def geomTellsUptoRow : OpenClaim := { program := "ytcggdgcbhfgfiaa", sum := "f52a08d05a80174c5be5e6ebe7952faff6ee092e87fc3791f993ea1c1011eafc", func := "quicklime/quicklimelaw18.GeomTells", spec := "geomTells", unfollowed := true, recurses := true, apart := false, narrowed := true }
def GeomTellsUptoSaid : Prop := geomTellsUptoRow.holds Try.pinned (OpenSpec.upto geomTellsSpec)

/-- 'quicklimelaw18.GeomGrows', WHERE WHAT IT READS IS OF BULK AT MOST 1048576: true; the input reads as it did. -/
def geomGrowsUptoRow : OpenClaim := { program := "ytcggdgcbhfgfiaa", sum := "f52a08d05a80174c5be5e6ebe7952faff6ee092e87fc3791f993ea1c1011eafc", func := "quicklime/quicklimelaw18.GeomGrows", spec := "geomGrows", unfollowed := true, recurses := true, apart := false, narrowed := true }
def GeomGrowsUptoSaid : Prop := geomGrowsUptoRow.holds Try.pinned (OpenSpec.upto geomGrowsSpec)

/-- 'quicklimelaw18.GeomRoom', WHERE WHAT IT READS IS OF BULK AT MOST 1048576: true; the input reads as it did. -/
def geomRoomUptoRow : OpenClaim := { program := "ytcggdgcbhfgfiaa", sum := "f52a08d05a80174c5be5e6ebe7952faff6ee092e87fc3791f993ea1c1011eafc", func := "quicklime/quicklimelaw18.GeomRoom", spec := "geomRoom", unfollowed := true, recurses := true, apart := false, narrowed := true }
def GeomRoomUptoSaid : Prop := geomRoomUptoRow.holds Try.pinned (OpenSpec.upto geomRoomSpec)

/-- 'quicklimelaw18.GeomSums', WHERE WHAT IT READS IS OF BULK AT MOST 1048576: true; the input reads as it did. -/
def geomSumsUptoRow : OpenClaim := { program := "ytcggdgcbhfgfiaa", sum := "f52a08d05a80174c5be5e6ebe7952faff6ee092e87fc3791f993ea1c1011eafc", func := "quicklime/quicklimelaw18.GeomSums", spec := "geomSums", unfollowed := true, recurses := true, apart := false, narrowed := true }
def GeomSumsUptoSaid : Prop := geomSumsUptoRow.holds Try.pinned (OpenSpec.upto geomSumsSpec)

/-- 'quicklimelaw01.FixTells', WHERE WHAT IT READS IS OF BULK AT MOST 1048576: true; the input reads as it did. -/
def fixTellsUptoRow : OpenClaim := { program := "ytcggdgcbhfgfiaa", sum := "f52a08d05a80174c5be5e6ebe7952faff6ee092e87fc3791f993ea1c1011eafc", func := "quicklime/quicklimelaw01.FixTells", spec := "fixTells", apart := false, narrowed := true }
def FixTellsUptoSaid : Prop := fixTellsUptoRow.holds Try.pinned (OpenSpec.upto fixTellsSpec)

/-- 'quicklimelaw01.FixFields', WHERE WHAT IT READS IS OF BULK AT MOST 1048576: true; the input reads as it did. -/
def fixFieldsUptoRow : OpenClaim := { program := "ytcggdgcbhfgfiaa", sum := "f52a08d05a80174c5be5e6ebe7952faff6ee092e87fc3791f993ea1c1011eafc", func := "quicklime/quicklimelaw01.FixFields", spec := "fixFields", apart := false, narrowed := true }
def FixFieldsUptoSaid : Prop := fixFieldsUptoRow.holds Try.pinned (OpenSpec.upto fixFieldsSpec)

/-- 'quicklimelaw01.FixBack', WHERE WHAT IT READS IS OF BULK AT MOST 1048576: true; the input reads as it did. -/
def fixBackUptoRow : OpenClaim := { program := "ytcggdgcbhfgfiaa", sum := "f52a08d05a80174c5be5e6ebe7952faff6ee092e87fc3791f993ea1c1011eafc", func := "quicklime/quicklimelaw01.FixBack", spec := "fixBack", apart := false, narrowed := true }
def FixBackUptoSaid : Prop := fixBackUptoRow.holds Try.pinned (OpenSpec.upto fixBackSpec)

/-- 'quicklimelaw01.FixBytes', WHERE WHAT IT READS IS OF BULK AT MOST 1048576: true; the input reads as it did. -/
def fixBytesUptoRow : OpenClaim := { program := "ytcggdgcbhfgfiaa", sum := "f52a08d05a80174c5be5e6ebe7952faff6ee092e87fc3791f993ea1c1011eafc", func := "quicklime/quicklimelaw01.FixBytes", spec := "fixBytes", apart := false, narrowed := true }
def FixBytesUptoSaid : Prop := fixBytesUptoRow.holds Try.pinned (OpenSpec.upto fixBytesSpec)

/-- 'quicklimelaw01.FixApart', WHERE WHAT IT READS IS OF BULK AT MOST 1048576: true; the input reads as it did. -/
def fixApartUptoRow : OpenClaim := { program := "ytcggdgcbhfgfiaa", sum := "f52a08d05a80174c5be5e6ebe7952faff6ee092e87fc3791f993ea1c1011eafc", func := "quicklime/quicklimelaw01.FixApart", spec := "fixApart", apart := false, narrowed := true }
def FixApartUptoSaid : Prop := fixApartUptoRow.holds Try.pinned (OpenSpec.upto fixApartSpec)

/-- 'quicklimelaw01.FixSplits', WHERE WHAT IT READS IS OF BULK AT MOST 1048576: true; the input reads as it did. -/
def fixSplitsUptoRow : OpenClaim := { program := "ytcggdgcbhfgfiaa", sum := "f52a08d05a80174c5be5e6ebe7952faff6ee092e87fc3791f993ea1c1011eafc", func := "quicklime/quicklimelaw01.FixSplits", spec := "fixSplits", apart := false, narrowed := true }
def FixSplitsUptoSaid : Prop := fixSplitsUptoRow.holds Try.pinned (OpenSpec.upto fixSplitsSpec)

/-- 'quicklimelaw01.FixWide', WHERE WHAT IT READS IS OF BULK AT MOST 1048576: true; the input reads as it did. -/
def fixWideUptoRow : OpenClaim := { program := "ytcggdgcbhfgfiaa", sum := "f52a08d05a80174c5be5e6ebe7952faff6ee092e87fc3791f993ea1c1011eafc", func := "quicklime/quicklimelaw01.FixWide", spec := "fixWide", apart := false, narrowed := true }
def FixWideUptoSaid : Prop := fixWideUptoRow.holds Try.pinned (OpenSpec.upto fixWideSpec)

/-- 'quicklimelaw01.FixSizes', WHERE WHAT IT READS IS OF BULK AT MOST 1048576: true; the input reads as it did. -/
def fixSizesUptoRow : OpenClaim := { program := "ytcggdgcbhfgfiaa", sum := "f52a08d05a80174c5be5e6ebe7952faff6ee092e87fc3791f993ea1c1011eafc", func := "quicklime/quicklimelaw01.FixSizes", spec := "fixSizes", apart := false, narrowed := true }
def FixSizesUptoSaid : Prop := fixSizesUptoRow.holds Try.pinned (OpenSpec.upto fixSizesSpec)

end Rows
end Go.Proofs.Ytcggdgcbhfgfiaa
