/-
  No cell of these rows narrows 'for every input' (looked for: loops, veiled, ifaces, maps, wideKeys, modest, calm, conditions, laid).
  DERIVED. THE GIVEN ROWS OF THIS SEAT. 10 by the template 'for every input the law returns true; each argument reads behind the call as it read before'; 0 by the template 'total and deterministic' (their statements: YtejdjpjaahfnaaaTotals.lean).
  GIVEN WITH THE SEED: the statements are not yours to turn. If you find one false, say at which input.
  Laid BY PROGRAM, IN A SANDBOX (cutbox-rows.mjs): the forced cells as the released guide's own fill.sh prints them over the translation 0a1a8a06ea637b34… (all of the seat's roots in one cut). By AI agents, Wed Nov 11 2026. No macro, syntax, notation, axiom, sorry.
-/
import Derived.Test.YtejdjpjaahfnaaaChecked
import GoSem.Claim
import GoSem.ClaimJoined
import GoSem.ClaimMapViews
import Derived.JoinedTies
import Derived.KernelRfl
namespace Go.Proofs.Ytejdjpjaahfnaaa
/- THE CELL 'sum', in the pinned program and in every row, IS THE sha256 OF THE DUMP (.gsa) THAT YtejdjpjaahfnaaaProg.lean LOADS. Nothing in Lean hashes anything: it is a label: what it is worth is what the hold of that sum in a sandbox is worth. -/
noncomputable def Try.pinned : Pinned := { name := "ytejdjpjaahfnaaa", sum := "0a1a8a06ea637b34a4e464fb8e6e2fe1d0fa92e1521fadc4a1aa20dd4bf4c333", checked := Try.checked }
namespace Rows
def none {H : Type} : Left H := { results := [], args := [] }

/-- 'quicklimelaw13.RootTells': WHATEVER THE INPUT: true; the input reads as it did. -/
def rootTellsSpec : ChangeSpec := { name := "rootTells", fn := fun _ => fun
  | [d1, d2] => { results := [.lit (.bool true)], args := [d1, d2] }
  | _ => none }
def rootTellsRow : OpenClaim := { program := "ytejdjpjaahfnaaa", sum := "0a1a8a06ea637b34a4e464fb8e6e2fe1d0fa92e1521fadc4a1aa20dd4bf4c333", func := "quicklime/quicklimelaw13.RootTells", spec := "rootTells", unfollowed := true, recurses := true, apart := false }
def RootTellsSaid : Prop := rootTellsRow.holds Try.pinned (OpenSpec.ofChange rootTellsSpec)

/-- ITS FALSE NEIGHBOUR: 'it returns false'. Refute it at one input. -/
def rootTellsWrong : ChangeSpec := { name := "rootTells", fn := fun _ => fun
  | [d1, d2] => { results := [.lit (.bool false)], args := [d1, d2] }
  | _ => none }
def RootTellsWrongFalsely : Prop := rootTellsRow.holds Try.pinned (OpenSpec.ofChange rootTellsWrong)

/-- 'quicklimelaw13.RootBack': WHATEVER THE INPUT: true; the input reads as it did. -/
def rootBackSpec : ChangeSpec := { name := "rootBack", fn := fun _ => fun
  | [d1, d2] => { results := [.lit (.bool true)], args := [d1, d2] }
  | _ => none }
def rootBackRow : OpenClaim := { program := "ytejdjpjaahfnaaa", sum := "0a1a8a06ea637b34a4e464fb8e6e2fe1d0fa92e1521fadc4a1aa20dd4bf4c333", func := "quicklime/quicklimelaw13.RootBack", spec := "rootBack", unfollowed := true, recurses := true, apart := false }
def RootBackSaid : Prop := rootBackRow.holds Try.pinned (OpenSpec.ofChange rootBackSpec)

/-- ITS FALSE NEIGHBOUR: 'it returns false'. Refute it at one input. -/
def rootBackWrong : ChangeSpec := { name := "rootBack", fn := fun _ => fun
  | [d1, d2] => { results := [.lit (.bool false)], args := [d1, d2] }
  | _ => none }
def RootBackWrongFalsely : Prop := rootBackRow.holds Try.pinned (OpenSpec.ofChange rootBackWrong)

/-- 'quicklimelaw13.RootTurns': WHATEVER THE INPUT: true; the input reads as it did. -/
def rootTurnsSpec : ChangeSpec := { name := "rootTurns", fn := fun _ => fun
  | [d1, d2, d3] => { results := [.lit (.bool true)], args := [d1, d2, d3] }
  | _ => none }
def rootTurnsRow : OpenClaim := { program := "ytejdjpjaahfnaaa", sum := "0a1a8a06ea637b34a4e464fb8e6e2fe1d0fa92e1521fadc4a1aa20dd4bf4c333", func := "quicklime/quicklimelaw13.RootTurns", spec := "rootTurns", unfollowed := true, recurses := true, apart := false }
def RootTurnsSaid : Prop := rootTurnsRow.holds Try.pinned (OpenSpec.ofChange rootTurnsSpec)

/-- ITS FALSE NEIGHBOUR: 'it returns false'. Refute it at one input. -/
def rootTurnsWrong : ChangeSpec := { name := "rootTurns", fn := fun _ => fun
  | [d1, d2, d3] => { results := [.lit (.bool false)], args := [d1, d2, d3] }
  | _ => none }
def RootTurnsWrongFalsely : Prop := rootTurnsRow.holds Try.pinned (OpenSpec.ofChange rootTurnsWrong)

/-- 'quicklimelaw13.RootApart': WHATEVER THE INPUT: true; the input reads as it did. -/
def rootApartSpec : ChangeSpec := { name := "rootApart", fn := fun _ => fun
  | [d1, d2] => { results := [.lit (.bool true)], args := [d1, d2] }
  | _ => none }
def rootApartRow : OpenClaim := { program := "ytejdjpjaahfnaaa", sum := "0a1a8a06ea637b34a4e464fb8e6e2fe1d0fa92e1521fadc4a1aa20dd4bf4c333", func := "quicklime/quicklimelaw13.RootApart", spec := "rootApart", unfollowed := true, recurses := true, apart := false }
def RootApartSaid : Prop := rootApartRow.holds Try.pinned (OpenSpec.ofChange rootApartSpec)

/-- ITS FALSE NEIGHBOUR: 'it returns false'. Refute it at one input. -/
def rootApartWrong : ChangeSpec := { name := "rootApart", fn := fun _ => fun
  | [d1, d2] => { results := [.lit (.bool false)], args := [d1, d2] }
  | _ => none }
def RootApartWrongFalsely : Prop := rootApartRow.holds Try.pinned (OpenSpec.ofChange rootApartWrong)

/-- 'quicklimelaw13.RootFresh': WHATEVER THE INPUT: true; the input reads as it did. -/
def rootFreshSpec : ChangeSpec := { name := "rootFresh", fn := fun _ => fun
  | [d1, d2] => { results := [.lit (.bool true)], args := [d1, d2] }
  | _ => none }
def rootFreshRow : OpenClaim := { program := "ytejdjpjaahfnaaa", sum := "0a1a8a06ea637b34a4e464fb8e6e2fe1d0fa92e1521fadc4a1aa20dd4bf4c333", func := "quicklime/quicklimelaw13.RootFresh", spec := "rootFresh", unfollowed := true, recurses := true, apart := false }
def RootFreshSaid : Prop := rootFreshRow.holds Try.pinned (OpenSpec.ofChange rootFreshSpec)

/-- ITS FALSE NEIGHBOUR: 'it returns false'. Refute it at one input. -/
def rootFreshWrong : ChangeSpec := { name := "rootFresh", fn := fun _ => fun
  | [d1, d2] => { results := [.lit (.bool false)], args := [d1, d2] }
  | _ => none }
def RootFreshWrongFalsely : Prop := rootFreshRow.holds Try.pinned (OpenSpec.ofChange rootFreshWrong)

/-- 'quicklimelaw14.SlotTwice': WHATEVER THE INPUT: true; the input reads as it did. -/
def slotTwiceSpec : ChangeSpec := { name := "slotTwice", fn := fun _ => fun
  | [d1, d2, d3, d4] => { results := [.lit (.bool true)], args := [d1, d2, d3, d4] }
  | _ => none }
def slotTwiceRow : OpenClaim := { program := "ytejdjpjaahfnaaa", sum := "0a1a8a06ea637b34a4e464fb8e6e2fe1d0fa92e1521fadc4a1aa20dd4bf4c333", func := "quicklime/quicklimelaw14.SlotTwice", spec := "slotTwice", unfollowed := true, recurses := true, apart := false }
def SlotTwiceSaid : Prop := slotTwiceRow.holds Try.pinned (OpenSpec.ofChange slotTwiceSpec)

/-- ITS FALSE NEIGHBOUR: 'it returns false'. Refute it at one input. -/
def slotTwiceWrong : ChangeSpec := { name := "slotTwice", fn := fun _ => fun
  | [d1, d2, d3, d4] => { results := [.lit (.bool false)], args := [d1, d2, d3, d4] }
  | _ => none }
def SlotTwiceWrongFalsely : Prop := slotTwiceRow.holds Try.pinned (OpenSpec.ofChange slotTwiceWrong)

/-- 'quicklimelaw14.SlotCrashes': WHATEVER THE INPUT: true; the input reads as it did. -/
def slotCrashesSpec : ChangeSpec := { name := "slotCrashes", fn := fun _ => fun
  | [d1, d2, d3, d4, d5] => { results := [.lit (.bool true)], args := [d1, d2, d3, d4, d5] }
  | _ => none }
def slotCrashesRow : OpenClaim := { program := "ytejdjpjaahfnaaa", sum := "0a1a8a06ea637b34a4e464fb8e6e2fe1d0fa92e1521fadc4a1aa20dd4bf4c333", func := "quicklime/quicklimelaw14.SlotCrashes", spec := "slotCrashes", unfollowed := true, recurses := true, apart := false }
def SlotCrashesSaid : Prop := slotCrashesRow.holds Try.pinned (OpenSpec.ofChange slotCrashesSpec)

/-- ITS FALSE NEIGHBOUR: 'it returns false'. Refute it at one input. -/
def slotCrashesWrong : ChangeSpec := { name := "slotCrashes", fn := fun _ => fun
  | [d1, d2, d3, d4, d5] => { results := [.lit (.bool false)], args := [d1, d2, d3, d4, d5] }
  | _ => none }
def SlotCrashesWrongFalsely : Prop := slotCrashesRow.holds Try.pinned (OpenSpec.ofChange slotCrashesWrong)

/-- 'quicklimelaw14.SlotTells': WHATEVER THE INPUT: true; the input reads as it did. -/
def slotTellsSpec : ChangeSpec := { name := "slotTells", fn := fun _ => fun
  | [d1, d2, d3, d4] => { results := [.lit (.bool true)], args := [d1, d2, d3, d4] }
  | _ => none }
def slotTellsRow : OpenClaim := { program := "ytejdjpjaahfnaaa", sum := "0a1a8a06ea637b34a4e464fb8e6e2fe1d0fa92e1521fadc4a1aa20dd4bf4c333", func := "quicklime/quicklimelaw14.SlotTells", spec := "slotTells", unfollowed := true, recurses := true, apart := false }
def SlotTellsSaid : Prop := slotTellsRow.holds Try.pinned (OpenSpec.ofChange slotTellsSpec)

/-- ITS FALSE NEIGHBOUR: 'it returns false'. Refute it at one input. -/
def slotTellsWrong : ChangeSpec := { name := "slotTells", fn := fun _ => fun
  | [d1, d2, d3, d4] => { results := [.lit (.bool false)], args := [d1, d2, d3, d4] }
  | _ => none }
def SlotTellsWrongFalsely : Prop := slotTellsRow.holds Try.pinned (OpenSpec.ofChange slotTellsWrong)

/-- 'quicklimelaw14.SlotFirst': WHATEVER THE INPUT: true; the input reads as it did. -/
def slotFirstSpec : ChangeSpec := { name := "slotFirst", fn := fun _ => fun
  | [d1, d2, d3] => { results := [.lit (.bool true)], args := [d1, d2, d3] }
  | _ => none }
def slotFirstRow : OpenClaim := { program := "ytejdjpjaahfnaaa", sum := "0a1a8a06ea637b34a4e464fb8e6e2fe1d0fa92e1521fadc4a1aa20dd4bf4c333", func := "quicklime/quicklimelaw14.SlotFirst", spec := "slotFirst", unfollowed := true, recurses := true, apart := false }
def SlotFirstSaid : Prop := slotFirstRow.holds Try.pinned (OpenSpec.ofChange slotFirstSpec)

/-- ITS FALSE NEIGHBOUR: 'it returns false'. Refute it at one input. -/
def slotFirstWrong : ChangeSpec := { name := "slotFirst", fn := fun _ => fun
  | [d1, d2, d3] => { results := [.lit (.bool false)], args := [d1, d2, d3] }
  | _ => none }
def SlotFirstWrongFalsely : Prop := slotFirstRow.holds Try.pinned (OpenSpec.ofChange slotFirstWrong)

/-- 'quicklimelaw14.SlotNone': WHATEVER THE INPUT: true; the input reads as it did. -/
def slotNoneSpec : ChangeSpec := { name := "slotNone", fn := fun _ => fun
  | [d1, d2, d3] => { results := [.lit (.bool true)], args := [d1, d2, d3] }
  | _ => none }
def slotNoneRow : OpenClaim := { program := "ytejdjpjaahfnaaa", sum := "0a1a8a06ea637b34a4e464fb8e6e2fe1d0fa92e1521fadc4a1aa20dd4bf4c333", func := "quicklime/quicklimelaw14.SlotNone", spec := "slotNone", unfollowed := true, recurses := true, apart := false }
def SlotNoneSaid : Prop := slotNoneRow.holds Try.pinned (OpenSpec.ofChange slotNoneSpec)

/-- ITS FALSE NEIGHBOUR: 'it returns false'. Refute it at one input. -/
def slotNoneWrong : ChangeSpec := { name := "slotNone", fn := fun _ => fun
  | [d1, d2, d3] => { results := [.lit (.bool false)], args := [d1, d2, d3] }
  | _ => none }
def SlotNoneWrongFalsely : Prop := slotNoneRow.holds Try.pinned (OpenSpec.ofChange slotNoneWrong)

/- THE SECOND FORM. 'bulk': how many values and letters a reading holds, each counted each time it is reached (what is shared counts as often as it is met; a slice's spare places count too). A statement '..UptoSaid' is the law's where the arguments, and the package variables that the reading takes, are together of bulk at most 1048576: NARROWER than '..Said'. Prove '..Said' where nothing that the law and all that it calls make is longer than what came in: it says more and counts as full. Else prove '..UptoSaid'. A law counts once. -/
mutual
def uptoBulk {H : Type} : DataW H → Nat
  | .lit (.string bytes) => bytes.length + 1
  | .lit _ => 1
  | .nil => 1
  | .ptr d => uptoBulk d + 1
  | .slice elems spare => uptoBulkAll elems + uptoBulkAll spare + 1
  | .agg parts => uptoBulkAll parts + 1
  | .iface _ d => uptoBulk d + 1
  | .map entries => uptoBulkEntries entries + 1
  | .held _ => 1
def uptoBulkAll {H : Type} : List (DataW H) → Nat
  | [] => 0
  | d :: r => uptoBulk d + uptoBulkAll r
def uptoBulkEntries {H : Type} : List (Lit × DataW H) → Nat
  | [] => 0
  | x :: r => uptoBulkEntry x + uptoBulkEntries r
def uptoBulkEntry {H : Type} : Lit × DataW H → Nat
  | (.string bytes, d) => bytes.length + uptoBulk d + 1
  | (_, d) => uptoBulk d + 1
 end
def uptoSmall : (H : Type) → List (DataW H) → Bool := fun _ ds => decide (uptoBulkAll ds ≤ 1048576)
def OpenSpec.upto (s : _root_.Go.ChangeSpec) : _root_.Go.OpenSpec := { _root_.Go.OpenSpec.ofChange s with cond := some uptoSmall }

/-- 'quicklimelaw13.RootTells', WHERE WHAT IT READS IS OF BULK AT MOST 1048576: true; the input reads as it did. -/
def rootTellsUptoRow : OpenClaim := { program := "ytejdjpjaahfnaaa", sum := "0a1a8a06ea637b34a4e464fb8e6e2fe1d0fa92e1521fadc4a1aa20dd4bf4c333", func := "quicklime/quicklimelaw13.RootTells", spec := "rootTells", unfollowed := true, recurses := true, apart := false, narrowed := true }
def RootTellsUptoSaid : Prop := rootTellsUptoRow.holds Try.pinned (OpenSpec.upto rootTellsSpec)

/-- 'quicklimelaw13.RootBack', WHERE WHAT IT READS IS OF BULK AT MOST 1048576: true; the input reads as it did. -/
def rootBackUptoRow : OpenClaim := { program := "ytejdjpjaahfnaaa", sum := "0a1a8a06ea637b34a4e464fb8e6e2fe1d0fa92e1521fadc4a1aa20dd4bf4c333", func := "quicklime/quicklimelaw13.RootBack", spec := "rootBack", unfollowed := true, recurses := true, apart := false, narrowed := true }
def RootBackUptoSaid : Prop := rootBackUptoRow.holds Try.pinned (OpenSpec.upto rootBackSpec)

/-- 'quicklimelaw13.RootTurns', WHERE WHAT IT READS IS OF BULK AT MOST 1048576: true; the input reads as it did. -/
def rootTurnsUptoRow : OpenClaim := { program := "ytejdjpjaahfnaaa", sum := "0a1a8a06ea637b34a4e464fb8e6e2fe1d0fa92e1521fadc4a1aa20dd4bf4c333", func := "quicklime/quicklimelaw13.RootTurns", spec := "rootTurns", unfollowed := true, recurses := true, apart := false, narrowed := true }
def RootTurnsUptoSaid : Prop := rootTurnsUptoRow.holds Try.pinned (OpenSpec.upto rootTurnsSpec)

/-- 'quicklimelaw13.RootApart', WHERE WHAT IT READS IS OF BULK AT MOST 1048576: true; the input reads as it did. -/
def rootApartUptoRow : OpenClaim := { program := "ytejdjpjaahfnaaa", sum := "0a1a8a06ea637b34a4e464fb8e6e2fe1d0fa92e1521fadc4a1aa20dd4bf4c333", func := "quicklime/quicklimelaw13.RootApart", spec := "rootApart", unfollowed := true, recurses := true, apart := false, narrowed := true }
def RootApartUptoSaid : Prop := rootApartUptoRow.holds Try.pinned (OpenSpec.upto rootApartSpec)

/-- 'quicklimelaw13.RootFresh', WHERE WHAT IT READS IS OF BULK AT MOST 1048576: true; the input reads as it did. -/
def rootFreshUptoRow : OpenClaim := { program := "ytejdjpjaahfnaaa", sum := "0a1a8a06ea637b34a4e464fb8e6e2fe1d0fa92e1521fadc4a1aa20dd4bf4c333", func := "quicklime/quicklimelaw13.RootFresh", spec := "rootFresh", unfollowed := true, recurses := true, apart := false, narrowed := true }
def RootFreshUptoSaid : Prop := rootFreshUptoRow.holds Try.pinned (OpenSpec.upto rootFreshSpec)

/-- 'quicklimelaw14.SlotTwice', WHERE WHAT IT READS IS OF BULK AT MOST 1048576: true; the input reads as it did. -/
def slotTwiceUptoRow : OpenClaim := { program := "ytejdjpjaahfnaaa", sum := "0a1a8a06ea637b34a4e464fb8e6e2fe1d0fa92e1521fadc4a1aa20dd4bf4c333", func := "quicklime/quicklimelaw14.SlotTwice", spec := "slotTwice", unfollowed := true, recurses := true, apart := false, narrowed := true }
def SlotTwiceUptoSaid : Prop := slotTwiceUptoRow.holds Try.pinned (OpenSpec.upto slotTwiceSpec)

/-- 'quicklimelaw14.SlotCrashes', WHERE WHAT IT READS IS OF BULK AT MOST 1048576: true; the input reads as it did. -/
def slotCrashesUptoRow : OpenClaim := { program := "ytejdjpjaahfnaaa", sum := "0a1a8a06ea637b34a4e464fb8e6e2fe1d0fa92e1521fadc4a1aa20dd4bf4c333", func := "quicklime/quicklimelaw14.SlotCrashes", spec := "slotCrashes", unfollowed := true, recurses := true, apart := false, narrowed := true }
def SlotCrashesUptoSaid : Prop := slotCrashesUptoRow.holds Try.pinned (OpenSpec.upto slotCrashesSpec)

/-- 'quicklimelaw14.SlotTells', WHERE WHAT IT READS IS OF BULK AT MOST 1048576: true; the input reads as it did. -/
def slotTellsUptoRow : OpenClaim := { program := "ytejdjpjaahfnaaa", sum := "0a1a8a06ea637b34a4e464fb8e6e2fe1d0fa92e1521fadc4a1aa20dd4bf4c333", func := "quicklime/quicklimelaw14.SlotTells", spec := "slotTells", unfollowed := true, recurses := true, apart := false, narrowed := true }
def SlotTellsUptoSaid : Prop := slotTellsUptoRow.holds Try.pinned (OpenSpec.upto slotTellsSpec)

/-- 'quicklimelaw14.SlotFirst', WHERE WHAT IT READS IS OF BULK AT MOST 1048576: true; the input reads as it did. -/
def slotFirstUptoRow : OpenClaim := { program := "ytejdjpjaahfnaaa", sum := "0a1a8a06ea637b34a4e464fb8e6e2fe1d0fa92e1521fadc4a1aa20dd4bf4c333", func := "quicklime/quicklimelaw14.SlotFirst", spec := "slotFirst", unfollowed := true, recurses := true, apart := false, narrowed := true }
def SlotFirstUptoSaid : Prop := slotFirstUptoRow.holds Try.pinned (OpenSpec.upto slotFirstSpec)

/-- 'quicklimelaw14.SlotNone', WHERE WHAT IT READS IS OF BULK AT MOST 1048576: true; the input reads as it did. -/
def slotNoneUptoRow : OpenClaim := { program := "ytejdjpjaahfnaaa", sum := "0a1a8a06ea637b34a4e464fb8e6e2fe1d0fa92e1521fadc4a1aa20dd4bf4c333", func := "quicklime/quicklimelaw14.SlotNone", spec := "slotNone", unfollowed := true, recurses := true, apart := false, narrowed := true }
def SlotNoneUptoSaid : Prop := slotNoneUptoRow.holds Try.pinned (OpenSpec.upto slotNoneSpec)

end Rows
end Go.Proofs.Ytejdjpjaahfnaaa
