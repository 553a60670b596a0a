/-
  No cell of these rows narrows 'for every input' (looked for: loops, veiled, ifaces, maps, wideKeys, modest, calm, conditions, laid).
  DERIVED. THE GIVEN ROWS OF THIS SEAT. 11 by the template 'for every input the law returns true; each argument reads behind the call as it read before'; 0 by the template 'total and deterministic' (their statements: YtakolnamobkkkaaTotals.lean).
  GIVEN WITH THE SEED: the statements are not yours to turn. If you find one false, say at which input.
  Laid BY PROGRAM, IN A SANDBOX (cutbox-rows.mjs): the forced cells as the released guide's own fill.sh prints them over the translation 038c3579082bddb8… (all of the seat's roots in one cut). By AI agents, Wed Nov 11 2026. No macro, syntax, notation, axiom, sorry.
-/
import Derived.Test.YtakolnamobkkkaaChecked
import GoSem.Claim
import GoSem.ClaimJoined
import GoSem.ClaimMapViews
import Derived.JoinedTies
import Derived.KernelRfl
namespace Go.Proofs.Ytakolnamobkkkaa
/- THE CELL 'sum', in the pinned program and in every row, IS THE sha256 OF THE DUMP (.gsa) THAT YtakolnamobkkkaaProg.lean LOADS. Nothing in Lean hashes anything: it is a label: what it is worth is what the hold of that sum in a sandbox is worth. -/
noncomputable def Try.pinned : Pinned := { name := "ytakolnamobkkkaa", sum := "038c3579082bddb82eb6c24716414efba1a4e87c21fafc10e73115b359a5178b", checked := Try.checked }
namespace Rows
def none {H : Type} : Left H := { results := [], args := [] }

/-- 'salvorlaw4.FrameReads': WHATEVER THE INPUT: true; the input reads as it did. -/
def frameReadsSpec : ChangeSpec := { name := "frameReads", fn := fun _ => fun
  | [d1, d2] => { results := [.lit (.bool true)], args := [d1, d2] }
  | _ => none }
def frameReadsRow : OpenClaim := { program := "ytakolnamobkkkaa", sum := "038c3579082bddb82eb6c24716414efba1a4e87c21fafc10e73115b359a5178b", func := "salvor/salvorlaw4.FrameReads", spec := "frameReads", inPlace := ["internal/bytealg.Count", "internal/bytealg.IndexByte", "internal/bytealg.Index"], unfollowed := true, recurses := true, named := ["internal/bytealg.MaxLen"], apart := false }
def FrameReadsSaid : Prop := frameReadsRow.holds Try.pinned (OpenSpec.ofChange frameReadsSpec)

/-- ITS FALSE NEIGHBOUR: 'it returns false'. Refute it at one input. -/
def frameReadsWrong : ChangeSpec := { name := "frameReads", fn := fun _ => fun
  | [d1, d2] => { results := [.lit (.bool false)], args := [d1, d2] }
  | _ => none }
def FrameReadsWrongFalsely : Prop := frameReadsRow.holds Try.pinned (OpenSpec.ofChange frameReadsWrong)

/-- 'salvorlaw4.FrameBack': WHATEVER THE INPUT: true; the input reads as it did. -/
def frameBackSpec : ChangeSpec := { name := "frameBack", fn := fun _ => fun
  | [d1, d2, d3] => { results := [.lit (.bool true)], args := [d1, d2, d3] }
  | _ => none }
def frameBackRow : OpenClaim := { program := "ytakolnamobkkkaa", sum := "038c3579082bddb82eb6c24716414efba1a4e87c21fafc10e73115b359a5178b", func := "salvor/salvorlaw4.FrameBack", spec := "frameBack", inPlace := ["internal/bytealg.Count", "internal/bytealg.IndexByte", "internal/bytealg.Index"], unfollowed := true, recurses := true, named := ["internal/bytealg.MaxLen"], apart := false }
def FrameBackSaid : Prop := frameBackRow.holds Try.pinned (OpenSpec.ofChange frameBackSpec)

/-- ITS FALSE NEIGHBOUR: 'it returns false'. Refute it at one input. -/
def frameBackWrong : ChangeSpec := { name := "frameBack", fn := fun _ => fun
  | [d1, d2, d3] => { results := [.lit (.bool false)], args := [d1, d2, d3] }
  | _ => none }
def FrameBackWrongFalsely : Prop := frameBackRow.holds Try.pinned (OpenSpec.ofChange frameBackWrong)

/-- 'salvorlaw4.FrameOnce': WHATEVER THE INPUT: true; the input reads as it did. -/
def frameOnceSpec : ChangeSpec := { name := "frameOnce", fn := fun _ => fun
  | [d1, d2] => { results := [.lit (.bool true)], args := [d1, d2] }
  | _ => none }
def frameOnceRow : OpenClaim := { program := "ytakolnamobkkkaa", sum := "038c3579082bddb82eb6c24716414efba1a4e87c21fafc10e73115b359a5178b", func := "salvor/salvorlaw4.FrameOnce", spec := "frameOnce", inPlace := ["internal/bytealg.Count", "internal/bytealg.IndexByte", "internal/bytealg.Index"], unfollowed := true, recurses := true, named := ["internal/bytealg.MaxLen"], apart := false }
def FrameOnceSaid : Prop := frameOnceRow.holds Try.pinned (OpenSpec.ofChange frameOnceSpec)

/-- ITS FALSE NEIGHBOUR: 'it returns false'. Refute it at one input. -/
def frameOnceWrong : ChangeSpec := { name := "frameOnce", fn := fun _ => fun
  | [d1, d2] => { results := [.lit (.bool false)], args := [d1, d2] }
  | _ => none }
def FrameOnceWrongFalsely : Prop := frameOnceRow.holds Try.pinned (OpenSpec.ofChange frameOnceWrong)

/-- 'salvorlaw4.FrameApart': WHATEVER THE INPUT: true; the input reads as it did. -/
def frameApartSpec : ChangeSpec := { name := "frameApart", fn := fun _ => fun
  | [d1, d2, d3] => { results := [.lit (.bool true)], args := [d1, d2, d3] }
  | _ => none }
def frameApartRow : OpenClaim := { program := "ytakolnamobkkkaa", sum := "038c3579082bddb82eb6c24716414efba1a4e87c21fafc10e73115b359a5178b", func := "salvor/salvorlaw4.FrameApart", spec := "frameApart", inPlace := ["internal/bytealg.Count", "internal/bytealg.IndexByte", "internal/bytealg.Index"], unfollowed := true, recurses := true, named := ["internal/bytealg.MaxLen"], apart := false }
def FrameApartSaid : Prop := frameApartRow.holds Try.pinned (OpenSpec.ofChange frameApartSpec)

/-- ITS FALSE NEIGHBOUR: 'it returns false'. Refute it at one input. -/
def frameApartWrong : ChangeSpec := { name := "frameApart", fn := fun _ => fun
  | [d1, d2, d3] => { results := [.lit (.bool false)], args := [d1, d2, d3] }
  | _ => none }
def FrameApartWrongFalsely : Prop := frameApartRow.holds Try.pinned (OpenSpec.ofChange frameApartWrong)

/-- 'salvorlaw4.FrameCut': WHATEVER THE INPUT: true; the input reads as it did. -/
def frameCutSpec : ChangeSpec := { name := "frameCut", fn := fun _ => fun
  | [d1, d2] => { results := [.lit (.bool true)], args := [d1, d2] }
  | _ => none }
def frameCutRow : OpenClaim := { program := "ytakolnamobkkkaa", sum := "038c3579082bddb82eb6c24716414efba1a4e87c21fafc10e73115b359a5178b", func := "salvor/salvorlaw4.FrameCut", spec := "frameCut", inPlace := ["internal/bytealg.Count", "internal/bytealg.IndexByte", "internal/bytealg.Index"], unfollowed := true, recurses := true, named := ["internal/bytealg.MaxLen"], apart := false }
def FrameCutSaid : Prop := frameCutRow.holds Try.pinned (OpenSpec.ofChange frameCutSpec)

/-- ITS FALSE NEIGHBOUR: 'it returns false'. Refute it at one input. -/
def frameCutWrong : ChangeSpec := { name := "frameCut", fn := fun _ => fun
  | [d1, d2] => { results := [.lit (.bool false)], args := [d1, d2] }
  | _ => none }
def FrameCutWrongFalsely : Prop := frameCutRow.holds Try.pinned (OpenSpec.ofChange frameCutWrong)

/-- 'salvorlaw4.FrameHit': WHATEVER THE INPUT: true; the input reads as it did. -/
def frameHitSpec : ChangeSpec := { name := "frameHit", fn := fun _ => fun
  | [d1, d2, d3, d4, d5] => { results := [.lit (.bool true)], args := [d1, d2, d3, d4, d5] }
  | _ => none }
def frameHitRow : OpenClaim := { program := "ytakolnamobkkkaa", sum := "038c3579082bddb82eb6c24716414efba1a4e87c21fafc10e73115b359a5178b", func := "salvor/salvorlaw4.FrameHit", spec := "frameHit", inPlace := ["internal/bytealg.Count", "internal/bytealg.IndexByte", "internal/bytealg.Index"], unfollowed := true, recurses := true, named := ["internal/bytealg.MaxLen"], apart := false }
def FrameHitSaid : Prop := frameHitRow.holds Try.pinned (OpenSpec.ofChange frameHitSpec)

/-- ITS FALSE NEIGHBOUR: 'it returns false'. Refute it at one input. -/
def frameHitWrong : ChangeSpec := { name := "frameHit", fn := fun _ => fun
  | [d1, d2, d3, d4, d5] => { results := [.lit (.bool false)], args := [d1, d2, d3, d4, d5] }
  | _ => none }
def FrameHitWrongFalsely : Prop := frameHitRow.holds Try.pinned (OpenSpec.ofChange frameHitWrong)

/-- 'salvorlaw4.FrameForged': WHATEVER THE INPUT: true; the input reads as it did. -/
def frameForgedSpec : ChangeSpec := { name := "frameForged", fn := fun _ => fun
  | [d] => { results := [.lit (.bool true)], args := [d] }
  | _ => none }
def frameForgedRow : OpenClaim := { program := "ytakolnamobkkkaa", sum := "038c3579082bddb82eb6c24716414efba1a4e87c21fafc10e73115b359a5178b", func := "salvor/salvorlaw4.FrameForged", spec := "frameForged", inPlace := ["internal/bytealg.Count", "internal/bytealg.IndexByte", "internal/bytealg.Index"], unfollowed := true, recurses := true, named := ["internal/bytealg.MaxLen"], apart := false }
def FrameForgedSaid : Prop := frameForgedRow.holds Try.pinned (OpenSpec.ofChange frameForgedSpec)

/-- ITS FALSE NEIGHBOUR: 'it returns false'. Refute it at one input. -/
def frameForgedWrong : ChangeSpec := { name := "frameForged", fn := fun _ => fun
  | [d] => { results := [.lit (.bool false)], args := [d] }
  | _ => none }
def FrameForgedWrongFalsely : Prop := frameForgedRow.holds Try.pinned (OpenSpec.ofChange frameForgedWrong)

/-- 'salvorlaw4.FrameWrites': WHATEVER THE INPUT: true; the input reads as it did. -/
def frameWritesSpec : ChangeSpec := { name := "frameWrites", fn := fun _ => fun
  | [d] => { results := [.lit (.bool true)], args := [d] }
  | _ => none }
def frameWritesRow : OpenClaim := { program := "ytakolnamobkkkaa", sum := "038c3579082bddb82eb6c24716414efba1a4e87c21fafc10e73115b359a5178b", func := "salvor/salvorlaw4.FrameWrites", spec := "frameWrites", inPlace := ["internal/bytealg.Count", "internal/bytealg.IndexByte", "internal/bytealg.Index"], unfollowed := true, recurses := true, named := ["internal/bytealg.MaxLen"], apart := false }
def FrameWritesSaid : Prop := frameWritesRow.holds Try.pinned (OpenSpec.ofChange frameWritesSpec)

/-- ITS FALSE NEIGHBOUR: 'it returns false'. Refute it at one input. -/
def frameWritesWrong : ChangeSpec := { name := "frameWrites", fn := fun _ => fun
  | [d] => { results := [.lit (.bool false)], args := [d] }
  | _ => none }
def FrameWritesWrongFalsely : Prop := frameWritesRow.holds Try.pinned (OpenSpec.ofChange frameWritesWrong)

/-- 'salvorlaw4.FrameOrders': WHATEVER THE INPUT: true; the input reads as it did. -/
def frameOrdersSpec : ChangeSpec := { name := "frameOrders", fn := fun _ => fun
  | [d1, d2] => { results := [.lit (.bool true)], args := [d1, d2] }
  | _ => none }
def frameOrdersRow : OpenClaim := { program := "ytakolnamobkkkaa", sum := "038c3579082bddb82eb6c24716414efba1a4e87c21fafc10e73115b359a5178b", func := "salvor/salvorlaw4.FrameOrders", spec := "frameOrders", inPlace := ["internal/bytealg.Count", "internal/bytealg.IndexByte", "internal/bytealg.Index", "internal/bytealg.Compare"], unfollowed := true, recurses := true, named := ["internal/bytealg.MaxLen"], apart := false }
def FrameOrdersSaid : Prop := frameOrdersRow.holds Try.pinned (OpenSpec.ofChange frameOrdersSpec)

/-- ITS FALSE NEIGHBOUR: 'it returns false'. Refute it at one input. -/
def frameOrdersWrong : ChangeSpec := { name := "frameOrders", fn := fun _ => fun
  | [d1, d2] => { results := [.lit (.bool false)], args := [d1, d2] }
  | _ => none }
def FrameOrdersWrongFalsely : Prop := frameOrdersRow.holds Try.pinned (OpenSpec.ofChange frameOrdersWrong)

/-- 'salvorlaw4.FrameRanks': WHATEVER THE INPUT: true; the input reads as it did. -/
def frameRanksSpec : ChangeSpec := { name := "frameRanks", fn := fun _ => fun
  | [d1, d2, d3] => { results := [.lit (.bool true)], args := [d1, d2, d3] }
  | _ => none }
def frameRanksRow : OpenClaim := { program := "ytakolnamobkkkaa", sum := "038c3579082bddb82eb6c24716414efba1a4e87c21fafc10e73115b359a5178b", func := "salvor/salvorlaw4.FrameRanks", spec := "frameRanks", inPlace := ["internal/bytealg.Count", "internal/bytealg.IndexByte", "internal/bytealg.Index", "internal/bytealg.Compare"], unfollowed := true, recurses := true, named := ["internal/bytealg.MaxLen"], apart := false }
def FrameRanksSaid : Prop := frameRanksRow.holds Try.pinned (OpenSpec.ofChange frameRanksSpec)

/-- ITS FALSE NEIGHBOUR: 'it returns false'. Refute it at one input. -/
def frameRanksWrong : ChangeSpec := { name := "frameRanks", fn := fun _ => fun
  | [d1, d2, d3] => { results := [.lit (.bool false)], args := [d1, d2, d3] }
  | _ => none }
def FrameRanksWrongFalsely : Prop := frameRanksRow.holds Try.pinned (OpenSpec.ofChange frameRanksWrong)

/-- 'salvortop.TopFrames': WHATEVER THE INPUT: true; the input reads as it did. -/
def topFramesSpec : ChangeSpec := { name := "topFrames", fn := fun _ => fun
  | [d1, d2, d3, d4, d5] => { results := [.lit (.bool true)], args := [d1, d2, d3, d4, d5] }
  | _ => none }
def topFramesRow : OpenClaim := { program := "ytakolnamobkkkaa", sum := "038c3579082bddb82eb6c24716414efba1a4e87c21fafc10e73115b359a5178b", func := "salvor/salvortop.TopFrames", spec := "topFrames", inPlace := ["internal/bytealg.Count", "internal/bytealg.IndexByte", "internal/bytealg.Index"], unfollowed := true, recurses := true, named := ["internal/bytealg.MaxLen"], apart := false }
def TopFramesSaid : Prop := topFramesRow.holds Try.pinned (OpenSpec.ofChange topFramesSpec)

/-- ITS FALSE NEIGHBOUR: 'it returns false'. Refute it at one input. -/
def topFramesWrong : ChangeSpec := { name := "topFrames", fn := fun _ => fun
  | [d1, d2, d3, d4, d5] => { results := [.lit (.bool false)], args := [d1, d2, d3, d4, d5] }
  | _ => none }
def TopFramesWrongFalsely : Prop := topFramesRow.holds Try.pinned (OpenSpec.ofChange topFramesWrong)

/- THE SECOND FORM. 'bulk': how many values and letters a reading holds, each counted each time it is reached (what is shared counts as often as it is met; a slice's spare places count too). A statement '..UptoSaid' is the law's where the arguments, and the package variables that the reading takes, are together of bulk at most 1048576: NARROWER than '..Said'. Prove '..Said' where nothing that the law and all that it calls make is longer than what came in: it says more and counts as full. Else prove '..UptoSaid'. A law counts once. -/
mutual
def uptoBulk {H : Type} : DataW H → Nat
  | .lit (.string bytes) => bytes.length + 1
  | .lit _ => 1
  | .nil => 1
  | .ptr d => uptoBulk d + 1
  | .slice elems spare => uptoBulkAll elems + uptoBulkAll spare + 1
  | .agg parts => uptoBulkAll parts + 1
  | .iface _ d => uptoBulk d + 1
  | .map entries => uptoBulkEntries entries + 1
  | .held _ => 1
def uptoBulkAll {H : Type} : List (DataW H) → Nat
  | [] => 0
  | d :: r => uptoBulk d + uptoBulkAll r
def uptoBulkEntries {H : Type} : List (Lit × DataW H) → Nat
  | [] => 0
  | x :: r => uptoBulkEntry x + uptoBulkEntries r
def uptoBulkEntry {H : Type} : Lit × DataW H → Nat
  | (.string bytes, d) => bytes.length + uptoBulk d + 1
  | (_, d) => uptoBulk d + 1
 end
def uptoSmall : (H : Type) → List (DataW H) → Bool := fun _ ds => decide (uptoBulkAll ds ≤ 1048576)
def OpenSpec.upto (s : _root_.Go.ChangeSpec) : _root_.Go.OpenSpec := { _root_.Go.OpenSpec.ofChange s with cond := some uptoSmall }

/-- 'salvorlaw4.FrameReads', WHERE WHAT IT READS IS OF BULK AT MOST 1048576: true; the input reads as it did. -/
def frameReadsUptoRow : OpenClaim := { program := "ytakolnamobkkkaa", sum := "038c3579082bddb82eb6c24716414efba1a4e87c21fafc10e73115b359a5178b", func := "salvor/salvorlaw4.FrameReads", spec := "frameReads", inPlace := ["internal/bytealg.Count", "internal/bytealg.IndexByte", "internal/bytealg.Index"], unfollowed := true, recurses := true, named := ["internal/bytealg.MaxLen"], apart := false, narrowed := true }
def FrameReadsUptoSaid : Prop := frameReadsUptoRow.holds Try.pinned (OpenSpec.upto frameReadsSpec)

/-- 'salvorlaw4.FrameBack', WHERE WHAT IT READS IS OF BULK AT MOST 1048576: true; the input reads as it did. -/
def frameBackUptoRow : OpenClaim := { program := "ytakolnamobkkkaa", sum := "038c3579082bddb82eb6c24716414efba1a4e87c21fafc10e73115b359a5178b", func := "salvor/salvorlaw4.FrameBack", spec := "frameBack", inPlace := ["internal/bytealg.Count", "internal/bytealg.IndexByte", "internal/bytealg.Index"], unfollowed := true, recurses := true, named := ["internal/bytealg.MaxLen"], apart := false, narrowed := true }
def FrameBackUptoSaid : Prop := frameBackUptoRow.holds Try.pinned (OpenSpec.upto frameBackSpec)

/-- 'salvorlaw4.FrameOnce', WHERE WHAT IT READS IS OF BULK AT MOST 1048576: true; the input reads as it did. -/
def frameOnceUptoRow : OpenClaim := { program := "ytakolnamobkkkaa", sum := "038c3579082bddb82eb6c24716414efba1a4e87c21fafc10e73115b359a5178b", func := "salvor/salvorlaw4.FrameOnce", spec := "frameOnce", inPlace := ["internal/bytealg.Count", "internal/bytealg.IndexByte", "internal/bytealg.Index"], unfollowed := true, recurses := true, named := ["internal/bytealg.MaxLen"], apart := false, narrowed := true }
def FrameOnceUptoSaid : Prop := frameOnceUptoRow.holds Try.pinned (OpenSpec.upto frameOnceSpec)

/-- 'salvorlaw4.FrameApart', WHERE WHAT IT READS IS OF BULK AT MOST 1048576: true; the input reads as it did. -/
def frameApartUptoRow : OpenClaim := { program := "ytakolnamobkkkaa", sum := "038c3579082bddb82eb6c24716414efba1a4e87c21fafc10e73115b359a5178b", func := "salvor/salvorlaw4.FrameApart", spec := "frameApart", inPlace := ["internal/bytealg.Count", "internal/bytealg.IndexByte", "internal/bytealg.Index"], unfollowed := true, recurses := true, named := ["internal/bytealg.MaxLen"], apart := false, narrowed := true }
def FrameApartUptoSaid : Prop := frameApartUptoRow.holds Try.pinned (OpenSpec.upto frameApartSpec)

/-- 'salvorlaw4.FrameCut', WHERE WHAT IT READS IS OF BULK AT MOST 1048576: true; the input reads as it did. -/
def frameCutUptoRow : OpenClaim := { program := "ytakolnamobkkkaa", sum := "038c3579082bddb82eb6c24716414efba1a4e87c21fafc10e73115b359a5178b", func := "salvor/salvorlaw4.FrameCut", spec := "frameCut", inPlace := ["internal/bytealg.Count", "internal/bytealg.IndexByte", "internal/bytealg.Index"], unfollowed := true, recurses := true, named := ["internal/bytealg.MaxLen"], apart := false, narrowed := true }
def FrameCutUptoSaid : Prop := frameCutUptoRow.holds Try.pinned (OpenSpec.upto frameCutSpec)

/-- 'salvorlaw4.FrameHit', WHERE WHAT IT READS IS OF BULK AT MOST 1048576: true; the input reads as it did. -/
def frameHitUptoRow : OpenClaim := { program := "ytakolnamobkkkaa", sum := "038c3579082bddb82eb6c24716414efba1a4e87c21fafc10e73115b359a5178b", func := "salvor/salvorlaw4.FrameHit", spec := "frameHit", inPlace := ["internal/bytealg.Count", "internal/bytealg.IndexByte", "internal/bytealg.Index"], unfollowed := true, recurses := true, named := ["internal/bytealg.MaxLen"], apart := false, narrowed := true }
def FrameHitUptoSaid : Prop := frameHitUptoRow.holds Try.pinned (OpenSpec.upto frameHitSpec)

/-- 'salvorlaw4.FrameForged', WHERE WHAT IT READS IS OF BULK AT MOST 1048576: true; the input reads as it did. -/
def frameForgedUptoRow : OpenClaim := { program := "ytakolnamobkkkaa", sum := "038c3579082bddb82eb6c24716414efba1a4e87c21fafc10e73115b359a5178b", func := "salvor/salvorlaw4.FrameForged", spec := "frameForged", inPlace := ["internal/bytealg.Count", "internal/bytealg.IndexByte", "internal/bytealg.Index"], unfollowed := true, recurses := true, named := ["internal/bytealg.MaxLen"], apart := false, narrowed := true }
def FrameForgedUptoSaid : Prop := frameForgedUptoRow.holds Try.pinned (OpenSpec.upto frameForgedSpec)

/-- 'salvorlaw4.FrameWrites', WHERE WHAT IT READS IS OF BULK AT MOST 1048576: true; the input reads as it did. -/
def frameWritesUptoRow : OpenClaim := { program := "ytakolnamobkkkaa", sum := "038c3579082bddb82eb6c24716414efba1a4e87c21fafc10e73115b359a5178b", func := "salvor/salvorlaw4.FrameWrites", spec := "frameWrites", inPlace := ["internal/bytealg.Count", "internal/bytealg.IndexByte", "internal/bytealg.Index"], unfollowed := true, recurses := true, named := ["internal/bytealg.MaxLen"], apart := false, narrowed := true }
def FrameWritesUptoSaid : Prop := frameWritesUptoRow.holds Try.pinned (OpenSpec.upto frameWritesSpec)

/-- 'salvorlaw4.FrameOrders', WHERE WHAT IT READS IS OF BULK AT MOST 1048576: true; the input reads as it did. -/
def frameOrdersUptoRow : OpenClaim := { program := "ytakolnamobkkkaa", sum := "038c3579082bddb82eb6c24716414efba1a4e87c21fafc10e73115b359a5178b", func := "salvor/salvorlaw4.FrameOrders", spec := "frameOrders", inPlace := ["internal/bytealg.Count", "internal/bytealg.IndexByte", "internal/bytealg.Index", "internal/bytealg.Compare"], unfollowed := true, recurses := true, named := ["internal/bytealg.MaxLen"], apart := false, narrowed := true }
def FrameOrdersUptoSaid : Prop := frameOrdersUptoRow.holds Try.pinned (OpenSpec.upto frameOrdersSpec)

/-- 'salvorlaw4.FrameRanks', WHERE WHAT IT READS IS OF BULK AT MOST 1048576: true; the input reads as it did. -/
def frameRanksUptoRow : OpenClaim := { program := "ytakolnamobkkkaa", sum := "038c3579082bddb82eb6c24716414efba1a4e87c21fafc10e73115b359a5178b", func := "salvor/salvorlaw4.FrameRanks", spec := "frameRanks", inPlace := ["internal/bytealg.Count", "internal/bytealg.IndexByte", "internal/bytealg.Index", "internal/bytealg.Compare"], unfollowed := true, recurses := true, named := ["internal/bytealg.MaxLen"], apart := false, narrowed := true }
def FrameRanksUptoSaid : Prop := frameRanksUptoRow.holds Try.pinned (OpenSpec.upto frameRanksSpec)

/-- 'salvortop.TopFrames', WHERE WHAT IT READS IS OF BULK AT MOST 1048576: true; the input reads as it did. -/
def topFramesUptoRow : OpenClaim := { program := "ytakolnamobkkkaa", sum := "038c3579082bddb82eb6c24716414efba1a4e87c21fafc10e73115b359a5178b", func := "salvor/salvortop.TopFrames", spec := "topFrames", inPlace := ["internal/bytealg.Count", "internal/bytealg.IndexByte", "internal/bytealg.Index"], unfollowed := true, recurses := true, named := ["internal/bytealg.MaxLen"], apart := false, narrowed := true }
def TopFramesUptoSaid : Prop := topFramesUptoRow.holds Try.pinned (OpenSpec.upto topFramesSpec)

end Rows
end Go.Proofs.Ytakolnamobkkkaa
