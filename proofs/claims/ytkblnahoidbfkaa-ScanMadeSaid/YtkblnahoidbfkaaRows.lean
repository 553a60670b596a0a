/-
  No cell of these rows narrows 'for every input' (looked for: loops, veiled, ifaces, maps, wideKeys, modest, calm, conditions, laid).
  DERIVED. THE GIVEN ROWS OF THIS SEAT. 10 by the template 'for every input the law returns true; each argument reads behind the call as it read before'; 0 by the template 'total and deterministic' (their statements: YtkblnahoidbfkaaTotals.lean).
  GIVEN WITH THE SEED: the statements are not yours to turn. If you find one false, say at which input.
  Laid BY PROGRAM, IN A SANDBOX (cutbox-rows.mjs): the forced cells as the released guide's own fill.sh prints them over the translation 9f6f6217a0a4aa44… (all of the seat's roots in one cut). By AI agents, Wed Nov 11 2026. No macro, syntax, notation, axiom, sorry.
-/
import Derived.Test.YtkblnahoidbfkaaChecked
import GoSem.Claim
import GoSem.ClaimJoined
import GoSem.ClaimMapViews
import Derived.JoinedTies
import Derived.KernelRfl
namespace Go.Proofs.Ytkblnahoidbfkaa
/- THE CELL 'sum', in the pinned program and in every row, IS THE sha256 OF THE DUMP (.gsa) THAT YtkblnahoidbfkaaProg.lean LOADS. Nothing in Lean hashes anything: it is a label: what it is worth is what the hold of that sum in a sandbox is worth. -/
noncomputable def Try.pinned : Pinned := { name := "ytkblnahoidbfkaa", sum := "9f6f6217a0a4aa447e0fa0daab8afc805e3deb63f9fe0b722986aa500855ff8f", checked := Try.checked }
namespace Rows
def none {H : Type} : Left H := { results := [], args := [] }

/-- 'salvorlaw5.ScanExtents': WHATEVER THE INPUT: true; the input reads as it did. -/
def scanExtentsSpec : ChangeSpec := { name := "scanExtents", fn := fun _ => fun
  | [d1, d2, d3] => { results := [.lit (.bool true)], args := [d1, d2, d3] }
  | _ => none }
def scanExtentsRow : OpenClaim := { program := "ytkblnahoidbfkaa", sum := "9f6f6217a0a4aa447e0fa0daab8afc805e3deb63f9fe0b722986aa500855ff8f", func := "salvor/salvorlaw5.ScanExtents", spec := "scanExtents", inPlace := ["internal/bytealg.IndexByte", "internal/bytealg.Count", "internal/bytealg.Index"], unfollowed := true, recurses := true, named := ["internal/bytealg.MaxLen"], apart := false }
def ScanExtentsSaid : Prop := scanExtentsRow.holds Try.pinned (OpenSpec.ofChange scanExtentsSpec)

/-- ITS FALSE NEIGHBOUR: 'it returns false'. Refute it at one input. -/
def scanExtentsWrong : ChangeSpec := { name := "scanExtents", fn := fun _ => fun
  | [d1, d2, d3] => { results := [.lit (.bool false)], args := [d1, d2, d3] }
  | _ => none }
def ScanExtentsWrongFalsely : Prop := scanExtentsRow.holds Try.pinned (OpenSpec.ofChange scanExtentsWrong)

/-- 'salvorlaw5.ScanCover': WHATEVER THE INPUT: true; the input reads as it did. -/
def scanCoverSpec : ChangeSpec := { name := "scanCover", fn := fun _ => fun
  | [d] => { results := [.lit (.bool true)], args := [d] }
  | _ => none }
def scanCoverRow : OpenClaim := { program := "ytkblnahoidbfkaa", sum := "9f6f6217a0a4aa447e0fa0daab8afc805e3deb63f9fe0b722986aa500855ff8f", func := "salvor/salvorlaw5.ScanCover", spec := "scanCover", inPlace := ["internal/bytealg.IndexByte", "internal/bytealg.Count", "internal/bytealg.Index"], unfollowed := true, recurses := true, named := ["internal/bytealg.MaxLen"], apart := false }
def ScanCoverSaid : Prop := scanCoverRow.holds Try.pinned (OpenSpec.ofChange scanCoverSpec)

/-- ITS FALSE NEIGHBOUR: 'it returns false'. Refute it at one input. -/
def scanCoverWrong : ChangeSpec := { name := "scanCover", fn := fun _ => fun
  | [d] => { results := [.lit (.bool false)], args := [d] }
  | _ => none }
def ScanCoverWrongFalsely : Prop := scanCoverRow.holds Try.pinned (OpenSpec.ofChange scanCoverWrong)

/-- 'salvorlaw5.ScanPart': WHATEVER THE INPUT: true; the input reads as it did. -/
def scanPartSpec : ChangeSpec := { name := "scanPart", fn := fun _ => fun
  | [d1, d2, d3] => { results := [.lit (.bool true)], args := [d1, d2, d3] }
  | _ => none }
def scanPartRow : OpenClaim := { program := "ytkblnahoidbfkaa", sum := "9f6f6217a0a4aa447e0fa0daab8afc805e3deb63f9fe0b722986aa500855ff8f", func := "salvor/salvorlaw5.ScanPart", spec := "scanPart", inPlace := ["internal/bytealg.IndexByte", "internal/bytealg.Count", "internal/bytealg.Index"], unfollowed := true, recurses := true, named := ["internal/bytealg.MaxLen"], apart := false }
def ScanPartSaid : Prop := scanPartRow.holds Try.pinned (OpenSpec.ofChange scanPartSpec)

/-- ITS FALSE NEIGHBOUR: 'it returns false'. Refute it at one input. -/
def scanPartWrong : ChangeSpec := { name := "scanPart", fn := fun _ => fun
  | [d1, d2, d3] => { results := [.lit (.bool false)], args := [d1, d2, d3] }
  | _ => none }
def ScanPartWrongFalsely : Prop := scanPartRow.holds Try.pinned (OpenSpec.ofChange scanPartWrong)

/-- 'salvorlaw5.ScanHurt': WHATEVER THE INPUT: true; the input reads as it did. -/
def scanHurtSpec : ChangeSpec := { name := "scanHurt", fn := fun _ => fun
  | [d1, d2, d3] => { results := [.lit (.bool true)], args := [d1, d2, d3] }
  | _ => none }
def scanHurtRow : OpenClaim := { program := "ytkblnahoidbfkaa", sum := "9f6f6217a0a4aa447e0fa0daab8afc805e3deb63f9fe0b722986aa500855ff8f", func := "salvor/salvorlaw5.ScanHurt", spec := "scanHurt", inPlace := ["internal/bytealg.Count", "internal/bytealg.IndexByte", "internal/bytealg.Index"], unfollowed := true, recurses := true, named := ["internal/bytealg.MaxLen"], apart := false }
def ScanHurtSaid : Prop := scanHurtRow.holds Try.pinned (OpenSpec.ofChange scanHurtSpec)

/-- ITS FALSE NEIGHBOUR: 'it returns false'. Refute it at one input. -/
def scanHurtWrong : ChangeSpec := { name := "scanHurt", fn := fun _ => fun
  | [d1, d2, d3] => { results := [.lit (.bool false)], args := [d1, d2, d3] }
  | _ => none }
def ScanHurtWrongFalsely : Prop := scanHurtRow.holds Try.pinned (OpenSpec.ofChange scanHurtWrong)

/-- 'salvorlaw5.ScanJoined': WHATEVER THE INPUT: true; the input reads as it did. -/
def scanJoinedSpec : ChangeSpec := { name := "scanJoined", fn := fun _ => fun
  | [d1, d2] => { results := [.lit (.bool true)], args := [d1, d2] }
  | _ => none }
def scanJoinedRow : OpenClaim := { program := "ytkblnahoidbfkaa", sum := "9f6f6217a0a4aa447e0fa0daab8afc805e3deb63f9fe0b722986aa500855ff8f", func := "salvor/salvorlaw5.ScanJoined", spec := "scanJoined", inPlace := ["internal/bytealg.IndexByte", "internal/bytealg.Count", "internal/bytealg.Index"], unfollowed := true, recurses := true, named := ["internal/bytealg.MaxLen"], apart := false }
def ScanJoinedSaid : Prop := scanJoinedRow.holds Try.pinned (OpenSpec.ofChange scanJoinedSpec)

/-- ITS FALSE NEIGHBOUR: 'it returns false'. Refute it at one input. -/
def scanJoinedWrong : ChangeSpec := { name := "scanJoined", fn := fun _ => fun
  | [d1, d2] => { results := [.lit (.bool false)], args := [d1, d2] }
  | _ => none }
def ScanJoinedWrongFalsely : Prop := scanJoinedRow.holds Try.pinned (OpenSpec.ofChange scanJoinedWrong)

/-- 'salvorlaw5.ScanFrames': WHATEVER THE INPUT: true; the input reads as it did. -/
def scanFramesSpec : ChangeSpec := { name := "scanFrames", fn := fun _ => fun
  | [d1, d2] => { results := [.lit (.bool true)], args := [d1, d2] }
  | _ => none }
def scanFramesRow : OpenClaim := { program := "ytkblnahoidbfkaa", sum := "9f6f6217a0a4aa447e0fa0daab8afc805e3deb63f9fe0b722986aa500855ff8f", func := "salvor/salvorlaw5.ScanFrames", spec := "scanFrames", inPlace := ["internal/bytealg.IndexByte", "internal/bytealg.Count", "internal/bytealg.Index"], unfollowed := true, recurses := true, named := ["internal/bytealg.MaxLen"], apart := false }
def ScanFramesSaid : Prop := scanFramesRow.holds Try.pinned (OpenSpec.ofChange scanFramesSpec)

/-- ITS FALSE NEIGHBOUR: 'it returns false'. Refute it at one input. -/
def scanFramesWrong : ChangeSpec := { name := "scanFrames", fn := fun _ => fun
  | [d1, d2] => { results := [.lit (.bool false)], args := [d1, d2] }
  | _ => none }
def ScanFramesWrongFalsely : Prop := scanFramesRow.holds Try.pinned (OpenSpec.ofChange scanFramesWrong)

/-- 'salvorlaw5.ScanClean': WHATEVER THE INPUT: true; the input reads as it did. -/
def scanCleanSpec : ChangeSpec := { name := "scanClean", fn := fun _ => fun
  | [d] => { results := [.lit (.bool true)], args := [d] }
  | _ => none }
def scanCleanRow : OpenClaim := { program := "ytkblnahoidbfkaa", sum := "9f6f6217a0a4aa447e0fa0daab8afc805e3deb63f9fe0b722986aa500855ff8f", func := "salvor/salvorlaw5.ScanClean", spec := "scanClean", inPlace := ["internal/bytealg.IndexByte", "internal/bytealg.Count", "internal/bytealg.Index"], unfollowed := true, recurses := true, named := ["internal/bytealg.MaxLen"], apart := false }
def ScanCleanSaid : Prop := scanCleanRow.holds Try.pinned (OpenSpec.ofChange scanCleanSpec)

/-- ITS FALSE NEIGHBOUR: 'it returns false'. Refute it at one input. -/
def scanCleanWrong : ChangeSpec := { name := "scanClean", fn := fun _ => fun
  | [d] => { results := [.lit (.bool false)], args := [d] }
  | _ => none }
def ScanCleanWrongFalsely : Prop := scanCleanRow.holds Try.pinned (OpenSpec.ofChange scanCleanWrong)

/-- 'salvorlaw5.ScanRecords': WHATEVER THE INPUT: true; the input reads as it did. -/
def scanRecordsSpec : ChangeSpec := { name := "scanRecords", fn := fun _ => fun
  | [d1, d2] => { results := [.lit (.bool true)], args := [d1, d2] }
  | _ => none }
def scanRecordsRow : OpenClaim := { program := "ytkblnahoidbfkaa", sum := "9f6f6217a0a4aa447e0fa0daab8afc805e3deb63f9fe0b722986aa500855ff8f", func := "salvor/salvorlaw5.ScanRecords", spec := "scanRecords", inPlace := ["internal/bytealg.IndexByte", "internal/bytealg.Count", "internal/bytealg.Index"], unfollowed := true, recurses := true, named := ["internal/bytealg.MaxLen"], apart := false }
def ScanRecordsSaid : Prop := scanRecordsRow.holds Try.pinned (OpenSpec.ofChange scanRecordsSpec)

/-- ITS FALSE NEIGHBOUR: 'it returns false'. Refute it at one input. -/
def scanRecordsWrong : ChangeSpec := { name := "scanRecords", fn := fun _ => fun
  | [d1, d2] => { results := [.lit (.bool false)], args := [d1, d2] }
  | _ => none }
def ScanRecordsWrongFalsely : Prop := scanRecordsRow.holds Try.pinned (OpenSpec.ofChange scanRecordsWrong)

/-- 'salvorlaw5.ScanMade': WHATEVER THE INPUT: true; the input reads as it did. -/
def scanMadeSpec : ChangeSpec := { name := "scanMade", fn := fun _ => fun
  | [d1, d2] => { results := [.lit (.bool true)], args := [d1, d2] }
  | _ => none }
def scanMadeRow : OpenClaim := { program := "ytkblnahoidbfkaa", sum := "9f6f6217a0a4aa447e0fa0daab8afc805e3deb63f9fe0b722986aa500855ff8f", func := "salvor/salvorlaw5.ScanMade", spec := "scanMade", inPlace := ["internal/bytealg.Count", "internal/bytealg.IndexByte", "internal/bytealg.Index"], unfollowed := true, recurses := true, named := ["internal/bytealg.MaxLen"], apart := false }
def ScanMadeSaid : Prop := scanMadeRow.holds Try.pinned (OpenSpec.ofChange scanMadeSpec)

/-- ITS FALSE NEIGHBOUR: 'it returns false'. Refute it at one input. -/
def scanMadeWrong : ChangeSpec := { name := "scanMade", fn := fun _ => fun
  | [d1, d2] => { results := [.lit (.bool false)], args := [d1, d2] }
  | _ => none }
def ScanMadeWrongFalsely : Prop := scanMadeRow.holds Try.pinned (OpenSpec.ofChange scanMadeWrong)

/-- 'salvortop.TopScanned': WHATEVER THE INPUT: true; the input reads as it did. -/
def topScannedSpec : ChangeSpec := { name := "topScanned", fn := fun _ => fun
  | [d1, d2] => { results := [.lit (.bool true)], args := [d1, d2] }
  | _ => none }
def topScannedRow : OpenClaim := { program := "ytkblnahoidbfkaa", sum := "9f6f6217a0a4aa447e0fa0daab8afc805e3deb63f9fe0b722986aa500855ff8f", func := "salvor/salvortop.TopScanned", spec := "topScanned", inPlace := ["internal/bytealg.Count", "internal/bytealg.IndexByte", "internal/bytealg.Index"], unfollowed := true, recurses := true, named := ["internal/bytealg.MaxLen"], apart := false }
def TopScannedSaid : Prop := topScannedRow.holds Try.pinned (OpenSpec.ofChange topScannedSpec)

/-- ITS FALSE NEIGHBOUR: 'it returns false'. Refute it at one input. -/
def topScannedWrong : ChangeSpec := { name := "topScanned", fn := fun _ => fun
  | [d1, d2] => { results := [.lit (.bool false)], args := [d1, d2] }
  | _ => none }
def TopScannedWrongFalsely : Prop := topScannedRow.holds Try.pinned (OpenSpec.ofChange topScannedWrong)

/- THE SECOND FORM. 'bulk': how many values and letters a reading holds, each counted each time it is reached (what is shared counts as often as it is met; a slice's spare places count too). A statement '..UptoSaid' is the law's where the arguments, and the package variables that the reading takes, are together of bulk at most 1048576: NARROWER than '..Said'. Prove '..Said' where nothing that the law and all that it calls make is longer than what came in: it says more and counts as full. Else prove '..UptoSaid'. A law counts once. -/
mutual
def uptoBulk {H : Type} : DataW H → Nat
  | .lit (.string bytes) => bytes.length + 1
  | .lit _ => 1
  | .nil => 1
  | .ptr d => uptoBulk d + 1
  | .slice elems spare => uptoBulkAll elems + uptoBulkAll spare + 1
  | .agg parts => uptoBulkAll parts + 1
  | .iface _ d => uptoBulk d + 1
  | .map entries => uptoBulkEntries entries + 1
  | .held _ => 1
def uptoBulkAll {H : Type} : List (DataW H) → Nat
  | [] => 0
  | d :: r => uptoBulk d + uptoBulkAll r
def uptoBulkEntries {H : Type} : List (Lit × DataW H) → Nat
  | [] => 0
  | x :: r => uptoBulkEntry x + uptoBulkEntries r
def uptoBulkEntry {H : Type} : Lit × DataW H → Nat
  | (.string bytes, d) => bytes.length + uptoBulk d + 1
  | (_, d) => uptoBulk d + 1
 end
def uptoSmall : (H : Type) → List (DataW H) → Bool := fun _ ds => decide (uptoBulkAll ds ≤ 1048576)
def OpenSpec.upto (s : _root_.Go.ChangeSpec) : _root_.Go.OpenSpec := { _root_.Go.OpenSpec.ofChange s with cond := some uptoSmall }

/-- 'salvorlaw5.ScanExtents', WHERE WHAT IT READS IS OF BULK AT MOST 1048576: true; the input reads as it did. -/
def scanExtentsUptoRow : OpenClaim := { program := "ytkblnahoidbfkaa", sum := "9f6f6217a0a4aa447e0fa0daab8afc805e3deb63f9fe0b722986aa500855ff8f", func := "salvor/salvorlaw5.ScanExtents", spec := "scanExtents", inPlace := ["internal/bytealg.IndexByte", "internal/bytealg.Count", "internal/bytealg.Index"], unfollowed := true, recurses := true, named := ["internal/bytealg.MaxLen"], apart := false, narrowed := true }
def ScanExtentsUptoSaid : Prop := scanExtentsUptoRow.holds Try.pinned (OpenSpec.upto scanExtentsSpec)

/-- 'salvorlaw5.ScanCover', WHERE WHAT IT READS IS OF BULK AT MOST 1048576: true; the input reads as it did. -/
def scanCoverUptoRow : OpenClaim := { program := "ytkblnahoidbfkaa", sum := "9f6f6217a0a4aa447e0fa0daab8afc805e3deb63f9fe0b722986aa500855ff8f", func := "salvor/salvorlaw5.ScanCover", spec := "scanCover", inPlace := ["internal/bytealg.IndexByte", "internal/bytealg.Count", "internal/bytealg.Index"], unfollowed := true, recurses := true, named := ["internal/bytealg.MaxLen"], apart := false, narrowed := true }
def ScanCoverUptoSaid : Prop := scanCoverUptoRow.holds Try.pinned (OpenSpec.upto scanCoverSpec)

/-- 'salvorlaw5.ScanPart', WHERE WHAT IT READS IS OF BULK AT MOST 1048576: true; the input reads as it did. -/
def scanPartUptoRow : OpenClaim := { program := "ytkblnahoidbfkaa", sum := "9f6f6217a0a4aa447e0fa0daab8afc805e3deb63f9fe0b722986aa500855ff8f", func := "salvor/salvorlaw5.ScanPart", spec := "scanPart", inPlace := ["internal/bytealg.IndexByte", "internal/bytealg.Count", "internal/bytealg.Index"], unfollowed := true, recurses := true, named := ["internal/bytealg.MaxLen"], apart := false, narrowed := true }
def ScanPartUptoSaid : Prop := scanPartUptoRow.holds Try.pinned (OpenSpec.upto scanPartSpec)

/-- 'salvorlaw5.ScanHurt', WHERE WHAT IT READS IS OF BULK AT MOST 1048576: true; the input reads as it did. -/
def scanHurtUptoRow : OpenClaim := { program := "ytkblnahoidbfkaa", sum := "9f6f6217a0a4aa447e0fa0daab8afc805e3deb63f9fe0b722986aa500855ff8f", func := "salvor/salvorlaw5.ScanHurt", spec := "scanHurt", inPlace := ["internal/bytealg.Count", "internal/bytealg.IndexByte", "internal/bytealg.Index"], unfollowed := true, recurses := true, named := ["internal/bytealg.MaxLen"], apart := false, narrowed := true }
def ScanHurtUptoSaid : Prop := scanHurtUptoRow.holds Try.pinned (OpenSpec.upto scanHurtSpec)

/-- 'salvorlaw5.ScanJoined', WHERE WHAT IT READS IS OF BULK AT MOST 1048576: true; the input reads as it did. -/
def scanJoinedUptoRow : OpenClaim := { program := "ytkblnahoidbfkaa", sum := "9f6f6217a0a4aa447e0fa0daab8afc805e3deb63f9fe0b722986aa500855ff8f", func := "salvor/salvorlaw5.ScanJoined", spec := "scanJoined", inPlace := ["internal/bytealg.IndexByte", "internal/bytealg.Count", "internal/bytealg.Index"], unfollowed := true, recurses := true, named := ["internal/bytealg.MaxLen"], apart := false, narrowed := true }
def ScanJoinedUptoSaid : Prop := scanJoinedUptoRow.holds Try.pinned (OpenSpec.upto scanJoinedSpec)

/-- 'salvorlaw5.ScanFrames', WHERE WHAT IT READS IS OF BULK AT MOST 1048576: true; the input reads as it did. -/
def scanFramesUptoRow : OpenClaim := { program := "ytkblnahoidbfkaa", sum := "9f6f6217a0a4aa447e0fa0daab8afc805e3deb63f9fe0b722986aa500855ff8f", func := "salvor/salvorlaw5.ScanFrames", spec := "scanFrames", inPlace := ["internal/bytealg.IndexByte", "internal/bytealg.Count", "internal/bytealg.Index"], unfollowed := true, recurses := true, named := ["internal/bytealg.MaxLen"], apart := false, narrowed := true }
def ScanFramesUptoSaid : Prop := scanFramesUptoRow.holds Try.pinned (OpenSpec.upto scanFramesSpec)

/-- 'salvorlaw5.ScanClean', WHERE WHAT IT READS IS OF BULK AT MOST 1048576: true; the input reads as it did. -/
def scanCleanUptoRow : OpenClaim := { program := "ytkblnahoidbfkaa", sum := "9f6f6217a0a4aa447e0fa0daab8afc805e3deb63f9fe0b722986aa500855ff8f", func := "salvor/salvorlaw5.ScanClean", spec := "scanClean", inPlace := ["internal/bytealg.IndexByte", "internal/bytealg.Count", "internal/bytealg.Index"], unfollowed := true, recurses := true, named := ["internal/bytealg.MaxLen"], apart := false, narrowed := true }
def ScanCleanUptoSaid : Prop := scanCleanUptoRow.holds Try.pinned (OpenSpec.upto scanCleanSpec)

/-- 'salvorlaw5.ScanRecords', WHERE WHAT IT READS IS OF BULK AT MOST 1048576: true; the input reads as it did. -/
def scanRecordsUptoRow : OpenClaim := { program := "ytkblnahoidbfkaa", sum := "9f6f6217a0a4aa447e0fa0daab8afc805e3deb63f9fe0b722986aa500855ff8f", func := "salvor/salvorlaw5.ScanRecords", spec := "scanRecords", inPlace := ["internal/bytealg.IndexByte", "internal/bytealg.Count", "internal/bytealg.Index"], unfollowed := true, recurses := true, named := ["internal/bytealg.MaxLen"], apart := false, narrowed := true }
def ScanRecordsUptoSaid : Prop := scanRecordsUptoRow.holds Try.pinned (OpenSpec.upto scanRecordsSpec)

/-- 'salvorlaw5.ScanMade', WHERE WHAT IT READS IS OF BULK AT MOST 1048576: true; the input reads as it did. -/
def scanMadeUptoRow : OpenClaim := { program := "ytkblnahoidbfkaa", sum := "9f6f6217a0a4aa447e0fa0daab8afc805e3deb63f9fe0b722986aa500855ff8f", func := "salvor/salvorlaw5.ScanMade", spec := "scanMade", inPlace := ["internal/bytealg.Count", "internal/bytealg.IndexByte", "internal/bytealg.Index"], unfollowed := true, recurses := true, named := ["internal/bytealg.MaxLen"], apart := false, narrowed := true }
def ScanMadeUptoSaid : Prop := scanMadeUptoRow.holds Try.pinned (OpenSpec.upto scanMadeSpec)

/-- 'salvortop.TopScanned', WHERE WHAT IT READS IS OF BULK AT MOST 1048576: true; the input reads as it did. -/
def topScannedUptoRow : OpenClaim := { program := "ytkblnahoidbfkaa", sum := "9f6f6217a0a4aa447e0fa0daab8afc805e3deb63f9fe0b722986aa500855ff8f", func := "salvor/salvortop.TopScanned", spec := "topScanned", inPlace := ["internal/bytealg.Count", "internal/bytealg.IndexByte", "internal/bytealg.Index"], unfollowed := true, recurses := true, named := ["internal/bytealg.MaxLen"], apart := false, narrowed := true }
def TopScannedUptoSaid : Prop := topScannedUptoRow.holds Try.pinned (OpenSpec.upto topScannedSpec)

end Rows
end Go.Proofs.Ytkblnahoidbfkaa
