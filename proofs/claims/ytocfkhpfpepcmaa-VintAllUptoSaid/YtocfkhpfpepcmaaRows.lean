/-
  No cell of these rows narrows 'for every input' (looked for: loops, veiled, ifaces, maps, wideKeys, modest, calm, conditions, laid).
  DERIVED. THE GIVEN ROWS OF THIS SEAT. 11 by the template 'for every input the law returns true; each argument reads behind the call as it read before'; 0 by the template 'total and deterministic' (their statements: YtocfkhpfpepcmaaTotals.lean).
  GIVEN WITH THE SEED: the statements are not yours to turn. If you find one false, say at which input.
  Laid BY PROGRAM, IN A SANDBOX (cutbox-rows.mjs): the forced cells as the released guide's own fill.sh prints them over the translation a4aab6ccc98bfefa… (all of the seat's roots in one cut). By AI agents, Wed Nov 11 2026. No macro, syntax, notation, axiom, sorry.
-/
import Derived.Test.YtocfkhpfpepcmaaChecked
import GoSem.Claim
import GoSem.ClaimJoined
import GoSem.ClaimMapViews
import Derived.JoinedTies
import Derived.KernelRfl
namespace Go.Proofs.Ytocfkhpfpepcmaa
/- THE CELL 'sum', in the pinned program and in every row, IS THE sha256 OF THE DUMP (.gsa) THAT YtocfkhpfpepcmaaProg.lean LOADS. Nothing in Lean hashes anything: it is a label: what it is worth is what the hold of that sum in a sandbox is worth. -/
noncomputable def Try.pinned : Pinned := { name := "ytocfkhpfpepcmaa", sum := "a4aab6ccc98bfefa7f3c9a2c95ad344453c54b681c3dca0ed5eebfa74544d6b6", checked := Try.checked }
namespace Rows
def none {H : Type} : Left H := { results := [], args := [] }

/-- 'salvorlaw2.VintDecode': WHATEVER THE INPUT: true; the input reads as it did. -/
def vintDecodeSpec : ChangeSpec := { name := "vintDecode", fn := fun _ => fun
  | [d] => { results := [.lit (.bool true)], args := [d] }
  | _ => none }
def vintDecodeRow : OpenClaim := { program := "ytocfkhpfpepcmaa", sum := "a4aab6ccc98bfefa7f3c9a2c95ad344453c54b681c3dca0ed5eebfa74544d6b6", func := "salvor/salvorlaw2.VintDecode", spec := "vintDecode", unfollowed := true, recurses := true, apart := false }
def VintDecodeSaid : Prop := vintDecodeRow.holds Try.pinned (OpenSpec.ofChange vintDecodeSpec)

/-- ITS FALSE NEIGHBOUR: 'it returns false'. Refute it at one input. -/
def vintDecodeWrong : ChangeSpec := { name := "vintDecode", fn := fun _ => fun
  | [d] => { results := [.lit (.bool false)], args := [d] }
  | _ => none }
def VintDecodeWrongFalsely : Prop := vintDecodeRow.holds Try.pinned (OpenSpec.ofChange vintDecodeWrong)

/-- 'salvorlaw2.VintOnce': WHATEVER THE INPUT: true; the input reads as it did. -/
def vintOnceSpec : ChangeSpec := { name := "vintOnce", fn := fun _ => fun
  | [d] => { results := [.lit (.bool true)], args := [d] }
  | _ => none }
def vintOnceRow : OpenClaim := { program := "ytocfkhpfpepcmaa", sum := "a4aab6ccc98bfefa7f3c9a2c95ad344453c54b681c3dca0ed5eebfa74544d6b6", func := "salvor/salvorlaw2.VintOnce", spec := "vintOnce", unfollowed := true, recurses := true, apart := false }
def VintOnceSaid : Prop := vintOnceRow.holds Try.pinned (OpenSpec.ofChange vintOnceSpec)

/-- ITS FALSE NEIGHBOUR: 'it returns false'. Refute it at one input. -/
def vintOnceWrong : ChangeSpec := { name := "vintOnce", fn := fun _ => fun
  | [d] => { results := [.lit (.bool false)], args := [d] }
  | _ => none }
def VintOnceWrongFalsely : Prop := vintOnceRow.holds Try.pinned (OpenSpec.ofChange vintOnceWrong)

/-- 'salvorlaw2.VintCut': WHATEVER THE INPUT: true; the input reads as it did. -/
def vintCutSpec : ChangeSpec := { name := "vintCut", fn := fun _ => fun
  | [d1, d2, d3] => { results := [.lit (.bool true)], args := [d1, d2, d3] }
  | _ => none }
def vintCutRow : OpenClaim := { program := "ytocfkhpfpepcmaa", sum := "a4aab6ccc98bfefa7f3c9a2c95ad344453c54b681c3dca0ed5eebfa74544d6b6", func := "salvor/salvorlaw2.VintCut", spec := "vintCut", unfollowed := true, recurses := true, apart := false }
def VintCutSaid : Prop := vintCutRow.holds Try.pinned (OpenSpec.ofChange vintCutSpec)

/-- ITS FALSE NEIGHBOUR: 'it returns false'. Refute it at one input. -/
def vintCutWrong : ChangeSpec := { name := "vintCut", fn := fun _ => fun
  | [d1, d2, d3] => { results := [.lit (.bool false)], args := [d1, d2, d3] }
  | _ => none }
def VintCutWrongFalsely : Prop := vintCutRow.holds Try.pinned (OpenSpec.ofChange vintCutWrong)

/-- 'salvorlaw2.VintSorted': WHATEVER THE INPUT: true; the input reads as it did. -/
def vintSortedSpec : ChangeSpec := { name := "vintSorted", fn := fun _ => fun
  | [d1, d2, d3] => { results := [.lit (.bool true)], args := [d1, d2, d3] }
  | _ => none }
def vintSortedRow : OpenClaim := { program := "ytocfkhpfpepcmaa", sum := "a4aab6ccc98bfefa7f3c9a2c95ad344453c54b681c3dca0ed5eebfa74544d6b6", func := "salvor/salvorlaw2.VintSorted", spec := "vintSorted", unfollowed := true, recurses := true, apart := false }
def VintSortedSaid : Prop := vintSortedRow.holds Try.pinned (OpenSpec.ofChange vintSortedSpec)

/-- ITS FALSE NEIGHBOUR: 'it returns false'. Refute it at one input. -/
def vintSortedWrong : ChangeSpec := { name := "vintSorted", fn := fun _ => fun
  | [d1, d2, d3] => { results := [.lit (.bool false)], args := [d1, d2, d3] }
  | _ => none }
def VintSortedWrongFalsely : Prop := vintSortedRow.holds Try.pinned (OpenSpec.ofChange vintSortedWrong)

/-- 'salvorlaw2.VintAll': WHATEVER THE INPUT: true; the input reads as it did. -/
def vintAllSpec : ChangeSpec := { name := "vintAll", fn := fun _ => fun
  | [d1, d2] => { results := [.lit (.bool true)], args := [d1, d2] }
  | _ => none }
def vintAllRow : OpenClaim := { program := "ytocfkhpfpepcmaa", sum := "a4aab6ccc98bfefa7f3c9a2c95ad344453c54b681c3dca0ed5eebfa74544d6b6", func := "salvor/salvorlaw2.VintAll", spec := "vintAll", unfollowed := true, recurses := true, apart := false }
def VintAllSaid : Prop := vintAllRow.holds Try.pinned (OpenSpec.ofChange vintAllSpec)

/-- ITS FALSE NEIGHBOUR: 'it returns false'. Refute it at one input. -/
def vintAllWrong : ChangeSpec := { name := "vintAll", fn := fun _ => fun
  | [d1, d2] => { results := [.lit (.bool false)], args := [d1, d2] }
  | _ => none }
def VintAllWrongFalsely : Prop := vintAllRow.holds Try.pinned (OpenSpec.ofChange vintAllWrong)

/-- 'salvorlaw2.VintDigits': WHATEVER THE INPUT: true; the input reads as it did. -/
def vintDigitsSpec : ChangeSpec := { name := "vintDigits", fn := fun _ => fun
  | [d1, d2, d3, d4] => { results := [.lit (.bool true)], args := [d1, d2, d3, d4] }
  | _ => none }
def vintDigitsRow : OpenClaim := { program := "ytocfkhpfpepcmaa", sum := "a4aab6ccc98bfefa7f3c9a2c95ad344453c54b681c3dca0ed5eebfa74544d6b6", func := "salvor/salvorlaw2.VintDigits", spec := "vintDigits", unfollowed := true, recurses := true, apart := false }
def VintDigitsSaid : Prop := vintDigitsRow.holds Try.pinned (OpenSpec.ofChange vintDigitsSpec)

/-- ITS FALSE NEIGHBOUR: 'it returns false'. Refute it at one input. -/
def vintDigitsWrong : ChangeSpec := { name := "vintDigits", fn := fun _ => fun
  | [d1, d2, d3, d4] => { results := [.lit (.bool false)], args := [d1, d2, d3, d4] }
  | _ => none }
def VintDigitsWrongFalsely : Prop := vintDigitsRow.holds Try.pinned (OpenSpec.ofChange vintDigitsWrong)

/-- 'salvorlaw2.VintDigitsBack': WHATEVER THE INPUT: true; the input reads as it did. -/
def vintDigitsBackSpec : ChangeSpec := { name := "vintDigitsBack", fn := fun _ => fun
  | [d1, d2, d3] => { results := [.lit (.bool true)], args := [d1, d2, d3] }
  | _ => none }
def vintDigitsBackRow : OpenClaim := { program := "ytocfkhpfpepcmaa", sum := "a4aab6ccc98bfefa7f3c9a2c95ad344453c54b681c3dca0ed5eebfa74544d6b6", func := "salvor/salvorlaw2.VintDigitsBack", spec := "vintDigitsBack", unfollowed := true, recurses := true, apart := false }
def VintDigitsBackSaid : Prop := vintDigitsBackRow.holds Try.pinned (OpenSpec.ofChange vintDigitsBackSpec)

/-- ITS FALSE NEIGHBOUR: 'it returns false'. Refute it at one input. -/
def vintDigitsBackWrong : ChangeSpec := { name := "vintDigitsBack", fn := fun _ => fun
  | [d1, d2, d3] => { results := [.lit (.bool false)], args := [d1, d2, d3] }
  | _ => none }
def VintDigitsBackWrongFalsely : Prop := vintDigitsBackRow.holds Try.pinned (OpenSpec.ofChange vintDigitsBackWrong)

/-- 'salvorlaw2.VintEncode': WHATEVER THE INPUT: true; the input reads as it did. -/
def vintEncodeSpec : ChangeSpec := { name := "vintEncode", fn := fun _ => fun
  | [d1, d2] => { results := [.lit (.bool true)], args := [d1, d2] }
  | _ => none }
def vintEncodeRow : OpenClaim := { program := "ytocfkhpfpepcmaa", sum := "a4aab6ccc98bfefa7f3c9a2c95ad344453c54b681c3dca0ed5eebfa74544d6b6", func := "salvor/salvorlaw2.VintEncode", spec := "vintEncode", unfollowed := true, recurses := true, apart := false }
def VintEncodeSaid : Prop := vintEncodeRow.holds Try.pinned (OpenSpec.ofChange vintEncodeSpec)

/-- ITS FALSE NEIGHBOUR: 'it returns false'. Refute it at one input. -/
def vintEncodeWrong : ChangeSpec := { name := "vintEncode", fn := fun _ => fun
  | [d1, d2] => { results := [.lit (.bool false)], args := [d1, d2] }
  | _ => none }
def VintEncodeWrongFalsely : Prop := vintEncodeRow.holds Try.pinned (OpenSpec.ofChange vintEncodeWrong)

/-- 'salvorlaw2.VintBack': WHATEVER THE INPUT: true; the input reads as it did. -/
def vintBackSpec : ChangeSpec := { name := "vintBack", fn := fun _ => fun
  | [d1, d2] => { results := [.lit (.bool true)], args := [d1, d2] }
  | _ => none }
def vintBackRow : OpenClaim := { program := "ytocfkhpfpepcmaa", sum := "a4aab6ccc98bfefa7f3c9a2c95ad344453c54b681c3dca0ed5eebfa74544d6b6", func := "salvor/salvorlaw2.VintBack", spec := "vintBack", unfollowed := true, recurses := true, apart := false }
def VintBackSaid : Prop := vintBackRow.holds Try.pinned (OpenSpec.ofChange vintBackSpec)

/-- ITS FALSE NEIGHBOUR: 'it returns false'. Refute it at one input. -/
def vintBackWrong : ChangeSpec := { name := "vintBack", fn := fun _ => fun
  | [d1, d2] => { results := [.lit (.bool false)], args := [d1, d2] }
  | _ => none }
def VintBackWrongFalsely : Prop := vintBackRow.holds Try.pinned (OpenSpec.ofChange vintBackWrong)

/-- 'salvorlaw2.VintSplit': WHATEVER THE INPUT: true; the input reads as it did. -/
def vintSplitSpec : ChangeSpec := { name := "vintSplit", fn := fun _ => fun
  | [d1, d2] => { results := [.lit (.bool true)], args := [d1, d2] }
  | _ => none }
def vintSplitRow : OpenClaim := { program := "ytocfkhpfpepcmaa", sum := "a4aab6ccc98bfefa7f3c9a2c95ad344453c54b681c3dca0ed5eebfa74544d6b6", func := "salvor/salvorlaw2.VintSplit", spec := "vintSplit", unfollowed := true, recurses := true, apart := false }
def VintSplitSaid : Prop := vintSplitRow.holds Try.pinned (OpenSpec.ofChange vintSplitSpec)

/-- ITS FALSE NEIGHBOUR: 'it returns false'. Refute it at one input. -/
def vintSplitWrong : ChangeSpec := { name := "vintSplit", fn := fun _ => fun
  | [d1, d2] => { results := [.lit (.bool false)], args := [d1, d2] }
  | _ => none }
def VintSplitWrongFalsely : Prop := vintSplitRow.holds Try.pinned (OpenSpec.ofChange vintSplitWrong)

/-- 'salvortop.TopNumbers': WHATEVER THE INPUT: true; the input reads as it did. -/
def topNumbersSpec : ChangeSpec := { name := "topNumbers", fn := fun _ => fun
  | [d] => { results := [.lit (.bool true)], args := [d] }
  | _ => none }
def topNumbersRow : OpenClaim := { program := "ytocfkhpfpepcmaa", sum := "a4aab6ccc98bfefa7f3c9a2c95ad344453c54b681c3dca0ed5eebfa74544d6b6", func := "salvor/salvortop.TopNumbers", spec := "topNumbers", unfollowed := true, recurses := true, apart := false }
def TopNumbersSaid : Prop := topNumbersRow.holds Try.pinned (OpenSpec.ofChange topNumbersSpec)

/-- ITS FALSE NEIGHBOUR: 'it returns false'. Refute it at one input. -/
def topNumbersWrong : ChangeSpec := { name := "topNumbers", fn := fun _ => fun
  | [d] => { results := [.lit (.bool false)], args := [d] }
  | _ => none }
def TopNumbersWrongFalsely : Prop := topNumbersRow.holds Try.pinned (OpenSpec.ofChange topNumbersWrong)

/- THE SECOND FORM. 'bulk': how many values and letters a reading holds, each counted each time it is reached (what is shared counts as often as it is met; a slice's spare places count too). A statement '..UptoSaid' is the law's where the arguments, and the package variables that the reading takes, are together of bulk at most 1048576: NARROWER than '..Said'. Prove '..Said' where nothing that the law and all that it calls make is longer than what came in: it says more and counts as full. Else prove '..UptoSaid'. A law counts once. -/
mutual
def uptoBulk {H : Type} : DataW H → Nat
  | .lit (.string bytes) => bytes.length + 1
  | .lit _ => 1
  | .nil => 1
  | .ptr d => uptoBulk d + 1
  | .slice elems spare => uptoBulkAll elems + uptoBulkAll spare + 1
  | .agg parts => uptoBulkAll parts + 1
  | .iface _ d => uptoBulk d + 1
  | .map entries => uptoBulkEntries entries + 1
  | .held _ => 1
def uptoBulkAll {H : Type} : List (DataW H) → Nat
  | [] => 0
  | d :: r => uptoBulk d + uptoBulkAll r
def uptoBulkEntries {H : Type} : List (Lit × DataW H) → Nat
  | [] => 0
  | x :: r => uptoBulkEntry x + uptoBulkEntries r
def uptoBulkEntry {H : Type} : Lit × DataW H → Nat
  | (.string bytes, d) => bytes.length + uptoBulk d + 1
  | (_, d) => uptoBulk d + 1
 end
def uptoSmall : (H : Type) → List (DataW H) → Bool := fun _ ds => decide (uptoBulkAll ds ≤ 1048576)
def OpenSpec.upto (s : _root_.Go.ChangeSpec) : _root_.Go.OpenSpec := { _root_.Go.OpenSpec.ofChange s with cond := some uptoSmall }

/-- 'salvorlaw2.VintDecode', WHERE WHAT IT READS IS OF BULK AT MOST 1048576: true; the input reads as it did. -/
def vintDecodeUptoRow : OpenClaim := { program := "ytocfkhpfpepcmaa", sum := "a4aab6ccc98bfefa7f3c9a2c95ad344453c54b681c3dca0ed5eebfa74544d6b6", func := "salvor/salvorlaw2.VintDecode", spec := "vintDecode", unfollowed := true, recurses := true, apart := false, narrowed := true }
def VintDecodeUptoSaid : Prop := vintDecodeUptoRow.holds Try.pinned (OpenSpec.upto vintDecodeSpec)

/-- 'salvorlaw2.VintOnce', WHERE WHAT IT READS IS OF BULK AT MOST 1048576: true; the input reads as it did. -/
def vintOnceUptoRow : OpenClaim := { program := "ytocfkhpfpepcmaa", sum := "a4aab6ccc98bfefa7f3c9a2c95ad344453c54b681c3dca0ed5eebfa74544d6b6", func := "salvor/salvorlaw2.VintOnce", spec := "vintOnce", unfollowed := true, recurses := true, apart := false, narrowed := true }
def VintOnceUptoSaid : Prop := vintOnceUptoRow.holds Try.pinned (OpenSpec.upto vintOnceSpec)

/-- 'salvorlaw2.VintCut', WHERE WHAT IT READS IS OF BULK AT MOST 1048576: true; the input reads as it did. -/
def vintCutUptoRow : OpenClaim := { program := "ytocfkhpfpepcmaa", sum := "a4aab6ccc98bfefa7f3c9a2c95ad344453c54b681c3dca0ed5eebfa74544d6b6", func := "salvor/salvorlaw2.VintCut", spec := "vintCut", unfollowed := true, recurses := true, apart := false, narrowed := true }
def VintCutUptoSaid : Prop := vintCutUptoRow.holds Try.pinned (OpenSpec.upto vintCutSpec)

/-- 'salvorlaw2.VintSorted', WHERE WHAT IT READS IS OF BULK AT MOST 1048576: true; the input reads as it did. -/
def vintSortedUptoRow : OpenClaim := { program := "ytocfkhpfpepcmaa", sum := "a4aab6ccc98bfefa7f3c9a2c95ad344453c54b681c3dca0ed5eebfa74544d6b6", func := "salvor/salvorlaw2.VintSorted", spec := "vintSorted", unfollowed := true, recurses := true, apart := false, narrowed := true }
def VintSortedUptoSaid : Prop := vintSortedUptoRow.holds Try.pinned (OpenSpec.upto vintSortedSpec)

/-- 'salvorlaw2.VintAll', WHERE WHAT IT READS IS OF BULK AT MOST 1048576: true; the input reads as it did. -/
def vintAllUptoRow : OpenClaim := { program := "ytocfkhpfpepcmaa", sum := "a4aab6ccc98bfefa7f3c9a2c95ad344453c54b681c3dca0ed5eebfa74544d6b6", func := "salvor/salvorlaw2.VintAll", spec := "vintAll", unfollowed := true, recurses := true, apart := false, narrowed := true }
def VintAllUptoSaid : Prop := vintAllUptoRow.holds Try.pinned (OpenSpec.upto vintAllSpec)

/-- 'salvorlaw2.VintDigits', WHERE WHAT IT READS IS OF BULK AT MOST 1048576: true; the input reads as it did. -/
def vintDigitsUptoRow : OpenClaim := { program := "ytocfkhpfpepcmaa", sum := "a4aab6ccc98bfefa7f3c9a2c95ad344453c54b681c3dca0ed5eebfa74544d6b6", func := "salvor/salvorlaw2.VintDigits", spec := "vintDigits", unfollowed := true, recurses := true, apart := false, narrowed := true }
def VintDigitsUptoSaid : Prop := vintDigitsUptoRow.holds Try.pinned (OpenSpec.upto vintDigitsSpec)

/-- 'salvorlaw2.VintDigitsBack', WHERE WHAT IT READS IS OF BULK AT MOST 1048576: true; the input reads as it did. -/
def vintDigitsBackUptoRow : OpenClaim := { program := "ytocfkhpfpepcmaa", sum := "a4aab6ccc98bfefa7f3c9a2c95ad344453c54b681c3dca0ed5eebfa74544d6b6", func := "salvor/salvorlaw2.VintDigitsBack", spec := "vintDigitsBack", unfollowed := true, recurses := true, apart := false, narrowed := true }
def VintDigitsBackUptoSaid : Prop := vintDigitsBackUptoRow.holds Try.pinned (OpenSpec.upto vintDigitsBackSpec)

/-- 'salvorlaw2.VintEncode', WHERE WHAT IT READS IS OF BULK AT MOST 1048576: true; the input reads as it did. -/
def vintEncodeUptoRow : OpenClaim := { program := "ytocfkhpfpepcmaa", sum := "a4aab6ccc98bfefa7f3c9a2c95ad344453c54b681c3dca0ed5eebfa74544d6b6", func := "salvor/salvorlaw2.VintEncode", spec := "vintEncode", unfollowed := true, recurses := true, apart := false, narrowed := true }
def VintEncodeUptoSaid : Prop := vintEncodeUptoRow.holds Try.pinned (OpenSpec.upto vintEncodeSpec)

/-- 'salvorlaw2.VintBack', WHERE WHAT IT READS IS OF BULK AT MOST 1048576: true; the input reads as it did. -/
def vintBackUptoRow : OpenClaim := { program := "ytocfkhpfpepcmaa", sum := "a4aab6ccc98bfefa7f3c9a2c95ad344453c54b681c3dca0ed5eebfa74544d6b6", func := "salvor/salvorlaw2.VintBack", spec := "vintBack", unfollowed := true, recurses := true, apart := false, narrowed := true }
def VintBackUptoSaid : Prop := vintBackUptoRow.holds Try.pinned (OpenSpec.upto vintBackSpec)

/-- 'salvorlaw2.VintSplit', WHERE WHAT IT READS IS OF BULK AT MOST 1048576: true; the input reads as it did. -/
def vintSplitUptoRow : OpenClaim := { program := "ytocfkhpfpepcmaa", sum := "a4aab6ccc98bfefa7f3c9a2c95ad344453c54b681c3dca0ed5eebfa74544d6b6", func := "salvor/salvorlaw2.VintSplit", spec := "vintSplit", unfollowed := true, recurses := true, apart := false, narrowed := true }
def VintSplitUptoSaid : Prop := vintSplitUptoRow.holds Try.pinned (OpenSpec.upto vintSplitSpec)

/-- 'salvortop.TopNumbers', WHERE WHAT IT READS IS OF BULK AT MOST 1048576: true; the input reads as it did. -/
def topNumbersUptoRow : OpenClaim := { program := "ytocfkhpfpepcmaa", sum := "a4aab6ccc98bfefa7f3c9a2c95ad344453c54b681c3dca0ed5eebfa74544d6b6", func := "salvor/salvortop.TopNumbers", spec := "topNumbers", unfollowed := true, recurses := true, apart := false, narrowed := true }
def TopNumbersUptoSaid : Prop := topNumbersUptoRow.holds Try.pinned (OpenSpec.upto topNumbersSpec)

end Rows
end Go.Proofs.Ytocfkhpfpepcmaa
