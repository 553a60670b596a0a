/-
  No cell of these rows narrows 'for every input' (looked for: loops, veiled, ifaces, maps, wideKeys, modest, calm, conditions, laid).
  DERIVED. THE GIVEN ROWS OF THIS SEAT. 11 by the template 'for every input the law returns true; each argument reads behind the call as it read before'; 0 by the template 'total and deterministic' (their statements: YtgikgekddnfheaaTotals.lean).
  GIVEN WITH THE SEED: the statements are not yours to turn. If you find one false, say at which input.
  Laid BY PROGRAM, IN A SANDBOX (cutbox-rows.mjs): the forced cells as the released guide's own fill.sh prints them over the translation 5a23176966e74be3… (all of the seat's roots in one cut). By AI agents, Wed Nov 11 2026. No macro, syntax, notation, axiom, sorry.
-/
import Derived.Test.YtgikgekddnfheaaChecked
import GoSem.Claim
import GoSem.ClaimJoined
import GoSem.ClaimMapViews
import Derived.JoinedTies
import Derived.KernelRfl
namespace Go.Proofs.Ytgikgekddnfheaa
/- THE CELL 'sum', in the pinned program and in every row, IS THE sha256 OF THE DUMP (.gsa) THAT YtgikgekddnfheaaProg.lean LOADS. Nothing in Lean hashes anything: it is a label: what it is worth is what the hold of that sum in a sandbox is worth. -/
noncomputable def Try.pinned : Pinned := { name := "ytgikgekddnfheaa", sum := "5a23176966e74be35e04ce2930bdf34dddaaa543def8351f0229b255d4e06ffc", checked := Try.checked }
namespace Rows
def none {H : Type} : Left H := { results := [], args := [] }

/-- 'salvorlaw3.EscapeNumbers': WHATEVER THE INPUT: true; the input reads as it did. -/
def escapeNumbersSpec : ChangeSpec := { name := "escapeNumbers", fn := fun _ => fun
  | [] => { results := [.lit (.bool true)], args := [] }
  | _ => none }
def escapeNumbersRow : OpenClaim := { program := "ytgikgekddnfheaa", sum := "5a23176966e74be35e04ce2930bdf34dddaaa543def8351f0229b255d4e06ffc", func := "salvor/salvorlaw3.EscapeNumbers", spec := "escapeNumbers", apart := false }
def EscapeNumbersSaid : Prop := escapeNumbersRow.holds Try.pinned (OpenSpec.ofChange escapeNumbersSpec)

/-- ITS FALSE NEIGHBOUR: 'it returns false'. Refute it at one input. -/
def escapeNumbersWrong : ChangeSpec := { name := "escapeNumbers", fn := fun _ => fun
  | [] => { results := [.lit (.bool false)], args := [] }
  | _ => none }
def EscapeNumbersWrongFalsely : Prop := escapeNumbersRow.holds Try.pinned (OpenSpec.ofChange escapeNumbersWrong)

/-- 'salvorlaw3.EscapeNexts': WHATEVER THE INPUT: true; the input reads as it did. -/
def escapeNextsSpec : ChangeSpec := { name := "escapeNexts", fn := fun _ => fun
  | [d1, d2, d3] => { results := [.lit (.bool true)], args := [d1, d2, d3] }
  | _ => none }
def escapeNextsRow : OpenClaim := { program := "ytgikgekddnfheaa", sum := "5a23176966e74be35e04ce2930bdf34dddaaa543def8351f0229b255d4e06ffc", func := "salvor/salvorlaw3.EscapeNexts", spec := "escapeNexts", inPlace := ["internal/bytealg.IndexByte"], apart := false }
def EscapeNextsSaid : Prop := escapeNextsRow.holds Try.pinned (OpenSpec.ofChange escapeNextsSpec)

/-- ITS FALSE NEIGHBOUR: 'it returns false'. Refute it at one input. -/
def escapeNextsWrong : ChangeSpec := { name := "escapeNexts", fn := fun _ => fun
  | [d1, d2, d3] => { results := [.lit (.bool false)], args := [d1, d2, d3] }
  | _ => none }
def EscapeNextsWrongFalsely : Prop := escapeNextsRow.holds Try.pinned (OpenSpec.ofChange escapeNextsWrong)

/-- 'salvorlaw3.EscapeEaches': WHATEVER THE INPUT: true; the input reads as it did. -/
def escapeEachesSpec : ChangeSpec := { name := "escapeEaches", fn := fun _ => fun
  | [d1, d2, d3] => { results := [.lit (.bool true)], args := [d1, d2, d3] }
  | _ => none }
def escapeEachesRow : OpenClaim := { program := "ytgikgekddnfheaa", sum := "5a23176966e74be35e04ce2930bdf34dddaaa543def8351f0229b255d4e06ffc", func := "salvor/salvorlaw3.EscapeEaches", spec := "escapeEaches", unfollowed := true, recurses := true, apart := false }
def EscapeEachesSaid : Prop := escapeEachesRow.holds Try.pinned (OpenSpec.ofChange escapeEachesSpec)

/-- ITS FALSE NEIGHBOUR: 'it returns false'. Refute it at one input. -/
def escapeEachesWrong : ChangeSpec := { name := "escapeEaches", fn := fun _ => fun
  | [d1, d2, d3] => { results := [.lit (.bool false)], args := [d1, d2, d3] }
  | _ => none }
def EscapeEachesWrongFalsely : Prop := escapeEachesRow.holds Try.pinned (OpenSpec.ofChange escapeEachesWrong)

/-- 'salvorlaw3.EscapeOpens': WHATEVER THE INPUT: true; the input reads as it did. -/
def escapeOpensSpec : ChangeSpec := { name := "escapeOpens", fn := fun _ => fun
  | [d1, d2] => { results := [.lit (.bool true)], args := [d1, d2] }
  | _ => none }
def escapeOpensRow : OpenClaim := { program := "ytgikgekddnfheaa", sum := "5a23176966e74be35e04ce2930bdf34dddaaa543def8351f0229b255d4e06ffc", func := "salvor/salvorlaw3.EscapeOpens", spec := "escapeOpens", apart := false }
def EscapeOpensSaid : Prop := escapeOpensRow.holds Try.pinned (OpenSpec.ofChange escapeOpensSpec)

/-- ITS FALSE NEIGHBOUR: 'it returns false'. Refute it at one input. -/
def escapeOpensWrong : ChangeSpec := { name := "escapeOpens", fn := fun _ => fun
  | [d1, d2] => { results := [.lit (.bool false)], args := [d1, d2] }
  | _ => none }
def EscapeOpensWrongFalsely : Prop := escapeOpensRow.holds Try.pinned (OpenSpec.ofChange escapeOpensWrong)

/-- 'salvorlaw3.EscapeWraps': WHATEVER THE INPUT: true; the input reads as it did. -/
def escapeWrapsSpec : ChangeSpec := { name := "escapeWraps", fn := fun _ => fun
  | [d1, d2] => { results := [.lit (.bool true)], args := [d1, d2] }
  | _ => none }
def escapeWrapsRow : OpenClaim := { program := "ytgikgekddnfheaa", sum := "5a23176966e74be35e04ce2930bdf34dddaaa543def8351f0229b255d4e06ffc", func := "salvor/salvorlaw3.EscapeWraps", spec := "escapeWraps", inPlace := ["internal/bytealg.Count", "internal/bytealg.IndexByte", "internal/bytealg.Index"], named := ["internal/bytealg.MaxLen"], apart := false }
def EscapeWrapsSaid : Prop := escapeWrapsRow.holds Try.pinned (OpenSpec.ofChange escapeWrapsSpec)

/-- ITS FALSE NEIGHBOUR: 'it returns false'. Refute it at one input. -/
def escapeWrapsWrong : ChangeSpec := { name := "escapeWraps", fn := fun _ => fun
  | [d1, d2] => { results := [.lit (.bool false)], args := [d1, d2] }
  | _ => none }
def EscapeWrapsWrongFalsely : Prop := escapeWrapsRow.holds Try.pinned (OpenSpec.ofChange escapeWrapsWrong)

/-- 'salvorlaw3.EscapeStops': WHATEVER THE INPUT: true; the input reads as it did. -/
def escapeStopsSpec : ChangeSpec := { name := "escapeStops", fn := fun _ => fun
  | [d1, d2] => { results := [.lit (.bool true)], args := [d1, d2] }
  | _ => none }
def escapeStopsRow : OpenClaim := { program := "ytgikgekddnfheaa", sum := "5a23176966e74be35e04ce2930bdf34dddaaa543def8351f0229b255d4e06ffc", func := "salvor/salvorlaw3.EscapeStops", spec := "escapeStops", inPlace := ["internal/bytealg.Count", "internal/bytealg.IndexByte", "internal/bytealg.Index"], unfollowed := true, recurses := true, named := ["internal/bytealg.MaxLen"], apart := false }
def EscapeStopsSaid : Prop := escapeStopsRow.holds Try.pinned (OpenSpec.ofChange escapeStopsSpec)

/-- ITS FALSE NEIGHBOUR: 'it returns false'. Refute it at one input. -/
def escapeStopsWrong : ChangeSpec := { name := "escapeStops", fn := fun _ => fun
  | [d1, d2] => { results := [.lit (.bool false)], args := [d1, d2] }
  | _ => none }
def EscapeStopsWrongFalsely : Prop := escapeStopsRow.holds Try.pinned (OpenSpec.ofChange escapeStopsWrong)

/-- 'salvorlaw3.EscapeOnly': WHATEVER THE INPUT: true; the input reads as it did. -/
def escapeOnlySpec : ChangeSpec := { name := "escapeOnly", fn := fun _ => fun
  | [d] => { results := [.lit (.bool true)], args := [d] }
  | _ => none }
def escapeOnlyRow : OpenClaim := { program := "ytgikgekddnfheaa", sum := "5a23176966e74be35e04ce2930bdf34dddaaa543def8351f0229b255d4e06ffc", func := "salvor/salvorlaw3.EscapeOnly", spec := "escapeOnly", inPlace := ["internal/bytealg.Count", "internal/bytealg.IndexByte", "internal/bytealg.Index"], named := ["internal/bytealg.MaxLen"], apart := false }
def EscapeOnlySaid : Prop := escapeOnlyRow.holds Try.pinned (OpenSpec.ofChange escapeOnlySpec)

/-- ITS FALSE NEIGHBOUR: 'it returns false'. Refute it at one input. -/
def escapeOnlyWrong : ChangeSpec := { name := "escapeOnly", fn := fun _ => fun
  | [d] => { results := [.lit (.bool false)], args := [d] }
  | _ => none }
def EscapeOnlyWrongFalsely : Prop := escapeOnlyRow.holds Try.pinned (OpenSpec.ofChange escapeOnlyWrong)

/-- 'salvorlaw3.EscapeJoined': WHATEVER THE INPUT: true; the input reads as it did. -/
def escapeJoinedSpec : ChangeSpec := { name := "escapeJoined", fn := fun _ => fun
  | [d1, d2] => { results := [.lit (.bool true)], args := [d1, d2] }
  | _ => none }
def escapeJoinedRow : OpenClaim := { program := "ytgikgekddnfheaa", sum := "5a23176966e74be35e04ce2930bdf34dddaaa543def8351f0229b255d4e06ffc", func := "salvor/salvorlaw3.EscapeJoined", spec := "escapeJoined", inPlace := ["internal/bytealg.Count", "internal/bytealg.IndexByte", "internal/bytealg.Index"], named := ["internal/bytealg.MaxLen"], apart := false }
def EscapeJoinedSaid : Prop := escapeJoinedRow.holds Try.pinned (OpenSpec.ofChange escapeJoinedSpec)

/-- ITS FALSE NEIGHBOUR: 'it returns false'. Refute it at one input. -/
def escapeJoinedWrong : ChangeSpec := { name := "escapeJoined", fn := fun _ => fun
  | [d1, d2] => { results := [.lit (.bool false)], args := [d1, d2] }
  | _ => none }
def EscapeJoinedWrongFalsely : Prop := escapeJoinedRow.holds Try.pinned (OpenSpec.ofChange escapeJoinedWrong)

/-- 'salvorlaw3.EscapeHeads': WHATEVER THE INPUT: true; the input reads as it did. -/
def escapeHeadsSpec : ChangeSpec := { name := "escapeHeads", fn := fun _ => fun
  | [d1, d2] => { results := [.lit (.bool true)], args := [d1, d2] }
  | _ => none }
def escapeHeadsRow : OpenClaim := { program := "ytgikgekddnfheaa", sum := "5a23176966e74be35e04ce2930bdf34dddaaa543def8351f0229b255d4e06ffc", func := "salvor/salvorlaw3.EscapeHeads", spec := "escapeHeads", inPlace := ["internal/bytealg.Count", "internal/bytealg.IndexByte", "internal/bytealg.Index"], named := ["internal/bytealg.MaxLen"], apart := false }
def EscapeHeadsSaid : Prop := escapeHeadsRow.holds Try.pinned (OpenSpec.ofChange escapeHeadsSpec)

/-- ITS FALSE NEIGHBOUR: 'it returns false'. Refute it at one input. -/
def escapeHeadsWrong : ChangeSpec := { name := "escapeHeads", fn := fun _ => fun
  | [d1, d2] => { results := [.lit (.bool false)], args := [d1, d2] }
  | _ => none }
def EscapeHeadsWrongFalsely : Prop := escapeHeadsRow.holds Try.pinned (OpenSpec.ofChange escapeHeadsWrong)

/-- 'salvorlaw3.EscapeBack': WHATEVER THE INPUT: true; the input reads as it did. -/
def escapeBackSpec : ChangeSpec := { name := "escapeBack", fn := fun _ => fun
  | [d] => { results := [.lit (.bool true)], args := [d] }
  | _ => none }
def escapeBackRow : OpenClaim := { program := "ytgikgekddnfheaa", sum := "5a23176966e74be35e04ce2930bdf34dddaaa543def8351f0229b255d4e06ffc", func := "salvor/salvorlaw3.EscapeBack", spec := "escapeBack", inPlace := ["internal/bytealg.Count", "internal/bytealg.IndexByte", "internal/bytealg.Index"], named := ["internal/bytealg.MaxLen"], apart := false }
def EscapeBackSaid : Prop := escapeBackRow.holds Try.pinned (OpenSpec.ofChange escapeBackSpec)

/-- ITS FALSE NEIGHBOUR: 'it returns false'. Refute it at one input. -/
def escapeBackWrong : ChangeSpec := { name := "escapeBack", fn := fun _ => fun
  | [d] => { results := [.lit (.bool false)], args := [d] }
  | _ => none }
def EscapeBackWrongFalsely : Prop := escapeBackRow.holds Try.pinned (OpenSpec.ofChange escapeBackWrong)

/-- 'salvortop.TopEscaped': WHATEVER THE INPUT: true; the input reads as it did. -/
def topEscapedSpec : ChangeSpec := { name := "topEscaped", fn := fun _ => fun
  | [d1, d2] => { results := [.lit (.bool true)], args := [d1, d2] }
  | _ => none }
def topEscapedRow : OpenClaim := { program := "ytgikgekddnfheaa", sum := "5a23176966e74be35e04ce2930bdf34dddaaa543def8351f0229b255d4e06ffc", func := "salvor/salvortop.TopEscaped", spec := "topEscaped", inPlace := ["internal/bytealg.Count", "internal/bytealg.IndexByte", "internal/bytealg.Index"], named := ["internal/bytealg.MaxLen"], apart := false }
def TopEscapedSaid : Prop := topEscapedRow.holds Try.pinned (OpenSpec.ofChange topEscapedSpec)

/-- ITS FALSE NEIGHBOUR: 'it returns false'. Refute it at one input. -/
def topEscapedWrong : ChangeSpec := { name := "topEscaped", fn := fun _ => fun
  | [d1, d2] => { results := [.lit (.bool false)], args := [d1, d2] }
  | _ => none }
def TopEscapedWrongFalsely : Prop := topEscapedRow.holds Try.pinned (OpenSpec.ofChange topEscapedWrong)

/- THE SECOND FORM. 'bulk': how many values and letters a reading holds, each counted each time it is reached (what is shared counts as often as it is met; a slice's spare places count too). A statement '..UptoSaid' is the law's where the arguments, and the package variables that the reading takes, are together of bulk at most 1048576: NARROWER than '..Said'. Prove '..Said' where nothing that the law and all that it calls make is longer than what came in: it says more and counts as full. Else prove '..UptoSaid'. A law counts once. -/
mutual
def uptoBulk {H : Type} : DataW H → Nat
  | .lit (.string bytes) => bytes.length + 1
  | .lit _ => 1
  | .nil => 1
  | .ptr d => uptoBulk d + 1
  | .slice elems spare => uptoBulkAll elems + uptoBulkAll spare + 1
  | .agg parts => uptoBulkAll parts + 1
  | .iface _ d => uptoBulk d + 1
  | .map entries => uptoBulkEntries entries + 1
  | .held _ => 1
def uptoBulkAll {H : Type} : List (DataW H) → Nat
  | [] => 0
  | d :: r => uptoBulk d + uptoBulkAll r
def uptoBulkEntries {H : Type} : List (Lit × DataW H) → Nat
  | [] => 0
  | x :: r => uptoBulkEntry x + uptoBulkEntries r
def uptoBulkEntry {H : Type} : Lit × DataW H → Nat
  | (.string bytes, d) => bytes.length + uptoBulk d + 1
  | (_, d) => uptoBulk d + 1
 end
def uptoSmall : (H : Type) → List (DataW H) → Bool := fun _ ds => decide (uptoBulkAll ds ≤ 1048576)
def OpenSpec.upto (s : _root_.Go.ChangeSpec) : _root_.Go.OpenSpec := { _root_.Go.OpenSpec.ofChange s with cond := some uptoSmall }

/-- 'salvorlaw3.EscapeNumbers', WHERE WHAT IT READS IS OF BULK AT MOST 1048576: true; the input reads as it did. -/
def escapeNumbersUptoRow : OpenClaim := { program := "ytgikgekddnfheaa", sum := "5a23176966e74be35e04ce2930bdf34dddaaa543def8351f0229b255d4e06ffc", func := "salvor/salvorlaw3.EscapeNumbers", spec := "escapeNumbers", apart := false, narrowed := true }
def EscapeNumbersUptoSaid : Prop := escapeNumbersUptoRow.holds Try.pinned (OpenSpec.upto escapeNumbersSpec)

/-- 'salvorlaw3.EscapeNexts', WHERE WHAT IT READS IS OF BULK AT MOST 1048576: true; the input reads as it did. -/
def escapeNextsUptoRow : OpenClaim := { program := "ytgikgekddnfheaa", sum := "5a23176966e74be35e04ce2930bdf34dddaaa543def8351f0229b255d4e06ffc", func := "salvor/salvorlaw3.EscapeNexts", spec := "escapeNexts", inPlace := ["internal/bytealg.IndexByte"], apart := false, narrowed := true }
def EscapeNextsUptoSaid : Prop := escapeNextsUptoRow.holds Try.pinned (OpenSpec.upto escapeNextsSpec)

/-- 'salvorlaw3.EscapeEaches', WHERE WHAT IT READS IS OF BULK AT MOST 1048576: true; the input reads as it did. -/
def escapeEachesUptoRow : OpenClaim := { program := "ytgikgekddnfheaa", sum := "5a23176966e74be35e04ce2930bdf34dddaaa543def8351f0229b255d4e06ffc", func := "salvor/salvorlaw3.EscapeEaches", spec := "escapeEaches", unfollowed := true, recurses := true, apart := false, narrowed := true }
def EscapeEachesUptoSaid : Prop := escapeEachesUptoRow.holds Try.pinned (OpenSpec.upto escapeEachesSpec)

/-- 'salvorlaw3.EscapeOpens', WHERE WHAT IT READS IS OF BULK AT MOST 1048576: true; the input reads as it did. -/
def escapeOpensUptoRow : OpenClaim := { program := "ytgikgekddnfheaa", sum := "5a23176966e74be35e04ce2930bdf34dddaaa543def8351f0229b255d4e06ffc", func := "salvor/salvorlaw3.EscapeOpens", spec := "escapeOpens", apart := false, narrowed := true }
def EscapeOpensUptoSaid : Prop := escapeOpensUptoRow.holds Try.pinned (OpenSpec.upto escapeOpensSpec)

/-- 'salvorlaw3.EscapeWraps', WHERE WHAT IT READS IS OF BULK AT MOST 1048576: true; the input reads as it did. -/
def escapeWrapsUptoRow : OpenClaim := { program := "ytgikgekddnfheaa", sum := "5a23176966e74be35e04ce2930bdf34dddaaa543def8351f0229b255d4e06ffc", func := "salvor/salvorlaw3.EscapeWraps", spec := "escapeWraps", inPlace := ["internal/bytealg.Count", "internal/bytealg.IndexByte", "internal/bytealg.Index"], named := ["internal/bytealg.MaxLen"], apart := false, narrowed := true }
def EscapeWrapsUptoSaid : Prop := escapeWrapsUptoRow.holds Try.pinned (OpenSpec.upto escapeWrapsSpec)

/-- 'salvorlaw3.EscapeStops', WHERE WHAT IT READS IS OF BULK AT MOST 1048576: true; the input reads as it did. -/
def escapeStopsUptoRow : OpenClaim := { program := "ytgikgekddnfheaa", sum := "5a23176966e74be35e04ce2930bdf34dddaaa543def8351f0229b255d4e06ffc", func := "salvor/salvorlaw3.EscapeStops", spec := "escapeStops", inPlace := ["internal/bytealg.Count", "internal/bytealg.IndexByte", "internal/bytealg.Index"], unfollowed := true, recurses := true, named := ["internal/bytealg.MaxLen"], apart := false, narrowed := true }
def EscapeStopsUptoSaid : Prop := escapeStopsUptoRow.holds Try.pinned (OpenSpec.upto escapeStopsSpec)

/-- 'salvorlaw3.EscapeOnly', WHERE WHAT IT READS IS OF BULK AT MOST 1048576: true; the input reads as it did. -/
def escapeOnlyUptoRow : OpenClaim := { program := "ytgikgekddnfheaa", sum := "5a23176966e74be35e04ce2930bdf34dddaaa543def8351f0229b255d4e06ffc", func := "salvor/salvorlaw3.EscapeOnly", spec := "escapeOnly", inPlace := ["internal/bytealg.Count", "internal/bytealg.IndexByte", "internal/bytealg.Index"], named := ["internal/bytealg.MaxLen"], apart := false, narrowed := true }
def EscapeOnlyUptoSaid : Prop := escapeOnlyUptoRow.holds Try.pinned (OpenSpec.upto escapeOnlySpec)

/-- 'salvorlaw3.EscapeJoined', WHERE WHAT IT READS IS OF BULK AT MOST 1048576: true; the input reads as it did. -/
def escapeJoinedUptoRow : OpenClaim := { program := "ytgikgekddnfheaa", sum := "5a23176966e74be35e04ce2930bdf34dddaaa543def8351f0229b255d4e06ffc", func := "salvor/salvorlaw3.EscapeJoined", spec := "escapeJoined", inPlace := ["internal/bytealg.Count", "internal/bytealg.IndexByte", "internal/bytealg.Index"], named := ["internal/bytealg.MaxLen"], apart := false, narrowed := true }
def EscapeJoinedUptoSaid : Prop := escapeJoinedUptoRow.holds Try.pinned (OpenSpec.upto escapeJoinedSpec)

/-- 'salvorlaw3.EscapeHeads', WHERE WHAT IT READS IS OF BULK AT MOST 1048576: true; the input reads as it did. -/
def escapeHeadsUptoRow : OpenClaim := { program := "ytgikgekddnfheaa", sum := "5a23176966e74be35e04ce2930bdf34dddaaa543def8351f0229b255d4e06ffc", func := "salvor/salvorlaw3.EscapeHeads", spec := "escapeHeads", inPlace := ["internal/bytealg.Count", "internal/bytealg.IndexByte", "internal/bytealg.Index"], named := ["internal/bytealg.MaxLen"], apart := false, narrowed := true }
def EscapeHeadsUptoSaid : Prop := escapeHeadsUptoRow.holds Try.pinned (OpenSpec.upto escapeHeadsSpec)

/-- 'salvorlaw3.EscapeBack', WHERE WHAT IT READS IS OF BULK AT MOST 1048576: true; the input reads as it did. -/
def escapeBackUptoRow : OpenClaim := { program := "ytgikgekddnfheaa", sum := "5a23176966e74be35e04ce2930bdf34dddaaa543def8351f0229b255d4e06ffc", func := "salvor/salvorlaw3.EscapeBack", spec := "escapeBack", inPlace := ["internal/bytealg.Count", "internal/bytealg.IndexByte", "internal/bytealg.Index"], named := ["internal/bytealg.MaxLen"], apart := false, narrowed := true }
def EscapeBackUptoSaid : Prop := escapeBackUptoRow.holds Try.pinned (OpenSpec.upto escapeBackSpec)

/-- 'salvortop.TopEscaped', WHERE WHAT IT READS IS OF BULK AT MOST 1048576: true; the input reads as it did. -/
def topEscapedUptoRow : OpenClaim := { program := "ytgikgekddnfheaa", sum := "5a23176966e74be35e04ce2930bdf34dddaaa543def8351f0229b255d4e06ffc", func := "salvor/salvortop.TopEscaped", spec := "topEscaped", inPlace := ["internal/bytealg.Count", "internal/bytealg.IndexByte", "internal/bytealg.Index"], named := ["internal/bytealg.MaxLen"], apart := false, narrowed := true }
def TopEscapedUptoSaid : Prop := topEscapedUptoRow.holds Try.pinned (OpenSpec.upto topEscapedSpec)

end Rows
end Go.Proofs.Ytgikgekddnfheaa
