/-
  No cell of these rows narrows 'for every input' (looked for: loops, veiled, ifaces, maps, wideKeys, modest, calm, conditions, laid).
  DERIVED. THE GIVEN ROWS OF THIS SEAT. 8 by the template 'for every input the law returns true; each argument reads behind the call as it read before'; 0 by the template 'total and deterministic' (their statements: YtmbhpcdamfdphaaTotals.lean).
  GIVEN WITH THE SEED: the statements are not yours to turn. If you find one false, say at which input.
  Laid BY PROGRAM, IN A SANDBOX (cutbox-rows.mjs): the forced cells as the released guide's own fill.sh prints them over the translation 00e98e7d950bfd73… (all of the seat's roots in one cut). By AI agents, Wed Nov 11 2026. No macro, syntax, notation, axiom, sorry.
-/
import Derived.Test.YtmbhpcdamfdphaaChecked
import GoSem.Claim
import GoSem.ClaimJoined
import GoSem.ClaimMapViews
import Derived.JoinedTies
import Derived.KernelRfl
namespace Go.Proofs.Ytmbhpcdamfdphaa
/- THE CELL 'sum', in the pinned program and in every row, IS THE sha256 OF THE DUMP (.gsa) THAT YtmbhpcdamfdphaaProg.lean LOADS. Nothing in Lean hashes anything: it is a label: what it is worth is what the hold of that sum in a sandbox is worth. -/
noncomputable def Try.pinned : Pinned := { name := "ytmbhpcdamfdphaa", sum := "00e98e7d950bfd73b6be748cdaaf06ab993b431cc1ddc04ac7593163d40e971c", checked := Try.checked }
namespace Rows
def none {H : Type} : Left H := { results := [], args := [] }

/-- 'salvorlaw10.HintMakes': WHATEVER THE INPUT: true; the input reads as it did. -/
def hintMakesSpec : ChangeSpec := { name := "hintMakes", fn := fun _ => fun
  | [d] => { results := [.lit (.bool true)], args := [d] }
  | _ => none }
def hintMakesRow : OpenClaim := { program := "ytmbhpcdamfdphaa", sum := "00e98e7d950bfd73b6be748cdaaf06ab993b431cc1ddc04ac7593163d40e971c", func := "salvor/salvorlaw10.HintMakes", spec := "hintMakes", inPlace := ["internal/bytealg.Count", "internal/bytealg.IndexByte", "internal/bytealg.Index"], unfollowed := true, recurses := true, named := ["internal/bytealg.MaxLen"], apart := false }
def HintMakesSaid : Prop := hintMakesRow.holds Try.pinned (OpenSpec.ofChange hintMakesSpec)

/-- ITS FALSE NEIGHBOUR: 'it returns false'. Refute it at one input. -/
def hintMakesWrong : ChangeSpec := { name := "hintMakes", fn := fun _ => fun
  | [d] => { results := [.lit (.bool false)], args := [d] }
  | _ => none }
def HintMakesWrongFalsely : Prop := hintMakesRow.holds Try.pinned (OpenSpec.ofChange hintMakesWrong)

/-- 'salvorlaw10.HintLoads': WHATEVER THE INPUT: true; the input reads as it did. -/
def hintLoadsSpec : ChangeSpec := { name := "hintLoads", fn := fun _ => fun
  | [d1, d2] => { results := [.lit (.bool true)], args := [d1, d2] }
  | _ => none }
def hintLoadsRow : OpenClaim := { program := "ytmbhpcdamfdphaa", sum := "00e98e7d950bfd73b6be748cdaaf06ab993b431cc1ddc04ac7593163d40e971c", func := "salvor/salvorlaw10.HintLoads", spec := "hintLoads", inPlace := ["internal/bytealg.Count", "internal/bytealg.IndexByte", "internal/bytealg.Index"], unfollowed := true, recurses := true, named := ["internal/bytealg.MaxLen"], apart := false }
def HintLoadsSaid : Prop := hintLoadsRow.holds Try.pinned (OpenSpec.ofChange hintLoadsSpec)

/-- ITS FALSE NEIGHBOUR: 'it returns false'. Refute it at one input. -/
def hintLoadsWrong : ChangeSpec := { name := "hintLoads", fn := fun _ => fun
  | [d1, d2] => { results := [.lit (.bool false)], args := [d1, d2] }
  | _ => none }
def HintLoadsWrongFalsely : Prop := hintLoadsRow.holds Try.pinned (OpenSpec.ofChange hintLoadsWrong)

/-- 'salvorlaw10.HintChecks': WHATEVER THE INPUT: true; the input reads as it did. -/
def hintChecksSpec : ChangeSpec := { name := "hintChecks", fn := fun _ => fun
  | [d1, d2] => { results := [.lit (.bool true)], args := [d1, d2] }
  | _ => none }
def hintChecksRow : OpenClaim := { program := "ytmbhpcdamfdphaa", sum := "00e98e7d950bfd73b6be748cdaaf06ab993b431cc1ddc04ac7593163d40e971c", func := "salvor/salvorlaw10.HintChecks", spec := "hintChecks", inPlace := ["internal/bytealg.Count", "internal/bytealg.IndexByte", "internal/bytealg.Index"], unfollowed := true, recurses := true, named := ["internal/bytealg.MaxLen"], apart := false }
def HintChecksSaid : Prop := hintChecksRow.holds Try.pinned (OpenSpec.ofChange hintChecksSpec)

/-- ITS FALSE NEIGHBOUR: 'it returns false'. Refute it at one input. -/
def hintChecksWrong : ChangeSpec := { name := "hintChecks", fn := fun _ => fun
  | [d1, d2] => { results := [.lit (.bool false)], args := [d1, d2] }
  | _ => none }
def HintChecksWrongFalsely : Prop := hintChecksRow.holds Try.pinned (OpenSpec.ofChange hintChecksWrong)

/-- 'salvorlaw10.HintForged': WHATEVER THE INPUT: true; the input reads as it did. -/
def hintForgedSpec : ChangeSpec := { name := "hintForged", fn := fun _ => fun
  | [d1, d2] => { results := [.lit (.bool true)], args := [d1, d2] }
  | _ => none }
def hintForgedRow : OpenClaim := { program := "ytmbhpcdamfdphaa", sum := "00e98e7d950bfd73b6be748cdaaf06ab993b431cc1ddc04ac7593163d40e971c", func := "salvor/salvorlaw10.HintForged", spec := "hintForged", inPlace := ["internal/bytealg.Count", "internal/bytealg.IndexByte", "internal/bytealg.Index"], unfollowed := true, recurses := true, named := ["internal/bytealg.MaxLen"], apart := false }
def HintForgedSaid : Prop := hintForgedRow.holds Try.pinned (OpenSpec.ofChange hintForgedSpec)

/-- ITS FALSE NEIGHBOUR: 'it returns false'. Refute it at one input. -/
def hintForgedWrong : ChangeSpec := { name := "hintForged", fn := fun _ => fun
  | [d1, d2] => { results := [.lit (.bool false)], args := [d1, d2] }
  | _ => none }
def HintForgedWrongFalsely : Prop := hintForgedRow.holds Try.pinned (OpenSpec.ofChange hintForgedWrong)

/-- 'salvorlaw10.HintDirt': WHATEVER THE INPUT: true; the input reads as it did. -/
def hintDirtSpec : ChangeSpec := { name := "hintDirt", fn := fun _ => fun
  | [d] => { results := [.lit (.bool true)], args := [d] }
  | _ => none }
def hintDirtRow : OpenClaim := { program := "ytmbhpcdamfdphaa", sum := "00e98e7d950bfd73b6be748cdaaf06ab993b431cc1ddc04ac7593163d40e971c", func := "salvor/salvorlaw10.HintDirt", spec := "hintDirt", inPlace := ["internal/bytealg.Count", "internal/bytealg.IndexByte", "internal/bytealg.Index"], unfollowed := true, recurses := true, named := ["internal/bytealg.MaxLen"], apart := false }
def HintDirtSaid : Prop := hintDirtRow.holds Try.pinned (OpenSpec.ofChange hintDirtSpec)

/-- ITS FALSE NEIGHBOUR: 'it returns false'. Refute it at one input. -/
def hintDirtWrong : ChangeSpec := { name := "hintDirt", fn := fun _ => fun
  | [d] => { results := [.lit (.bool false)], args := [d] }
  | _ => none }
def HintDirtWrongFalsely : Prop := hintDirtRow.holds Try.pinned (OpenSpec.ofChange hintDirtWrong)

/-- 'salvorlaw10.HintBack': WHATEVER THE INPUT: true; the input reads as it did. -/
def hintBackSpec : ChangeSpec := { name := "hintBack", fn := fun _ => fun
  | [d1, d2] => { results := [.lit (.bool true)], args := [d1, d2] }
  | _ => none }
def hintBackRow : OpenClaim := { program := "ytmbhpcdamfdphaa", sum := "00e98e7d950bfd73b6be748cdaaf06ab993b431cc1ddc04ac7593163d40e971c", func := "salvor/salvorlaw10.HintBack", spec := "hintBack", inPlace := ["internal/bytealg.Count", "internal/bytealg.IndexByte", "internal/bytealg.Index"], unfollowed := true, recurses := true, named := ["internal/bytealg.MaxLen"], apart := false }
def HintBackSaid : Prop := hintBackRow.holds Try.pinned (OpenSpec.ofChange hintBackSpec)

/-- ITS FALSE NEIGHBOUR: 'it returns false'. Refute it at one input. -/
def hintBackWrong : ChangeSpec := { name := "hintBack", fn := fun _ => fun
  | [d1, d2] => { results := [.lit (.bool false)], args := [d1, d2] }
  | _ => none }
def HintBackWrongFalsely : Prop := hintBackRow.holds Try.pinned (OpenSpec.ofChange hintBackWrong)

/-- 'salvorlaw10.HintWhole': WHATEVER THE INPUT: true; the input reads as it did. -/
def hintWholeSpec : ChangeSpec := { name := "hintWhole", fn := fun _ => fun
  | [d1, d2] => { results := [.lit (.bool true)], args := [d1, d2] }
  | _ => none }
def hintWholeRow : OpenClaim := { program := "ytmbhpcdamfdphaa", sum := "00e98e7d950bfd73b6be748cdaaf06ab993b431cc1ddc04ac7593163d40e971c", func := "salvor/salvorlaw10.HintWhole", spec := "hintWhole", inPlace := ["internal/bytealg.Count", "internal/bytealg.IndexByte", "internal/bytealg.Index"], unfollowed := true, recurses := true, named := ["internal/bytealg.MaxLen"], apart := false }
def HintWholeSaid : Prop := hintWholeRow.holds Try.pinned (OpenSpec.ofChange hintWholeSpec)

/-- ITS FALSE NEIGHBOUR: 'it returns false'. Refute it at one input. -/
def hintWholeWrong : ChangeSpec := { name := "hintWhole", fn := fun _ => fun
  | [d1, d2] => { results := [.lit (.bool false)], args := [d1, d2] }
  | _ => none }
def HintWholeWrongFalsely : Prop := hintWholeRow.holds Try.pinned (OpenSpec.ofChange hintWholeWrong)

/-- 'salvortop.TopHinted': WHATEVER THE INPUT: true; the input reads as it did. -/
def topHintedSpec : ChangeSpec := { name := "topHinted", fn := fun _ => fun
  | [d1, d2, d3, d4] => { results := [.lit (.bool true)], args := [d1, d2, d3, d4] }
  | _ => none }
def topHintedRow : OpenClaim := { program := "ytmbhpcdamfdphaa", sum := "00e98e7d950bfd73b6be748cdaaf06ab993b431cc1ddc04ac7593163d40e971c", func := "salvor/salvortop.TopHinted", spec := "topHinted", inPlace := ["internal/bytealg.Count", "internal/bytealg.IndexByte", "internal/bytealg.Index"], unfollowed := true, recurses := true, named := ["internal/bytealg.MaxLen"], apart := false }
def TopHintedSaid : Prop := topHintedRow.holds Try.pinned (OpenSpec.ofChange topHintedSpec)

/-- ITS FALSE NEIGHBOUR: 'it returns false'. Refute it at one input. -/
def topHintedWrong : ChangeSpec := { name := "topHinted", fn := fun _ => fun
  | [d1, d2, d3, d4] => { results := [.lit (.bool false)], args := [d1, d2, d3, d4] }
  | _ => none }
def TopHintedWrongFalsely : Prop := topHintedRow.holds Try.pinned (OpenSpec.ofChange topHintedWrong)

/- THE SECOND FORM. 'bulk': how many values and letters a reading holds, each counted each time it is reached (what is shared counts as often as it is met; a slice's spare places count too). A statement '..UptoSaid' is the law's where the arguments, and the package variables that the reading takes, are together of bulk at most 1048576: NARROWER than '..Said'. Prove '..Said' where nothing that the law and all that it calls make is longer than what came in: it says more and counts as full. Else prove '..UptoSaid'. A law counts once. -/
mutual
def uptoBulk {H : Type} : DataW H → Nat
  | .lit (.string bytes) => bytes.length + 1
  | .lit _ => 1
  | .nil => 1
  | .ptr d => uptoBulk d + 1
  | .slice elems spare => uptoBulkAll elems + uptoBulkAll spare + 1
  | .agg parts => uptoBulkAll parts + 1
  | .iface _ d => uptoBulk d + 1
  | .map entries => uptoBulkEntries entries + 1
  | .held _ => 1
def uptoBulkAll {H : Type} : List (DataW H) → Nat
  | [] => 0
  | d :: r => uptoBulk d + uptoBulkAll r
def uptoBulkEntries {H : Type} : List (Lit × DataW H) → Nat
  | [] => 0
  | x :: r => uptoBulkEntry x + uptoBulkEntries r
def uptoBulkEntry {H : Type} : Lit × DataW H → Nat
  | (.string bytes, d) => bytes.length + uptoBulk d + 1
  | (_, d) => uptoBulk d + 1
 end
def uptoSmall : (H : Type) → List (DataW H) → Bool := fun _ ds => decide (uptoBulkAll ds ≤ 1048576)
def OpenSpec.upto (s : _root_.Go.ChangeSpec) : _root_.Go.OpenSpec := { _root_.Go.OpenSpec.ofChange s with cond := some uptoSmall }

/-- 'salvorlaw10.HintMakes', WHERE WHAT IT READS IS OF BULK AT MOST 1048576: true; the input reads as it did. -/
def hintMakesUptoRow : OpenClaim := { program := "ytmbhpcdamfdphaa", sum := "00e98e7d950bfd73b6be748cdaaf06ab993b431cc1ddc04ac7593163d40e971c", func := "salvor/salvorlaw10.HintMakes", spec := "hintMakes", inPlace := ["internal/bytealg.Count", "internal/bytealg.IndexByte", "internal/bytealg.Index"], unfollowed := true, recurses := true, named := ["internal/bytealg.MaxLen"], apart := false, narrowed := true }
def HintMakesUptoSaid : Prop := hintMakesUptoRow.holds Try.pinned (OpenSpec.upto hintMakesSpec)

/-- 'salvorlaw10.HintLoads', WHERE WHAT IT READS IS OF BULK AT MOST 1048576: true; the input reads as it did. -/
def hintLoadsUptoRow : OpenClaim := { program := "ytmbhpcdamfdphaa", sum := "00e98e7d950bfd73b6be748cdaaf06ab993b431cc1ddc04ac7593163d40e971c", func := "salvor/salvorlaw10.HintLoads", spec := "hintLoads", inPlace := ["internal/bytealg.Count", "internal/bytealg.IndexByte", "internal/bytealg.Index"], unfollowed := true, recurses := true, named := ["internal/bytealg.MaxLen"], apart := false, narrowed := true }
def HintLoadsUptoSaid : Prop := hintLoadsUptoRow.holds Try.pinned (OpenSpec.upto hintLoadsSpec)

/-- 'salvorlaw10.HintChecks', WHERE WHAT IT READS IS OF BULK AT MOST 1048576: true; the input reads as it did. -/
def hintChecksUptoRow : OpenClaim := { program := "ytmbhpcdamfdphaa", sum := "00e98e7d950bfd73b6be748cdaaf06ab993b431cc1ddc04ac7593163d40e971c", func := "salvor/salvorlaw10.HintChecks", spec := "hintChecks", inPlace := ["internal/bytealg.Count", "internal/bytealg.IndexByte", "internal/bytealg.Index"], unfollowed := true, recurses := true, named := ["internal/bytealg.MaxLen"], apart := false, narrowed := true }
def HintChecksUptoSaid : Prop := hintChecksUptoRow.holds Try.pinned (OpenSpec.upto hintChecksSpec)

/-- 'salvorlaw10.HintForged', WHERE WHAT IT READS IS OF BULK AT MOST 1048576: true; the input reads as it did. -/
def hintForgedUptoRow : OpenClaim := { program := "ytmbhpcdamfdphaa", sum := "00e98e7d950bfd73b6be748cdaaf06ab993b431cc1ddc04ac7593163d40e971c", func := "salvor/salvorlaw10.HintForged", spec := "hintForged", inPlace := ["internal/bytealg.Count", "internal/bytealg.IndexByte", "internal/bytealg.Index"], unfollowed := true, recurses := true, named := ["internal/bytealg.MaxLen"], apart := false, narrowed := true }
def HintForgedUptoSaid : Prop := hintForgedUptoRow.holds Try.pinned (OpenSpec.upto hintForgedSpec)

/-- 'salvorlaw10.HintDirt', WHERE WHAT IT READS IS OF BULK AT MOST 1048576: true; the input reads as it did. -/
def hintDirtUptoRow : OpenClaim := { program := "ytmbhpcdamfdphaa", sum := "00e98e7d950bfd73b6be748cdaaf06ab993b431cc1ddc04ac7593163d40e971c", func := "salvor/salvorlaw10.HintDirt", spec := "hintDirt", inPlace := ["internal/bytealg.Count", "internal/bytealg.IndexByte", "internal/bytealg.Index"], unfollowed := true, recurses := true, named := ["internal/bytealg.MaxLen"], apart := false, narrowed := true }
def HintDirtUptoSaid : Prop := hintDirtUptoRow.holds Try.pinned (OpenSpec.upto hintDirtSpec)

/-- 'salvorlaw10.HintBack', WHERE WHAT IT READS IS OF BULK AT MOST 1048576: true; the input reads as it did. -/
def hintBackUptoRow : OpenClaim := { program := "ytmbhpcdamfdphaa", sum := "00e98e7d950bfd73b6be748cdaaf06ab993b431cc1ddc04ac7593163d40e971c", func := "salvor/salvorlaw10.HintBack", spec := "hintBack", inPlace := ["internal/bytealg.Count", "internal/bytealg.IndexByte", "internal/bytealg.Index"], unfollowed := true, recurses := true, named := ["internal/bytealg.MaxLen"], apart := false, narrowed := true }
def HintBackUptoSaid : Prop := hintBackUptoRow.holds Try.pinned (OpenSpec.upto hintBackSpec)

/-- 'salvorlaw10.HintWhole', WHERE WHAT IT READS IS OF BULK AT MOST 1048576: true; the input reads as it did. -/
def hintWholeUptoRow : OpenClaim := { program := "ytmbhpcdamfdphaa", sum := "00e98e7d950bfd73b6be748cdaaf06ab993b431cc1ddc04ac7593163d40e971c", func := "salvor/salvorlaw10.HintWhole", spec := "hintWhole", inPlace := ["internal/bytealg.Count", "internal/bytealg.IndexByte", "internal/bytealg.Index"], unfollowed := true, recurses := true, named := ["internal/bytealg.MaxLen"], apart := false, narrowed := true }
def HintWholeUptoSaid : Prop := hintWholeUptoRow.holds Try.pinned (OpenSpec.upto hintWholeSpec)

/-- 'salvortop.TopHinted', WHERE WHAT IT READS IS OF BULK AT MOST 1048576: true; the input reads as it did. -/
def topHintedUptoRow : OpenClaim := { program := "ytmbhpcdamfdphaa", sum := "00e98e7d950bfd73b6be748cdaaf06ab993b431cc1ddc04ac7593163d40e971c", func := "salvor/salvortop.TopHinted", spec := "topHinted", inPlace := ["internal/bytealg.Count", "internal/bytealg.IndexByte", "internal/bytealg.Index"], unfollowed := true, recurses := true, named := ["internal/bytealg.MaxLen"], apart := false, narrowed := true }
def TopHintedUptoSaid : Prop := topHintedUptoRow.holds Try.pinned (OpenSpec.upto topHintedSpec)

end Rows
end Go.Proofs.Ytmbhpcdamfdphaa
