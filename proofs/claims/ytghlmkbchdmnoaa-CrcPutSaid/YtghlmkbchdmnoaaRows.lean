/-
  No cell of these rows narrows 'for every input' (looked for: loops, veiled, ifaces, maps, wideKeys, modest, calm, conditions, laid).
  DERIVED. THE GIVEN ROWS OF THIS SEAT. 5 by the template 'for every input the law returns true; each argument reads behind the call as it read before'; 0 by the template 'total and deterministic' (their statements: YtghlmkbchdmnoaaTotals.lean).
  GIVEN WITH THE SEED: the statements are not yours to turn. If you find one false, say at which input.
  Laid BY PROGRAM, IN A SANDBOX (cutbox-rows.mjs): the forced cells as the released guide's own fill.sh prints them over the translation c578d70c86aabaa1… (all of the seat's roots in one cut). By AI agents, Wed Nov 11 2026. No macro, syntax, notation, axiom, sorry.
-/
import Derived.Test.YtghlmkbchdmnoaaChecked
import GoSem.Claim
import GoSem.ClaimJoined
import GoSem.ClaimMapViews
import Derived.JoinedTies
import Derived.KernelRfl
namespace Go.Proofs.Ytghlmkbchdmnoaa
/- THE CELL 'sum', in the pinned program and in every row, IS THE sha256 OF THE DUMP (.gsa) THAT YtghlmkbchdmnoaaProg.lean LOADS. Nothing in Lean hashes anything: it is a label: what it is worth is what the hold of that sum in a sandbox is worth. -/
noncomputable def Try.pinned : Pinned := { name := "ytghlmkbchdmnoaa", sum := "c578d70c86aabaa104bd97ca3d2a1b01ab927c82dffdb61f1ed7218288e56381", checked := Try.checked }
namespace Rows
def none {H : Type} : Left H := { results := [], args := [] }

/-- 'salvorlaw1.CrcSums': WHATEVER THE INPUT: true; the input reads as it did. -/
def crcSumsSpec : ChangeSpec := { name := "crcSums", fn := fun _ => fun
  | [d1, d2] => { results := [.lit (.bool true)], args := [d1, d2] }
  | _ => none }
def crcSumsRow : OpenClaim := { program := "ytghlmkbchdmnoaa", sum := "c578d70c86aabaa104bd97ca3d2a1b01ab927c82dffdb61f1ed7218288e56381", func := "salvor/salvorlaw1.CrcSums", spec := "crcSums", apart := false }
def CrcSumsSaid : Prop := crcSumsRow.holds Try.pinned (OpenSpec.ofChange crcSumsSpec)

/-- ITS FALSE NEIGHBOUR: 'it returns false'. Refute it at one input. -/
def crcSumsWrong : ChangeSpec := { name := "crcSums", fn := fun _ => fun
  | [d1, d2] => { results := [.lit (.bool false)], args := [d1, d2] }
  | _ => none }
def CrcSumsWrongFalsely : Prop := crcSumsRow.holds Try.pinned (OpenSpec.ofChange crcSumsWrong)

/-- 'salvorlaw1.CrcBursts': WHATEVER THE INPUT: true; the input reads as it did. -/
def crcBurstsSpec : ChangeSpec := { name := "crcBursts", fn := fun _ => fun
  | [d1, d2, d3] => { results := [.lit (.bool true)], args := [d1, d2, d3] }
  | _ => none }
def crcBurstsRow : OpenClaim := { program := "ytghlmkbchdmnoaa", sum := "c578d70c86aabaa104bd97ca3d2a1b01ab927c82dffdb61f1ed7218288e56381", func := "salvor/salvorlaw1.CrcBursts", spec := "crcBursts", apart := false }
def CrcBurstsSaid : Prop := crcBurstsRow.holds Try.pinned (OpenSpec.ofChange crcBurstsSpec)

/-- ITS FALSE NEIGHBOUR: 'it returns false'. Refute it at one input. -/
def crcBurstsWrong : ChangeSpec := { name := "crcBursts", fn := fun _ => fun
  | [d1, d2, d3] => { results := [.lit (.bool false)], args := [d1, d2, d3] }
  | _ => none }
def CrcBurstsWrongFalsely : Prop := crcBurstsRow.holds Try.pinned (OpenSpec.ofChange crcBurstsWrong)

/-- 'salvorlaw1.CrcPut': WHATEVER THE INPUT: true; the input reads as it did. -/
def crcPutSpec : ChangeSpec := { name := "crcPut", fn := fun _ => fun
  | [d1, d2] => { results := [.lit (.bool true)], args := [d1, d2] }
  | _ => none }
def crcPutRow : OpenClaim := { program := "ytghlmkbchdmnoaa", sum := "c578d70c86aabaa104bd97ca3d2a1b01ab927c82dffdb61f1ed7218288e56381", func := "salvor/salvorlaw1.CrcPut", spec := "crcPut", apart := false }
def CrcPutSaid : Prop := crcPutRow.holds Try.pinned (OpenSpec.ofChange crcPutSpec)

/-- ITS FALSE NEIGHBOUR: 'it returns false'. Refute it at one input. -/
def crcPutWrong : ChangeSpec := { name := "crcPut", fn := fun _ => fun
  | [d1, d2] => { results := [.lit (.bool false)], args := [d1, d2] }
  | _ => none }
def CrcPutWrongFalsely : Prop := crcPutRow.holds Try.pinned (OpenSpec.ofChange crcPutWrong)

/-- 'salvorlaw1.CrcForges': WHATEVER THE INPUT: true; the input reads as it did. -/
def crcForgesSpec : ChangeSpec := { name := "crcForges", fn := fun _ => fun
  | [d1, d2] => { results := [.lit (.bool true)], args := [d1, d2] }
  | _ => none }
def crcForgesRow : OpenClaim := { program := "ytghlmkbchdmnoaa", sum := "c578d70c86aabaa104bd97ca3d2a1b01ab927c82dffdb61f1ed7218288e56381", func := "salvor/salvorlaw1.CrcForges", spec := "crcForges", apart := false }
def CrcForgesSaid : Prop := crcForgesRow.holds Try.pinned (OpenSpec.ofChange crcForgesSpec)

/-- ITS FALSE NEIGHBOUR: 'it returns false'. Refute it at one input. -/
def crcForgesWrong : ChangeSpec := { name := "crcForges", fn := fun _ => fun
  | [d1, d2] => { results := [.lit (.bool false)], args := [d1, d2] }
  | _ => none }
def CrcForgesWrongFalsely : Prop := crcForgesRow.holds Try.pinned (OpenSpec.ofChange crcForgesWrong)

/-- 'salvorlaw1.CrcWill': WHATEVER THE INPUT: true; the input reads as it did. -/
def crcWillSpec : ChangeSpec := { name := "crcWill", fn := fun _ => fun
  | [d1, d2, d3] => { results := [.lit (.bool true)], args := [d1, d2, d3] }
  | _ => none }
def crcWillRow : OpenClaim := { program := "ytghlmkbchdmnoaa", sum := "c578d70c86aabaa104bd97ca3d2a1b01ab927c82dffdb61f1ed7218288e56381", func := "salvor/salvorlaw1.CrcWill", spec := "crcWill", apart := false }
def CrcWillSaid : Prop := crcWillRow.holds Try.pinned (OpenSpec.ofChange crcWillSpec)

/-- ITS FALSE NEIGHBOUR: 'it returns false'. Refute it at one input. -/
def crcWillWrong : ChangeSpec := { name := "crcWill", fn := fun _ => fun
  | [d1, d2, d3] => { results := [.lit (.bool false)], args := [d1, d2, d3] }
  | _ => none }
def CrcWillWrongFalsely : Prop := crcWillRow.holds Try.pinned (OpenSpec.ofChange crcWillWrong)

/- THE SECOND FORM. 'bulk': how many values and letters a reading holds, each counted each time it is reached (what is shared counts as often as it is met; a slice's spare places count too). A statement '..UptoSaid' is the law's where the arguments, and the package variables that the reading takes, are together of bulk at most 1048576: NARROWER than '..Said'. Prove '..Said' where nothing that the law and all that it calls make is longer than what came in: it says more and counts as full. Else prove '..UptoSaid'. A law counts once. -/
mutual
def uptoBulk {H : Type} : DataW H → Nat
  | .lit (.string bytes) => bytes.length + 1
  | .lit _ => 1
  | .nil => 1
  | .ptr d => uptoBulk d + 1
  | .slice elems spare => uptoBulkAll elems + uptoBulkAll spare + 1
  | .agg parts => uptoBulkAll parts + 1
  | .iface _ d => uptoBulk d + 1
  | .map entries => uptoBulkEntries entries + 1
  | .held _ => 1
def uptoBulkAll {H : Type} : List (DataW H) → Nat
  | [] => 0
  | d :: r => uptoBulk d + uptoBulkAll r
def uptoBulkEntries {H : Type} : List (Lit × DataW H) → Nat
  | [] => 0
  | x :: r => uptoBulkEntry x + uptoBulkEntries r
def uptoBulkEntry {H : Type} : Lit × DataW H → Nat
  | (.string bytes, d) => bytes.length + uptoBulk d + 1
  | (_, d) => uptoBulk d + 1
 end
def uptoSmall : (H : Type) → List (DataW H) → Bool := fun _ ds => decide (uptoBulkAll ds ≤ 1048576)
def OpenSpec.upto (s : _root_.Go.ChangeSpec) : _root_.Go.OpenSpec := { _root_.Go.OpenSpec.ofChange s with cond := some uptoSmall }

/-- 'salvorlaw1.CrcSums', WHERE WHAT IT READS IS OF BULK AT MOST 1048576: true; the input reads as it did. -/
def crcSumsUptoRow : OpenClaim := { program := "ytghlmkbchdmnoaa", sum := "c578d70c86aabaa104bd97ca3d2a1b01ab927c82dffdb61f1ed7218288e56381", func := "salvor/salvorlaw1.CrcSums", spec := "crcSums", apart := false, narrowed := true }
def CrcSumsUptoSaid : Prop := crcSumsUptoRow.holds Try.pinned (OpenSpec.upto crcSumsSpec)

/-- 'salvorlaw1.CrcBursts', WHERE WHAT IT READS IS OF BULK AT MOST 1048576: true; the input reads as it did. -/
def crcBurstsUptoRow : OpenClaim := { program := "ytghlmkbchdmnoaa", sum := "c578d70c86aabaa104bd97ca3d2a1b01ab927c82dffdb61f1ed7218288e56381", func := "salvor/salvorlaw1.CrcBursts", spec := "crcBursts", apart := false, narrowed := true }
def CrcBurstsUptoSaid : Prop := crcBurstsUptoRow.holds Try.pinned (OpenSpec.upto crcBurstsSpec)

/-- 'salvorlaw1.CrcPut', WHERE WHAT IT READS IS OF BULK AT MOST 1048576: true; the input reads as it did. -/
def crcPutUptoRow : OpenClaim := { program := "ytghlmkbchdmnoaa", sum := "c578d70c86aabaa104bd97ca3d2a1b01ab927c82dffdb61f1ed7218288e56381", func := "salvor/salvorlaw1.CrcPut", spec := "crcPut", apart := false, narrowed := true }
def CrcPutUptoSaid : Prop := crcPutUptoRow.holds Try.pinned (OpenSpec.upto crcPutSpec)

/-- 'salvorlaw1.CrcForges', WHERE WHAT IT READS IS OF BULK AT MOST 1048576: true; the input reads as it did. -/
def crcForgesUptoRow : OpenClaim := { program := "ytghlmkbchdmnoaa", sum := "c578d70c86aabaa104bd97ca3d2a1b01ab927c82dffdb61f1ed7218288e56381", func := "salvor/salvorlaw1.CrcForges", spec := "crcForges", apart := false, narrowed := true }
def CrcForgesUptoSaid : Prop := crcForgesUptoRow.holds Try.pinned (OpenSpec.upto crcForgesSpec)

/-- 'salvorlaw1.CrcWill', WHERE WHAT IT READS IS OF BULK AT MOST 1048576: true; the input reads as it did. -/
def crcWillUptoRow : OpenClaim := { program := "ytghlmkbchdmnoaa", sum := "c578d70c86aabaa104bd97ca3d2a1b01ab927c82dffdb61f1ed7218288e56381", func := "salvor/salvorlaw1.CrcWill", spec := "crcWill", apart := false, narrowed := true }
def CrcWillUptoSaid : Prop := crcWillUptoRow.holds Try.pinned (OpenSpec.upto crcWillSpec)

end Rows
end Go.Proofs.Ytghlmkbchdmnoaa
