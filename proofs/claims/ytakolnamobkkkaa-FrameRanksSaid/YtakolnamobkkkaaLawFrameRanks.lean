/- The law FrameRanks: its statement, out of the walk and the plain proof. Conditions: none beyond the statement. -/
import Derived.Test.YtakolnamobkkkaaSxCells
import Derived.Test.YtakolnamobkkkaaRows
import Derived.Test.YtakolnamobkkkaaLift12
import Derived.Test.YtakolnamobkkkaaPureO
import Derived.Test.YtakolnamobkkkaaSxRow
import Derived.WalkKit
import Derived.ProofKit
import Derived.OpenShut
import Derived.ShutString
import Derived.ChangeOld
import Derived.Below
import Derived.SizedLaws
namespace Go.Proofs.Ytakolnamobkkkaa.frameRanks
open Go Go.Sx Go.ChangeShapes Go.WideShapes Go.ChangeAt Go.RowKit
open Go.ChangeMaps (open_string shut_string)
set_option linter.unusedVariables false
theorem own : ownKnob Try.prog.godebug = none := by kernel_rfl
theorem laidOut : laidOutB Try.prog = true := by kernel_rfl
set_option maxRecDepth 100000 in
theorem contract (H : Type) (enc : TypeId × Value → H) (W : World) (base : Nat) (args : Array Value) (ds gs : List (DataW H)) (before : List MemPlace)
    (hval0 : ∀ (j : Nat) t v, Try.f12.params[j]? = some t → args[j]? = some v → Value.okWide Try.prog W .any base t v)
    (hW : DataW.Whole enc Try.prog Try.f12.params.toList Rows.frameRanksSpec.vars false W args.toList ds gs before)
    (hsz0 : (DataW.weightsEach Try.prog (Try.f12.params.toList ++ Rows.frameRanksSpec.plain.varTypes Try.prog) (ds ++ gs)).all (· ≤ reachBytes) = true) :
    Calls Try.prog 12 args W fun e W' => ∃ v, e = .returned v ∧ Rows.frameRanksSpec.post enc Try.prog Try.f12 false true false false W args v W' := by
  have hsz : (DataW.weightsEach Try.prog (Try.f12.params.toList ++ Rows.frameRanksSpec.plain.varTypes Try.prog) (ds ++ gs)).all (· ≤ reachBytes) = true := hsz0
  have hval : ∀ (j : Nat) t v, Try.f12.params[j]? = some t → args[j]? = some v → Value.okWide Try.prog W .any base t v := hval0
  have hW' := hW
  obtain ⟨p, q, hA0, hV, rfl, hfz, hnd⟩ := hW
  have hA : DataW.TrodAll enc Try.prog W 0 (fun _ => true) true Try.f12.params.toList args.toList ds p := hA0
  rw [Try.params12] at hA hval hsz
  obtain ⟨v0, vs0, d0, ds0, p0, q0, hargs, rfl, rfl, h0, r0⟩ := trodAll_cons hA
  obtain ⟨v1, vs1, d1, ds1, p1, q1, rfl, rfl, rfl, h1, r1⟩ := trodAll_cons r0
  obtain ⟨v2, vs2, d2, ds2, p2, q2, rfl, rfl, rfl, h2, r2⟩ := trodAll_cons r1
  obtain ⟨rfl, rfl, rfl⟩ := trodAll_nil r2
  obtain rfl : args = #[v0, v1, v2] := by cases args; simp_all
  obtain ⟨rfl, rfl⟩ := trodVars_none hV
  obtain ⟨cs0, rfl, cc0⟩ := open_struct (ts := [25, 24, 9, 9]) Try.underlying27 (by kernel_rfl) (by kernel_rfl) (hval 0 27 v0 rfl rfl)
  obtain ⟨x0_0, l0_0, rfl, e0_0, cc0⟩ := cc0
  obtain ⟨x0_1, l0_1, rfl, e0_1, cc0⟩ := cc0
  obtain ⟨x0_2, l0_2, rfl, e0_2, cc0⟩ := cc0
  obtain ⟨x0_3, l0_3, rfl, e0_3, cc0⟩ := cc0
  obtain rfl := cc0
  obtain ⟨a0_0, rfl, w0_0⟩ := cell_int Try.underlying25 e0_0
  obtain ⟨a0_1, rfl, w0_1⟩ := cell_int Try.underlying24 e0_1
  obtain ⟨a0_2, rfl, y0_2⟩ := cell_string Try.underlying9 e0_2
  obtain ⟨a0_3, rfl, y0_3⟩ := cell_string Try.underlying9 e0_3
  have k0 := h0
  have lt0 : ∀ x ∈ p0, x.block < W.heap.size := by obtain ⟨m, hm⟩ := k0; exact DataW.trod_lt m _ _ _ hm
  obtain ⟨cs1, rfl, cc1⟩ := open_struct (ts := [25, 24, 9, 9]) Try.underlying27 (by kernel_rfl) (by kernel_rfl) (hval 1 27 v1 rfl rfl)
  obtain ⟨x1_0, l1_0, rfl, e1_0, cc1⟩ := cc1
  obtain ⟨x1_1, l1_1, rfl, e1_1, cc1⟩ := cc1
  obtain ⟨x1_2, l1_2, rfl, e1_2, cc1⟩ := cc1
  obtain ⟨x1_3, l1_3, rfl, e1_3, cc1⟩ := cc1
  obtain rfl := cc1
  obtain ⟨a1_0, rfl, w1_0⟩ := cell_int Try.underlying25 e1_0
  obtain ⟨a1_1, rfl, w1_1⟩ := cell_int Try.underlying24 e1_1
  obtain ⟨a1_2, rfl, y1_2⟩ := cell_string Try.underlying9 e1_2
  obtain ⟨a1_3, rfl, y1_3⟩ := cell_string Try.underlying9 e1_3
  have k1 := h1
  have lt1 : ∀ x ∈ p1, x.block < W.heap.size := by obtain ⟨m, hm⟩ := k1; exact DataW.trod_lt m _ _ _ hm
  obtain ⟨cs2, rfl, cc2⟩ := open_struct (ts := [25, 24, 9, 9]) Try.underlying27 (by kernel_rfl) (by kernel_rfl) (hval 2 27 v2 rfl rfl)
  obtain ⟨x2_0, l2_0, rfl, e2_0, cc2⟩ := cc2
  obtain ⟨x2_1, l2_1, rfl, e2_1, cc2⟩ := cc2
  obtain ⟨x2_2, l2_2, rfl, e2_2, cc2⟩ := cc2
  obtain ⟨x2_3, l2_3, rfl, e2_3, cc2⟩ := cc2
  obtain rfl := cc2
  obtain ⟨a2_0, rfl, w2_0⟩ := cell_int Try.underlying25 e2_0
  obtain ⟨a2_1, rfl, w2_1⟩ := cell_int Try.underlying24 e2_1
  obtain ⟨a2_2, rfl, y2_2⟩ := cell_string Try.underlying9 e2_2
  obtain ⟨a2_3, rfl, y2_3⟩ := cell_string Try.underlying9 e2_3
  have k2 := h2
  have lt2 : ∀ x ∈ p2, x.block < W.heap.size := by obtain ⟨m, hm⟩ := k2; exact DataW.trod_lt m _ _ _ hm
  obtain ⟨K, hK⟩ := Pure.FrameRanks a0_0 a0_1 a0_2 a0_3 a1_0 a1_1 a1_2 a1_3 a2_0 a2_1 a2_2 a2_3 w0_0 w1_0 w2_0
  refine (FrameRanks.calls K a0_0 a0_1 a0_2 a0_3 a1_0 a1_1 a1_2 a1_3 a2_0 a2_1 a2_2 a2_3   true hK W (St.base W)).mono fun e W' ⟨he, hst⟩ => ?_
  have bel := hst.below
  subst he
  exact ⟨_, rfl, _, _, _, [], _, [], hW', trodAll_mk1 (shut_bool Try.underlying4 _), (trodAll_cons_mk (Below.trod laidOut (by kernel_rfl) (of_decide_eq_true (by kernel_rfl)) k0 bel lt0) (trodAll_cons_mk (Below.trod laidOut (by kernel_rfl) (of_decide_eq_true (by kernel_rfl)) k1 bel lt1) (trodAll_cons_mk (Below.trod laidOut (by kernel_rfl) (of_decide_eq_true (by kernel_rfl)) k2 bel lt2) trodAll_mk0))), rfl, bel.frame _, fun h => by cases h⟩
set_option maxRecDepth 100000 in
theorem lifted (os : Os) (started : os.Started) (H : Type) (enc : TypeId × Value → H) :
    ReturnsInHanded {} Try.checked os 12 .any (Rows.frameRanksSpec.pre6 enc Try.prog Try.f12 Rows.frameRanksRow.domain false) (Rows.frameRanksSpec.post enc Try.prog Try.f12 false true false false) := by
  refine returnsInHanded_of_change_sized (C := Try.checked) own started (by kernel_rfl) Try.func12
    (ChangeSpec.witness6 (enc := enc) (C := Try.checked) false ⟨#[], #[.agg #[.int .u64 0, .int .i64 0, .string ByteArray.empty, .string ByteArray.empty], .agg #[.int .u64 0, .int .i64 0, .string ByteArray.empty, .string ByteArray.empty], .agg #[.int .u64 0, .int .i64 0, .string ByteArray.empty, .string ByteArray.empty]], []⟩ 8 (by kernel_rfl) (by kernel_rfl) (by kernel_rfl) (by kernel_rfl)) ?_
  intro W base args ds gs before hval hW _ hsz _
  exact contract H enc W base args ds gs before hval hW hsz
theorem proved : Rows.FrameRanksSaid :=
  OpenClaim.holds_of_wide 12 Try.f12 rfl rfl rfl rfl rfl rfl rfl ⟨rfl, rfl, rfl, rfl, rfl⟩ rfl rfl rfl rfl rfl (by kernel_rfl) Try.func12 (by kernel_rfl)
    (of_decide_eq_true (by kernel_rfl)) (by unfold Func.isWrapper; first | (rw [if_pos (by decide +kernel)]; kernel_rfl) | (rw [if_neg (by decide +kernel)]; exact ⟨rfl, rfl⟩))
    (fun os started H enc _ => lifted os started H enc)
#print axioms proved
end Go.Proofs.Ytakolnamobkkkaa.frameRanks
namespace Go.Proofs.Ytakolnamobkkkaa
/-- The statement, under a short name, for the claim. -/
theorem frameRanks_holds : Rows.FrameRanksSaid := frameRanks.proved
end Go.Proofs.Ytakolnamobkkkaa
