/- The law FrameOrders: its statement, out of the walk and the plain proof. Conditions: none beyond the statement. -/
import Derived.Test.YtakolnamobkkkaaSxCells
import Derived.Test.YtakolnamobkkkaaRows
import Derived.Test.YtakolnamobkkkaaLift11
import Derived.Test.YtakolnamobkkkaaPureP
import Derived.Test.YtakolnamobkkkaaSxRow
import Derived.WalkKit
import Derived.ProofKit
import Derived.OpenShut
import Derived.ShutString
import Derived.ChangeOld
import Derived.Below
import Derived.SizedLaws
namespace Go.Proofs.Ytakolnamobkkkaa.frameOrders
open Go Go.Sx Go.ChangeShapes Go.WideShapes Go.ChangeAt Go.RowKit
open Go.ChangeMaps (open_string shut_string)
set_option linter.unusedVariables false
theorem own : ownKnob Try.prog.godebug = none := by kernel_rfl
theorem laidOut : laidOutB Try.prog = true := by kernel_rfl
set_option maxRecDepth 100000 in
theorem contract (H : Type) (enc : TypeId × Value → H) (W : World) (base : Nat) (args : Array Value) (ds gs : List (DataW H)) (before : List MemPlace)
    (hval0 : ∀ (j : Nat) t v, Try.f11.params[j]? = some t → args[j]? = some v → Value.okWide Try.prog W .any base t v)
    (hW : DataW.Whole enc Try.prog Try.f11.params.toList Rows.frameOrdersSpec.vars false W args.toList ds gs before)
    (hsz0 : (DataW.weightsEach Try.prog (Try.f11.params.toList ++ Rows.frameOrdersSpec.plain.varTypes Try.prog) (ds ++ gs)).all (· ≤ reachBytes) = true) :
    Calls Try.prog 11 args W fun e W' => ∃ v, e = .returned v ∧ Rows.frameOrdersSpec.post enc Try.prog Try.f11 false true false false W args v W' := by
  have hsz : (DataW.weightsEach Try.prog (Try.f11.params.toList ++ Rows.frameOrdersSpec.plain.varTypes Try.prog) (ds ++ gs)).all (· ≤ reachBytes) = true := hsz0
  have hval : ∀ (j : Nat) t v, Try.f11.params[j]? = some t → args[j]? = some v → Value.okWide Try.prog W .any base t v := hval0
  have hW' := hW
  obtain ⟨p, q, hA0, hV, rfl, hfz, hnd⟩ := hW
  have hA : DataW.TrodAll enc Try.prog W 0 (fun _ => true) true Try.f11.params.toList args.toList ds p := hA0
  rw [Try.params11] at hA hval hsz
  obtain ⟨v0, vs0, d0, ds0, p0, q0, hargs, rfl, rfl, h0, r0⟩ := trodAll_cons hA
  obtain ⟨v1, vs1, d1, ds1, p1, q1, rfl, rfl, rfl, h1, r1⟩ := trodAll_cons r0
  obtain ⟨rfl, rfl, rfl⟩ := trodAll_nil r1
  obtain rfl : args = #[v0, v1] := by cases args; simp_all
  obtain ⟨rfl, rfl⟩ := trodVars_none hV
  obtain ⟨cs0, rfl, cc0⟩ := open_struct (ts := [25, 24, 9, 9]) Try.underlying27 (by kernel_rfl) (by kernel_rfl) (hval 0 27 v0 rfl rfl)
  obtain ⟨x0_0, l0_0, rfl, e0_0, cc0⟩ := cc0
  obtain ⟨x0_1, l0_1, rfl, e0_1, cc0⟩ := cc0
  obtain ⟨x0_2, l0_2, rfl, e0_2, cc0⟩ := cc0
  obtain ⟨x0_3, l0_3, rfl, e0_3, cc0⟩ := cc0
  obtain rfl := cc0
  obtain ⟨a0_0, rfl, w0_0⟩ := cell_int Try.underlying25 e0_0
  obtain ⟨a0_1, rfl, w0_1⟩ := cell_int Try.underlying24 e0_1
  obtain ⟨a0_2, rfl, y0_2⟩ := cell_string Try.underlying9 e0_2
  obtain ⟨a0_3, rfl, y0_3⟩ := cell_string Try.underlying9 e0_3
  have k0 := h0
  have lt0 : ∀ x ∈ p0, x.block < W.heap.size := by obtain ⟨m, hm⟩ := k0; exact DataW.trod_lt m _ _ _ hm
  obtain ⟨cs1, rfl, cc1⟩ := open_struct (ts := [25, 24, 9, 9]) Try.underlying27 (by kernel_rfl) (by kernel_rfl) (hval 1 27 v1 rfl rfl)
  obtain ⟨x1_0, l1_0, rfl, e1_0, cc1⟩ := cc1
  obtain ⟨x1_1, l1_1, rfl, e1_1, cc1⟩ := cc1
  obtain ⟨x1_2, l1_2, rfl, e1_2, cc1⟩ := cc1
  obtain ⟨x1_3, l1_3, rfl, e1_3, cc1⟩ := cc1
  obtain rfl := cc1
  obtain ⟨a1_0, rfl, w1_0⟩ := cell_int Try.underlying25 e1_0
  obtain ⟨a1_1, rfl, w1_1⟩ := cell_int Try.underlying24 e1_1
  obtain ⟨a1_2, rfl, y1_2⟩ := cell_string Try.underlying9 e1_2
  obtain ⟨a1_3, rfl, y1_3⟩ := cell_string Try.underlying9 e1_3
  have k1 := h1
  have lt1 : ∀ x ∈ p1, x.block < W.heap.size := by obtain ⟨m, hm⟩ := k1; exact DataW.trod_lt m _ _ _ hm
  obtain ⟨K, hK⟩ := Pure.FrameOrders a0_0 a0_1 a0_2 a0_3 a1_0 a1_1 a1_2 a1_3 w0_0 w1_0
  refine (FrameOrders.calls K a0_0 a0_1 a0_2 a0_3 a1_0 a1_1 a1_2 a1_3   true hK W (St.base W)).mono fun e W' ⟨he, hst⟩ => ?_
  have bel := hst.below
  subst he
  exact ⟨_, rfl, _, _, _, [], _, [], hW', trodAll_mk1 (shut_bool Try.underlying4 _), (trodAll_cons_mk (Below.trod laidOut (by kernel_rfl) (of_decide_eq_true (by kernel_rfl)) k0 bel lt0) (trodAll_cons_mk (Below.trod laidOut (by kernel_rfl) (of_decide_eq_true (by kernel_rfl)) k1 bel lt1) trodAll_mk0)), rfl, bel.frame _, fun h => by cases h⟩
set_option maxRecDepth 100000 in
theorem lifted (os : Os) (started : os.Started) (H : Type) (enc : TypeId × Value → H) :
    ReturnsInHanded {} Try.checked os 11 .any (Rows.frameOrdersSpec.pre6 enc Try.prog Try.f11 Rows.frameOrdersRow.domain false) (Rows.frameOrdersSpec.post enc Try.prog Try.f11 false true false false) := by
  refine returnsInHanded_of_change_sized (C := Try.checked) own started (by kernel_rfl) Try.func11
    (ChangeSpec.witness6 (enc := enc) (C := Try.checked) false ⟨#[], #[.agg #[.int .u64 0, .int .i64 0, .string ByteArray.empty, .string ByteArray.empty], .agg #[.int .u64 0, .int .i64 0, .string ByteArray.empty, .string ByteArray.empty]], []⟩ 8 (by kernel_rfl) (by kernel_rfl) (by kernel_rfl) (by kernel_rfl)) ?_
  intro W base args ds gs before hval hW _ hsz _
  exact contract H enc W base args ds gs before hval hW hsz
theorem proved : Rows.FrameOrdersSaid :=
  OpenClaim.holds_of_wide 11 Try.f11 rfl rfl rfl rfl rfl rfl rfl ⟨rfl, rfl, rfl, rfl, rfl⟩ rfl rfl rfl rfl rfl (by kernel_rfl) Try.func11 (by kernel_rfl)
    (of_decide_eq_true (by kernel_rfl)) (by unfold Func.isWrapper; first | (rw [if_pos (by decide +kernel)]; kernel_rfl) | (rw [if_neg (by decide +kernel)]; exact ⟨rfl, rfl⟩))
    (fun os started H enc _ => lifted os started H enc)
#print axioms proved
end Go.Proofs.Ytakolnamobkkkaa.frameOrders
namespace Go.Proofs.Ytakolnamobkkkaa
/-- The statement, under a short name, for the claim. -/
theorem frameOrders_holds : Rows.FrameOrdersSaid := frameOrders.proved
end Go.Proofs.Ytakolnamobkkkaa
