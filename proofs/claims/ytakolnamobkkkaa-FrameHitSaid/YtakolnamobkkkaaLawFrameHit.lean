/- The law FrameHit: its statement, out of the walk and the plain proof. Conditions: none beyond the statement. -/
import Derived.Test.YtakolnamobkkkaaSxCells
import Derived.Test.YtakolnamobkkkaaRows
import Derived.Test.YtakolnamobkkkaaLift8
import Derived.Test.YtakolnamobkkkaaPureM
import Derived.Test.YtakolnamobkkkaaSxRow
import Derived.WalkKit
import Derived.ProofKit
import Derived.OpenShut
import Derived.ShutString
import Derived.ChangeOld
import Derived.Below
import Derived.SizedLaws
namespace Go.Proofs.Ytakolnamobkkkaa.frameHit
open Go Go.Sx Go.ChangeShapes Go.WideShapes Go.ChangeAt Go.RowKit
open Go.ChangeMaps (open_string shut_string)
set_option linter.unusedVariables false
theorem own : ownKnob Try.prog.godebug = none := by kernel_rfl
theorem laidOut : laidOutB Try.prog = true := by kernel_rfl
set_option maxRecDepth 100000 in
theorem contract (H : Type) (enc : TypeId × Value → H) (W : World) (base : Nat) (args : Array Value) (ds gs : List (DataW H)) (before : List MemPlace)
    (hval0 : ∀ (j : Nat) t v, Try.f8.params[j]? = some t → args[j]? = some v → Value.okWide Try.prog W .any base t v)
    (hW : DataW.Whole enc Try.prog Try.f8.params.toList Rows.frameHitSpec.vars false W args.toList ds gs before)
    (hsz0 : (DataW.weightsEach Try.prog (Try.f8.params.toList ++ Rows.frameHitSpec.plain.varTypes Try.prog) (ds ++ gs)).all (· ≤ reachBytes) = true) :
    Calls Try.prog 8 args W fun e W' => ∃ v, e = .returned v ∧ Rows.frameHitSpec.post enc Try.prog Try.f8 false true false false W args v W' := by
  have hsz : (DataW.weightsEach Try.prog (Try.f8.params.toList ++ Rows.frameHitSpec.plain.varTypes Try.prog) (ds ++ gs)).all (· ≤ reachBytes) = true := hsz0
  have hval : ∀ (j : Nat) t v, Try.f8.params[j]? = some t → args[j]? = some v → Value.okWide Try.prog W .any base t v := hval0
  have hW' := hW
  obtain ⟨p, q, hA0, hV, rfl, hfz, hnd⟩ := hW
  have hA : DataW.TrodAll enc Try.prog W 0 (fun _ => true) true Try.f8.params.toList args.toList ds p := hA0
  rw [Try.params8] at hA hval hsz
  obtain ⟨v0, vs0, d0, ds0, p0, q0, hargs, rfl, rfl, h0, r0⟩ := trodAll_cons hA
  obtain ⟨v1, vs1, d1, ds1, p1, q1, rfl, rfl, rfl, h1, r1⟩ := trodAll_cons r0
  obtain ⟨v2, vs2, d2, ds2, p2, q2, rfl, rfl, rfl, h2, r2⟩ := trodAll_cons r1
  obtain ⟨v3, vs3, d3, ds3, p3, q3, rfl, rfl, rfl, h3, r3⟩ := trodAll_cons r2
  obtain ⟨v4, vs4, d4, ds4, p4, q4, rfl, rfl, rfl, h4, r4⟩ := trodAll_cons r3
  obtain ⟨rfl, rfl, rfl⟩ := trodAll_nil r4
  obtain rfl : args = #[v0, v1, v2, v3, v4] := by cases args; simp_all
  obtain ⟨rfl, rfl⟩ := trodVars_none hV
  obtain ⟨cs0, rfl, cc0⟩ := open_struct (ts := [24, 25, 24, 9, 9, 25, 24, 3, 3, 9, 3, 3, 3, 30]) Try.underlying36 (by kernel_rfl) (by kernel_rfl) (hval 0 36 v0 rfl rfl)
  obtain ⟨x0_0, l0_0, rfl, e0_0, cc0⟩ := cc0
  obtain ⟨x0_1, l0_1, rfl, e0_1, cc0⟩ := cc0
  obtain ⟨x0_2, l0_2, rfl, e0_2, cc0⟩ := cc0
  obtain ⟨x0_3, l0_3, rfl, e0_3, cc0⟩ := cc0
  obtain ⟨x0_4, l0_4, rfl, e0_4, cc0⟩ := cc0
  obtain ⟨x0_5, l0_5, rfl, e0_5, cc0⟩ := cc0
  obtain ⟨x0_6, l0_6, rfl, e0_6, cc0⟩ := cc0
  obtain ⟨x0_7, l0_7, rfl, e0_7, cc0⟩ := cc0
  obtain ⟨x0_8, l0_8, rfl, e0_8, cc0⟩ := cc0
  obtain ⟨x0_9, l0_9, rfl, e0_9, cc0⟩ := cc0
  obtain ⟨x0_10, l0_10, rfl, e0_10, cc0⟩ := cc0
  obtain ⟨x0_11, l0_11, rfl, e0_11, cc0⟩ := cc0
  obtain ⟨x0_12, l0_12, rfl, e0_12, cc0⟩ := cc0
  obtain ⟨x0_13, l0_13, rfl, e0_13, cc0⟩ := cc0
  obtain rfl := cc0
  obtain ⟨a0_0, rfl, w0_0⟩ := cell_int Try.underlying24 e0_0
  obtain ⟨a0_1, rfl, w0_1⟩ := cell_int Try.underlying25 e0_1
  obtain ⟨a0_2, rfl, w0_2⟩ := cell_int Try.underlying24 e0_2
  obtain ⟨a0_3, rfl, y0_3⟩ := cell_string Try.underlying9 e0_3
  obtain ⟨a0_4, rfl, y0_4⟩ := cell_string Try.underlying9 e0_4
  obtain ⟨a0_5, rfl, w0_5⟩ := cell_int Try.underlying25 e0_5
  obtain ⟨a0_6, rfl, w0_6⟩ := cell_int Try.underlying24 e0_6
  obtain ⟨a0_7, rfl, w0_7⟩ := cell_int Try.underlying3 e0_7
  obtain ⟨a0_8, rfl, w0_8⟩ := cell_int Try.underlying3 e0_8
  obtain ⟨a0_9, rfl, y0_9⟩ := cell_string Try.underlying9 e0_9
  obtain ⟨a0_10, rfl, w0_10⟩ := cell_int Try.underlying3 e0_10
  obtain ⟨a0_11, rfl, w0_11⟩ := cell_int Try.underlying3 e0_11
  obtain ⟨a0_12, rfl, w0_12⟩ := cell_int Try.underlying3 e0_12
  obtain ⟨a0_13, rfl, w0_13⟩ := cell_int Try.underlying30 e0_13
  have k0 := h0
  have lt0 : ∀ x ∈ p0, x.block < W.heap.size := by obtain ⟨m, hm⟩ := k0; exact DataW.trod_lt m _ _ _ hm
  obtain ⟨a1, rfl, rfl, rfl, w1⟩ := open_int Try.underlying3 (hval 1 3 v1 rfl rfl) h1
  obtain ⟨a2, rfl, rfl, rfl, w2⟩ := open_int Try.underlying30 (hval 2 30 v2 rfl rfl) h2
  obtain ⟨a3, rfl, rfl, rfl, w3⟩ := open_int Try.underlying3 (hval 3 3 v3 rfl rfl) h3
  obtain ⟨a4, rfl, rfl, rfl, w4⟩ := open_int Try.underlying5 (hval 4 5 v4 rfl rfl) h4
  obtain ⟨K, hK⟩ := Pure.FrameHit a0_0 a0_1 a0_2 a0_3 a0_4 a0_5 a0_6 a0_7 a0_8 a0_9 a0_10 a0_11 a0_12 a0_13 a1 a2 a3 a4 w0_1 w0_5 w0_13 w1 w2 w3 w4
  refine (FrameHit.calls K a0_0 a0_1 a0_2 a0_3 a0_4 a0_5 a0_6 a0_7 a0_8 a0_9 a0_10 a0_11 a0_12 a0_13 a1 a2 a3 a4   true hK W (St.base W)).mono fun e W' ⟨he, hst⟩ => ?_
  have bel := hst.below
  subst he
  exact ⟨_, rfl, _, _, _, [], _, [], hW', trodAll_mk1 (shut_bool Try.underlying4 _), (trodAll_cons_mk (Below.trod laidOut (by kernel_rfl) (of_decide_eq_true (by kernel_rfl)) k0 bel lt0) (trodAll_cons_mk (shut_int Try.underlying3 w1) (trodAll_cons_mk (shut_int Try.underlying30 w2) (trodAll_cons_mk (shut_int Try.underlying3 w3) (trodAll_cons_mk (shut_int Try.underlying5 w4) trodAll_mk0))))), rfl, bel.frame _, fun h => by cases h⟩
set_option maxRecDepth 100000 in
theorem lifted (os : Os) (started : os.Started) (H : Type) (enc : TypeId × Value → H) :
    ReturnsInHanded {} Try.checked os 8 .any (Rows.frameHitSpec.pre6 enc Try.prog Try.f8 Rows.frameHitRow.domain false) (Rows.frameHitSpec.post enc Try.prog Try.f8 false true false false) := by
  refine returnsInHanded_of_change_sized (C := Try.checked) own started (by kernel_rfl) Try.func8
    (ChangeSpec.witness6 (enc := enc) (C := Try.checked) false ⟨#[], #[.agg #[.int .i64 0, .int .u64 0, .int .i64 0, .string ByteArray.empty, .string ByteArray.empty, .int .u64 0, .int .i64 0, .int .i64 0, .int .i64 0, .string ByteArray.empty, .int .i64 0, .int .i64 0, .int .i64 0, .int .u32 0], .int .i64 0, .int .u32 0, .int .i64 0, .int .u8 0], []⟩ 8 (by kernel_rfl) (by kernel_rfl) (by kernel_rfl) (by kernel_rfl)) ?_
  intro W base args ds gs before hval hW _ hsz _
  exact contract H enc W base args ds gs before hval hW hsz
theorem proved : Rows.FrameHitSaid :=
  OpenClaim.holds_of_wide 8 Try.f8 rfl rfl rfl rfl rfl rfl rfl ⟨rfl, rfl, rfl, rfl, rfl⟩ rfl rfl rfl rfl rfl (by kernel_rfl) Try.func8 (by kernel_rfl)
    (of_decide_eq_true (by kernel_rfl)) (by unfold Func.isWrapper; first | (rw [if_pos (by decide +kernel)]; kernel_rfl) | (rw [if_neg (by decide +kernel)]; exact ⟨rfl, rfl⟩))
    (fun os started H enc _ => lifted os started H enc)
#print axioms proved
end Go.Proofs.Ytakolnamobkkkaa.frameHit
namespace Go.Proofs.Ytakolnamobkkkaa
/-- The statement, under a short name, for the claim. -/
theorem frameHit_holds : Rows.FrameHitSaid := frameHit.proved
end Go.Proofs.Ytakolnamobkkkaa
