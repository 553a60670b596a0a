/- The law TopScanned: its statement, out of the walk and the plain proof. Conditions: none beyond the statement. -/
import Derived.Test.YtkblnahoidbfkaaSxOpen
import Derived.Test.YtkblnahoidbfkaaRows
import Derived.Test.YtkblnahoidbfkaaLift12
import Derived.Test.YtkblnahoidbfkaaPureU
import Derived.Test.YtkblnahoidbfkaaSxRow
import Derived.WalkKit
import Derived.ProofKit
import Derived.OpenShut
import Derived.ShutString
import Derived.ChangeOld
import Derived.Below
import Derived.SizedLaws
namespace Go.Proofs.Ytkblnahoidbfkaa.topScanned
open Go Go.Sx Go.ChangeShapes Go.WideShapes Go.ChangeAt Go.RowKit
open Go.ChangeMaps (open_string shut_string)
set_option linter.unusedVariables false
theorem own : ownKnob Try.prog.godebug = none := by kernel_rfl
def wfT95_ (x : T95_) : Prop := (Lit.int .i64 x.1).wf = true ∧ (Lit.int .i64 x.2.1).wf = true ∧ (Lit.int .i64 x.2.2.1).wf = true ∧ (Lit.int .i64 x.2.2.2).wf = true
theorem one_T95_ {cs : List Value} (h : FlatOk Try.prog [3, 3, 3, 3] cs) : ∃ x : T95_, cs = encT95_ x ∧ wfT95_ x := by
  obtain ⟨hl, h⟩ := h
  match cs, hl with
  | [v0, v1, v2, v3], _ =>
    obtain ⟨x0, rfl, w0⟩ := (h 0 3 v0 rfl rfl).int Try.underlying3
    obtain ⟨x1, rfl, w1⟩ := (h 1 3 v1 rfl rfl).int Try.underlying3
    obtain ⟨x2, rfl, w2⟩ := (h 2 3 v2 rfl rfl).int Try.underlying3
    obtain ⟨x3, rfl, w3⟩ := (h 3 3 v3 rfl rfl).int Try.underlying3
    exact ⟨(x0, x1, x2, x3), rfl, w0, w1, w2, w3⟩
theorem laidOut : laidOutB Try.prog = true := by kernel_rfl
set_option maxRecDepth 100000 in
theorem contract (H : Type) (enc : TypeId × Value → H) (W : World) (base : Nat) (args : Array Value) (ds gs : List (DataW H)) (before : List MemPlace)
    (hval0 : ∀ (j : Nat) t v, Try.f12.params[j]? = some t → args[j]? = some v → Value.okWide Try.prog W .any base t v)
    (hW : DataW.Whole enc Try.prog Try.f12.params.toList Rows.topScannedSpec.vars false W args.toList ds gs before)
    (hsz0 : (DataW.weightsEach Try.prog (Try.f12.params.toList ++ Rows.topScannedSpec.plain.varTypes Try.prog) (ds ++ gs)).all (· ≤ reachBytes) = true) :
    Calls Try.prog 12 args W fun e W' => ∃ v, e = .returned v ∧ Rows.topScannedSpec.post enc Try.prog Try.f12 false true false false W args v W' := by
  have hsz : (DataW.weightsEach Try.prog (Try.f12.params.toList ++ Rows.topScannedSpec.plain.varTypes Try.prog) (ds ++ gs)).all (· ≤ reachBytes) = true := hsz0
  have hval : ∀ (j : Nat) t v, Try.f12.params[j]? = some t → args[j]? = some v → Value.okWide Try.prog W .any base t v := hval0
  have hW' := hW
  obtain ⟨p, q, hA0, hV, rfl, hfz, hnd⟩ := hW
  have hA : DataW.TrodAll enc Try.prog W 0 (fun _ => true) true Try.f12.params.toList args.toList ds p := hA0
  rw [Try.params12] at hA hval hsz
  obtain ⟨v0, vs0, d0, ds0, p0, q0, hargs, rfl, rfl, h0, r0⟩ := trodAll_cons hA
  obtain ⟨v1, vs1, d1, ds1, p1, q1, rfl, rfl, rfl, h1, r1⟩ := trodAll_cons r0
  obtain ⟨rfl, rfl, rfl⟩ := trodAll_nil r1
  obtain rfl : args = #[v0, v1] := by cases args; simp_all
  obtain ⟨rfl, rfl⟩ := trodVars_none hV
  obtain ⟨A0, len0, c0, rfl⟩ := okWide_slice Try.underlying89 (hval 0 89 v0 rfl rfl)
  have k0 := h0
  have lt0 : ∀ x ∈ p0, x.block < W.heap.size := by obtain ⟨m, hm⟩ := k0; exact DataW.trod_lt m _ _ _ hm
  obtain ⟨a0, rfl, hc0, hm0, hw0, hr0, hd0⟩ := open_rows (e' := encT95_) lenT95_ (by decide) (wfT := wfT95_) hsz (j := 0) (t := 89) rfl rfl Try.underlying89 (by kernel_rfl) (bt := 32) (by kernel_rfl) (fun fuel cs x h => one_T95_ (flat_of Try.underlying95 (by kernel_rfl) (by kernel_rfl) (by kernel_rfl) h)) h0
  obtain ⟨A1, len1, c1, rfl⟩ := okWide_slice Try.underlying84 (hval 1 84 v1 rfl rfl)
  have k1 := h1
  have lt1 : ∀ x ∈ p1, x.block < W.heap.size := by obtain ⟨m, hm⟩ := k1; exact DataW.trod_lt m _ _ _ hm
  obtain ⟨a1, us1, rfl, hc1, hr1, hv1, hw1, hd1⟩ := open_lists Try.underlying84 Try.underlying22 Try.underlying5 (by kernel_rfl) (by kernel_rfl) h1
  obtain ⟨K, hK⟩ := Pure.TopScanned a0 a1 hw0 (show a0.length * 32 ≤ 140737488351232 from hm0) hw1
  refine (TopScanned.calls K a0 a1 A0 c0 A1 c1 us1 hr0 hc0 hr1 hv1 hc1 true hK W (St.base W)).mono fun e W' ⟨he, hst⟩ => ?_
  have bel := hst.below
  subst he
  exact ⟨_, rfl, _, _, _, [], _, [], hW', trodAll_mk1 (shut_bool Try.underlying4 _), (trodAll_cons_mk (Below.trod laidOut (by kernel_rfl) (of_decide_eq_true (by kernel_rfl)) k0 bel lt0) (trodAll_cons_mk (Below.trod laidOut (by kernel_rfl) (of_decide_eq_true (by kernel_rfl)) k1 bel lt1) trodAll_mk0)), rfl, bel.frame _, fun h => by cases h⟩
set_option maxRecDepth 100000 in
theorem lifted (os : Os) (started : os.Started) (H : Type) (enc : TypeId × Value → H) :
    ReturnsInHanded {} Try.checked os 12 .any (Rows.topScannedSpec.pre6 enc Try.prog Try.f12 Rows.topScannedRow.domain false) (Rows.topScannedSpec.post enc Try.prog Try.f12 false true false false) := by
  refine returnsInHanded_of_change_sized (C := Try.checked) own started (by kernel_rfl) Try.func12
    (ChangeSpec.witness6 (enc := enc) (C := Try.checked) false ⟨#[], #[.slice none 0 0, .slice none 0 0], []⟩ 8 (by kernel_rfl) (by kernel_rfl) (by kernel_rfl) (by kernel_rfl)) ?_
  intro W base args ds gs before hval hW _ hsz _
  exact contract H enc W base args ds gs before hval hW hsz
theorem proved : Rows.TopScannedSaid :=
  OpenClaim.holds_of_wide 12 Try.f12 rfl rfl rfl rfl rfl rfl rfl ⟨rfl, rfl, rfl, rfl, rfl⟩ rfl rfl rfl rfl rfl (by kernel_rfl) Try.func12 (by kernel_rfl)
    (of_decide_eq_true (by kernel_rfl)) (by unfold Func.isWrapper; first | (rw [if_pos (by decide +kernel)]; kernel_rfl) | (rw [if_neg (by decide +kernel)]; exact ⟨rfl, rfl⟩))
    (fun os started H enc _ => lifted os started H enc)
#print axioms proved
end Go.Proofs.Ytkblnahoidbfkaa.topScanned
namespace Go.Proofs.Ytkblnahoidbfkaa
/-- The statement, under a short name, for the claim. -/
theorem topScanned_holds : Rows.TopScannedSaid := topScanned.proved
end Go.Proofs.Ytkblnahoidbfkaa
