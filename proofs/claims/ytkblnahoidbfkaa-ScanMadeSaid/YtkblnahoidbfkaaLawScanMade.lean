/- The law ScanMade: its statement, out of the walk and the plain proof. Conditions: none beyond the statement. -/
import Derived.Test.YtkblnahoidbfkaaSxOpen
import Derived.Test.YtkblnahoidbfkaaRows
import Derived.Test.YtkblnahoidbfkaaLift11
import Derived.Test.YtkblnahoidbfkaaPureW
import Derived.Test.YtkblnahoidbfkaaSxRow
import Derived.WalkKit
import Derived.ProofKit
import Derived.OpenShut
import Derived.ShutString
import Derived.ChangeOld
import Derived.Below
import Derived.SizedLaws
namespace Go.Proofs.Ytkblnahoidbfkaa.scanMade
open Go Go.Sx Go.ChangeShapes Go.WideShapes Go.ChangeAt Go.RowKit
open Go.ChangeMaps (open_string shut_string)
set_option linter.unusedVariables false
theorem own : ownKnob Try.prog.godebug = none := by kernel_rfl
def wfT44_ (x : T44_) : Prop := (Lit.int .u64 x.1).wf = true ∧ (Lit.int .i64 x.2.1).wf = true
theorem one_T44_ {cs : List Value} (h : FlatOk Try.prog [42, 41, 9, 9] cs) : ∃ x : T44_, cs = encT44_ x ∧ wfT44_ x := by
  obtain ⟨hl, h⟩ := h
  match cs, hl with
  | [v0, v1, v2, v3], _ =>
    obtain ⟨x0, rfl, w0⟩ := (h 0 42 v0 rfl rfl).int Try.underlying42
    obtain ⟨x1, rfl, w1⟩ := (h 1 41 v1 rfl rfl).int Try.underlying41
    obtain ⟨x2, rfl⟩ := (h 2 9 v2 rfl rfl).str Try.underlying9
    obtain ⟨x3, rfl⟩ := (h 3 9 v3 rfl rfl).str Try.underlying9
    exact ⟨(x0, x1, x2, x3), rfl, w0, w1⟩
theorem laidOut : laidOutB Try.prog = true := by kernel_rfl
set_option maxRecDepth 100000 in
theorem contract (H : Type) (enc : TypeId × Value → H) (W : World) (base : Nat) (args : Array Value) (ds gs : List (DataW H)) (before : List MemPlace)
    (hval0 : ∀ (j : Nat) t v, Try.f11.params[j]? = some t → args[j]? = some v → Value.okWide Try.prog W .any base t v)
    (hW : DataW.Whole enc Try.prog Try.f11.params.toList Rows.scanMadeSpec.vars false W args.toList ds gs before)
    (hsz0 : (DataW.weightsEach Try.prog (Try.f11.params.toList ++ Rows.scanMadeSpec.plain.varTypes Try.prog) (ds ++ gs)).all (· ≤ reachBytes) = true) :
    Calls Try.prog 11 args W fun e W' => ∃ v, e = .returned v ∧ Rows.scanMadeSpec.post enc Try.prog Try.f11 false true false false W args v W' := by
  have hsz : (DataW.weightsEach Try.prog (Try.f11.params.toList ++ Rows.scanMadeSpec.plain.varTypes Try.prog) (ds ++ gs)).all (· ≤ reachBytes) = true := hsz0
  have hval : ∀ (j : Nat) t v, Try.f11.params[j]? = some t → args[j]? = some v → Value.okWide Try.prog W .any base t v := hval0
  have hW' := hW
  obtain ⟨p, q, hA0, hV, rfl, hfz, hnd⟩ := hW
  have hA : DataW.TrodAll enc Try.prog W 0 (fun _ => true) true Try.f11.params.toList args.toList ds p := hA0
  rw [Try.params11] at hA hval hsz
  obtain ⟨v0, vs0, d0, ds0, p0, q0, hargs, rfl, rfl, h0, r0⟩ := trodAll_cons hA
  obtain ⟨v1, vs1, d1, ds1, p1, q1, rfl, rfl, rfl, h1, r1⟩ := trodAll_cons r0
  obtain ⟨rfl, rfl, rfl⟩ := trodAll_nil r1
  obtain rfl : args = #[v0, v1] := by cases args; simp_all
  obtain ⟨rfl, rfl⟩ := trodVars_none hV
  obtain ⟨A0, len0, c0, rfl⟩ := okWide_slice Try.underlying83 (hval 0 83 v0 rfl rfl)
  have k0 := h0
  have lt0 : ∀ x ∈ p0, x.block < W.heap.size := by obtain ⟨m, hm⟩ := k0; exact DataW.trod_lt m _ _ _ hm
  obtain ⟨a0, rfl, hc0, hm0, hw0, hr0, hd0⟩ := open_rows (e' := encT44_) lenT44_ (by decide) (wfT := wfT44_) hsz (j := 0) (t := 83) rfl rfl Try.underlying83 (by kernel_rfl) (bt := 48) (by kernel_rfl) (fun fuel cs x h => one_T44_ (flat_of Try.underlying44 (by kernel_rfl) (by kernel_rfl) (by kernel_rfl) h)) h0
  obtain ⟨A1, len1, c1, rfl⟩ := okWide_slice Try.underlying84 (hval 1 84 v1 rfl rfl)
  have k1 := h1
  have lt1 : ∀ x ∈ p1, x.block < W.heap.size := by obtain ⟨m, hm⟩ := k1; exact DataW.trod_lt m _ _ _ hm
  obtain ⟨a1, us1, rfl, hc1, hr1, hv1, hw1, hd1⟩ := open_lists Try.underlying84 Try.underlying22 Try.underlying5 (by kernel_rfl) (by kernel_rfl) h1
  obtain ⟨K, hK⟩ := Pure.ScanMade a0 a1 hw0 (show a0.length * 48 ≤ 140737488351232 from hm0) hw1 (sized_nest hsz (j := 1) rfl rfl Try.underlying84 Try.underlying22 (by kernel_rfl) hd1)
  refine (ScanMade.calls K a0 a1 A0 c0 A1 c1 us1 hr0 hc0 hr1 hv1 hc1 true hK W (St.base W)).mono fun e W' ⟨he, hst⟩ => ?_
  have bel := hst.below
  subst he
  exact ⟨_, rfl, _, _, _, [], _, [], hW', trodAll_mk1 (shut_bool Try.underlying4 _), (trodAll_cons_mk (Below.trod laidOut (by kernel_rfl) (of_decide_eq_true (by kernel_rfl)) k0 bel lt0) (trodAll_cons_mk (Below.trod laidOut (by kernel_rfl) (of_decide_eq_true (by kernel_rfl)) k1 bel lt1) trodAll_mk0)), rfl, bel.frame _, fun h => by cases h⟩
set_option maxRecDepth 100000 in
theorem lifted (os : Os) (started : os.Started) (H : Type) (enc : TypeId × Value → H) :
    ReturnsInHanded {} Try.checked os 11 .any (Rows.scanMadeSpec.pre6 enc Try.prog Try.f11 Rows.scanMadeRow.domain false) (Rows.scanMadeSpec.post enc Try.prog Try.f11 false true false false) := by
  refine returnsInHanded_of_change_sized (C := Try.checked) own started (by kernel_rfl) Try.func11
    (ChangeSpec.witness6 (enc := enc) (C := Try.checked) false ⟨#[], #[.slice none 0 0, .slice none 0 0], []⟩ 8 (by kernel_rfl) (by kernel_rfl) (by kernel_rfl) (by kernel_rfl)) ?_
  intro W base args ds gs before hval hW _ hsz _
  exact contract H enc W base args ds gs before hval hW hsz
theorem proved : Rows.ScanMadeSaid :=
  OpenClaim.holds_of_wide 11 Try.f11 rfl rfl rfl rfl rfl rfl rfl ⟨rfl, rfl, rfl, rfl, rfl⟩ rfl rfl rfl rfl rfl (by kernel_rfl) Try.func11 (by kernel_rfl)
    (of_decide_eq_true (by kernel_rfl)) (by unfold Func.isWrapper; first | (rw [if_pos (by decide +kernel)]; kernel_rfl) | (rw [if_neg (by decide +kernel)]; exact ⟨rfl, rfl⟩))
    (fun os started H enc _ => lifted os started H enc)
#print axioms proved
end Go.Proofs.Ytkblnahoidbfkaa.scanMade
namespace Go.Proofs.Ytkblnahoidbfkaa
/-- The statement, under a short name, for the claim. -/
theorem scanMade_holds : Rows.ScanMadeSaid := scanMade.proved
end Go.Proofs.Ytkblnahoidbfkaa
