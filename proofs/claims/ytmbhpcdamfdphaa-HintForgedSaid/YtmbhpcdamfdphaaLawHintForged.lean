/- The law HintForged: its statement, out of the walk and the plain proof. Conditions: none beyond the statement. -/
import Derived.Test.YtmbhpcdamfdphaaSxOpen
import Derived.Test.YtmbhpcdamfdphaaRows
import Derived.Test.YtmbhpcdamfdphaaLift6
import Derived.Test.YtmbhpcdamfdphaaPureU
import Derived.Test.YtmbhpcdamfdphaaSxRow
import Derived.WalkKit
import Derived.ProofKit
import Derived.OpenShut
import Derived.ShutString
import Derived.ChangeOld
import Derived.Below
import Derived.SizedLaws
namespace Go.Proofs.Ytmbhpcdamfdphaa.hintForged
open Go Go.Sx Go.ChangeShapes Go.WideShapes Go.ChangeAt Go.RowKit
open Go.ChangeMaps (open_string shut_string)
set_option linter.unusedVariables false
theorem own : ownKnob Try.prog.godebug = none := by kernel_rfl
def wfT44_ (x : T44_) : Prop := (Lit.int .u64 x.1).wf = true ∧ (Lit.int .i64 x.2.1).wf = true ∧ (Lit.int .i64 x.2.2.1).wf = true ∧ (Lit.int .i64 x.2.2.2.1).wf = true
theorem one_T44_ {cs : List Value} (h : FlatOk Try.prog [41, 42, 3, 3, 9] cs) : ∃ x : T44_, cs = encT44_ x ∧ wfT44_ x := by
  obtain ⟨hl, h⟩ := h
  match cs, hl with
  | [v0, v1, v2, v3, v4], _ =>
    obtain ⟨x0, rfl, w0⟩ := (h 0 41 v0 rfl rfl).int Try.underlying41
    obtain ⟨x1, rfl, w1⟩ := (h 1 42 v1 rfl rfl).int Try.underlying42
    obtain ⟨x2, rfl, w2⟩ := (h 2 3 v2 rfl rfl).int Try.underlying3
    obtain ⟨x3, rfl, w3⟩ := (h 3 3 v3 rfl rfl).int Try.underlying3
    obtain ⟨x4, rfl⟩ := (h 4 9 v4 rfl rfl).str Try.underlying9
    exact ⟨(x0, x1, x2, x3, x4), rfl, w0, w1, w2, w3⟩
theorem laidOut : laidOutB Try.prog = true := by kernel_rfl
set_option maxRecDepth 100000 in
theorem contract (H : Type) (enc : TypeId × Value → H) (W : World) (base : Nat) (args : Array Value) (ds gs : List (DataW H)) (before : List MemPlace)
    (hval0 : ∀ (j : Nat) t v, Try.f6.params[j]? = some t → args[j]? = some v → Value.okWide Try.prog W .any base t v)
    (hW : DataW.Whole enc Try.prog Try.f6.params.toList Rows.hintForgedSpec.vars false W args.toList ds gs before)
    (hsz0 : (DataW.weightsEach Try.prog (Try.f6.params.toList ++ Rows.hintForgedSpec.plain.varTypes Try.prog) (ds ++ gs)).all (· ≤ reachBytes) = true) :
    Calls Try.prog 6 args W fun e W' => ∃ v, e = .returned v ∧ Rows.hintForgedSpec.post enc Try.prog Try.f6 false true false false W args v W' := by
  have hsz : (DataW.weightsEach Try.prog (Try.f6.params.toList ++ Rows.hintForgedSpec.plain.varTypes Try.prog) (ds ++ gs)).all (· ≤ reachBytes) = true := hsz0
  have hval : ∀ (j : Nat) t v, Try.f6.params[j]? = some t → args[j]? = some v → Value.okWide Try.prog W .any base t v := hval0
  have hW' := hW
  obtain ⟨p, q, hA0, hV, rfl, hfz, hnd⟩ := hW
  have hA : DataW.TrodAll enc Try.prog W 0 (fun _ => true) true Try.f6.params.toList args.toList ds p := hA0
  rw [Try.params6] at hA hval hsz
  obtain ⟨v0, vs0, d0, ds0, p0, q0, hargs, rfl, rfl, h0, r0⟩ := trodAll_cons hA
  obtain ⟨v1, vs1, d1, ds1, p1, q1, rfl, rfl, rfl, h1, r1⟩ := trodAll_cons r0
  obtain ⟨rfl, rfl, rfl⟩ := trodAll_nil r1
  obtain rfl : args = #[v0, v1] := by cases args; simp_all
  obtain ⟨rfl, rfl⟩ := trodVars_none hV
  obtain ⟨A0, len0, c0, rfl⟩ := okWide_slice Try.underlying36 (hval 0 36 v0 rfl rfl)
  have k0 := h0
  have lt0 : ∀ x ∈ p0, x.block < W.heap.size := by obtain ⟨m, hm⟩ := k0; exact DataW.trod_lt m _ _ _ hm
  obtain ⟨a0, rfl, hc0, hm0, hw0, hr0, hd0⟩ := open_rows (e' := encT44_) lenT44_ (by decide) (wfT := wfT44_) hsz (j := 0) (t := 36) rfl rfl Try.underlying36 (by kernel_rfl) (bt := 48) (by kernel_rfl) (fun fuel cs x h => one_T44_ (flat_of Try.underlying44 (by kernel_rfl) (by kernel_rfl) (by kernel_rfl) h)) h0
  obtain ⟨a1, rfl, rfl, rfl, w1⟩ := open_int Try.underlying33 (hval 1 33 v1 rfl rfl) h1
  obtain ⟨K, hK⟩ := Pure.HintForged a0 a1 hw0 (show a0.length * 48 ≤ 140737488351232 from hm0) w1
  refine (HintForged.calls K a0 a1 A0 c0 hr0 hc0 true hK W (St.base W)).mono fun e W' ⟨he, hst⟩ => ?_
  have bel := hst.below
  subst he
  exact ⟨_, rfl, _, _, _, [], _, [], hW', trodAll_mk1 (shut_bool Try.underlying4 _), (trodAll_cons_mk (Below.trod laidOut (by kernel_rfl) (of_decide_eq_true (by kernel_rfl)) k0 bel lt0) (trodAll_cons_mk (shut_int Try.underlying33 w1) trodAll_mk0)), rfl, bel.frame _, fun h => by cases h⟩
set_option maxRecDepth 100000 in
theorem lifted (os : Os) (started : os.Started) (H : Type) (enc : TypeId × Value → H) :
    ReturnsInHanded {} Try.checked os 6 .any (Rows.hintForgedSpec.pre6 enc Try.prog Try.f6 Rows.hintForgedRow.domain false) (Rows.hintForgedSpec.post enc Try.prog Try.f6 false true false false) := by
  refine returnsInHanded_of_change_sized (C := Try.checked) own started (by kernel_rfl) Try.func6
    (ChangeSpec.witness6 (enc := enc) (C := Try.checked) false ⟨#[], #[.slice none 0 0, .int .u32 0], []⟩ 8 (by kernel_rfl) (by kernel_rfl) (by kernel_rfl) (by kernel_rfl)) ?_
  intro W base args ds gs before hval hW _ hsz _
  exact contract H enc W base args ds gs before hval hW hsz
theorem proved : Rows.HintForgedSaid :=
  OpenClaim.holds_of_wide 6 Try.f6 rfl rfl rfl rfl rfl rfl rfl ⟨rfl, rfl, rfl, rfl, rfl⟩ rfl rfl rfl rfl rfl (by kernel_rfl) Try.func6 (by kernel_rfl)
    (of_decide_eq_true (by kernel_rfl)) (by unfold Func.isWrapper; first | (rw [if_pos (by decide +kernel)]; kernel_rfl) | (rw [if_neg (by decide +kernel)]; exact ⟨rfl, rfl⟩))
    (fun os started H enc _ => lifted os started H enc)
#print axioms proved
end Go.Proofs.Ytmbhpcdamfdphaa.hintForged
namespace Go.Proofs.Ytmbhpcdamfdphaa
/-- The statement, under a short name, for the claim. -/
theorem hintForged_holds : Rows.HintForgedSaid := hintForged.proved
end Go.Proofs.Ytmbhpcdamfdphaa
