/- The law FrameBack: its statement for inputs of bounded bulk, out of the walk and the plain proof. Conditions: none beyond the statement. -/
import Derived.Test.YtakolnamobkkkaaSxCells
import Derived.Test.YtakolnamobkkkaaRows
import Derived.Test.YtakolnamobkkkaaLift4
import Derived.Test.YtakolnamobkkkaaPureJ
import Derived.Test.YtakolnamobkkkaaSxRow
import Derived.WalkKit
import Derived.ProofKit
import Derived.OpenShut
import Derived.ShutString
import Derived.ChangeOld
import Derived.Below
import Derived.SizedLaws
import Derived.JoinedCond
import Derived.Deep.CondSized
namespace Go.Proofs.Ytakolnamobkkkaa.frameBack
open Go Go.Sx Go.ChangeShapes Go.WideShapes Go.ChangeAt Go.RowKit
open Go.ChangeMaps (open_string shut_string)
set_option linter.unusedVariables false
theorem own : ownKnob Try.prog.godebug = none := by kernel_rfl
theorem laidOut : laidOutB Try.prog = true := by kernel_rfl
theorem one_le {H : Type} (d : DataW H) : 1 ≤ Rows.uptoBulk d := by
  cases d with
  | lit l => cases l <;> simp [Rows.uptoBulk]
  | nil => simp [Rows.uptoBulk]
  | ptr d => simp [Rows.uptoBulk]
  | slice elems spare => simp [Rows.uptoBulk]
  | agg parts => simp [Rows.uptoBulk]
  | iface t d => simp [Rows.uptoBulk]
  | map entries => simp [Rows.uptoBulk]
  | held h => simp [Rows.uptoBulk]
theorem length_le {H : Type} (l : List (DataW H)) : l.length ≤ Rows.uptoBulkAll l := by
  induction l with
  | nil => simp [Rows.uptoBulkAll]
  | cons x r ih => have := one_le x; simp only [Rows.uptoBulkAll, List.length_cons]; omega
theorem list_le {H : Type} {d : DataW H} {xs : List Int} (h : (d = .nil ∧ xs = []) ∨ ∃ es sp, d = .slice es sp ∧ es.length = xs.length) : xs.length ≤ Rows.uptoBulk d := by
  rcases h with ⟨rfl, rfl⟩ | ⟨es, sp, rfl, h⟩
  · simp
  · have := length_le es
    simp only [Rows.uptoBulk]; omega
set_option maxRecDepth 100000 in
theorem contract (H : Type) (enc : TypeId × Value → H) (W : World) (base : Nat) (args : Array Value) (ds gs : List (DataW H)) (before : List MemPlace)
    (hval0 : ∀ (j : Nat) t v, Try.f4.params[j]? = some t → args[j]? = some v → Value.okWide Try.prog W .any base t v)
    (hW : DataW.Whole enc Try.prog Try.f4.params.toList Rows.frameBackSpec.vars false W args.toList ds gs before) (hk : Rows.uptoSmall H (ds ++ gs) = true)
    (hsz0 : (DataW.weightsEach Try.prog (Try.f4.params.toList ++ Rows.frameBackSpec.plain.varTypes Try.prog) (ds ++ gs)).all (· ≤ reachBytes) = true) :
    Calls Try.prog 4 args W fun e W' => ∃ v, e = .returned v ∧ Rows.frameBackSpec.post enc Try.prog Try.f4 false true false false W args v W' := by
  have hsz : (DataW.weightsEach Try.prog (Try.f4.params.toList ++ Rows.frameBackSpec.plain.varTypes Try.prog) (ds ++ gs)).all (· ≤ reachBytes) = true := hsz0
  have hval : ∀ (j : Nat) t v, Try.f4.params[j]? = some t → args[j]? = some v → Value.okWide Try.prog W .any base t v := hval0
  have hW' := hW
  obtain ⟨p, q, hA0, hV, rfl, hfz, hnd⟩ := hW
  have hA : DataW.TrodAll enc Try.prog W 0 (fun _ => true) true Try.f4.params.toList args.toList ds p := hA0
  rw [Try.params4] at hA hval hsz
  obtain ⟨v0, vs0, d0, ds0, p0, q0, hargs, rfl, rfl, h0, r0⟩ := trodAll_cons hA
  obtain ⟨v1, vs1, d1, ds1, p1, q1, rfl, rfl, rfl, h1, r1⟩ := trodAll_cons r0
  obtain ⟨v2, vs2, d2, ds2, p2, q2, rfl, rfl, rfl, h2, r2⟩ := trodAll_cons r1
  obtain ⟨rfl, rfl, rfl⟩ := trodAll_nil r2
  obtain rfl : args = #[v0, v1, v2] := by cases args; simp_all
  obtain ⟨rfl, rfl⟩ := trodVars_none hV
  obtain ⟨cs0, rfl, cc0⟩ := open_struct (ts := [24, 25, 24, 9, 9, 25, 24, 3, 3, 9, 3, 3, 3, 30]) Try.underlying36 (by kernel_rfl) (by kernel_rfl) (hval 0 36 v0 rfl rfl)
  obtain ⟨x0_0, l0_0, rfl, e0_0, cc0⟩ := cc0
  obtain ⟨x0_1, l0_1, rfl, e0_1, cc0⟩ := cc0
  obtain ⟨x0_2, l0_2, rfl, e0_2, cc0⟩ := cc0
  obtain ⟨x0_3, l0_3, rfl, e0_3, cc0⟩ := cc0
  obtain ⟨x0_4, l0_4, rfl, e0_4, cc0⟩ := cc0
  obtain ⟨x0_5, l0_5, rfl, e0_5, cc0⟩ := cc0
  obtain ⟨x0_6, l0_6, rfl, e0_6, cc0⟩ := cc0
  obtain ⟨x0_7, l0_7, rfl, e0_7, cc0⟩ := cc0
  obtain ⟨x0_8, l0_8, rfl, e0_8, cc0⟩ := cc0
  obtain ⟨x0_9, l0_9, rfl, e0_9, cc0⟩ := cc0
  obtain ⟨x0_10, l0_10, rfl, e0_10, cc0⟩ := cc0
  obtain ⟨x0_11, l0_11, rfl, e0_11, cc0⟩ := cc0
  obtain ⟨x0_12, l0_12, rfl, e0_12, cc0⟩ := cc0
  obtain ⟨x0_13, l0_13, rfl, e0_13, cc0⟩ := cc0
  obtain rfl := cc0
  obtain ⟨a0_0, rfl, w0_0⟩ := cell_int Try.underlying24 e0_0
  obtain ⟨a0_1, rfl, w0_1⟩ := cell_int Try.underlying25 e0_1
  obtain ⟨a0_2, rfl, w0_2⟩ := cell_int Try.underlying24 e0_2
  obtain ⟨a0_3, rfl, y0_3⟩ := cell_string Try.underlying9 e0_3
  obtain ⟨a0_4, rfl, y0_4⟩ := cell_string Try.underlying9 e0_4
  obtain ⟨a0_5, rfl, w0_5⟩ := cell_int Try.underlying25 e0_5
  obtain ⟨a0_6, rfl, w0_6⟩ := cell_int Try.underlying24 e0_6
  obtain ⟨a0_7, rfl, w0_7⟩ := cell_int Try.underlying3 e0_7
  obtain ⟨a0_8, rfl, w0_8⟩ := cell_int Try.underlying3 e0_8
  obtain ⟨a0_9, rfl, y0_9⟩ := cell_string Try.underlying9 e0_9
  obtain ⟨a0_10, rfl, w0_10⟩ := cell_int Try.underlying3 e0_10
  obtain ⟨a0_11, rfl, w0_11⟩ := cell_int Try.underlying3 e0_11
  obtain ⟨a0_12, rfl, w0_12⟩ := cell_int Try.underlying3 e0_12
  obtain ⟨a0_13, rfl, w0_13⟩ := cell_int Try.underlying30 e0_13
  have k0 := h0
  have lt0 : ∀ x ∈ p0, x.block < W.heap.size := by obtain ⟨m, hm⟩ := k0; exact DataW.trod_lt m _ _ _ hm
  obtain ⟨A1, len1, c1, rfl⟩ := okWide_slice Try.underlying22 (hval 1 22 v1 rfl rfl)
  have k1 := h1
  have lt1 : ∀ x ∈ p1, x.block < W.heap.size := by obtain ⟨m, hm⟩ := k1; exact DataW.trod_lt m _ _ _ hm
  obtain ⟨a1, rfl, hc1, hm1, hw1, hr1, hd1⟩ := open_list hsz (j := 1) (t := 22) rfl rfl Try.underlying22 Try.underlying5 (by kernel_rfl) (bt := 1) (by kernel_rfl) h1
  obtain ⟨A2, len2, c2, rfl⟩ := okWide_slice Try.underlying22 (hval 2 22 v2 rfl rfl)
  have k2 := h2
  have lt2 : ∀ x ∈ p2, x.block < W.heap.size := by obtain ⟨m, hm⟩ := k2; exact DataW.trod_lt m _ _ _ hm
  obtain ⟨a2, rfl, hc2, hm2, hw2, hr2, hd2⟩ := open_list hsz (j := 2) (t := 22) rfl rfl Try.underlying22 Try.underlying5 (by kernel_rfl) (bt := 1) (by kernel_rfl) h2
  have hb : a1.length + a2.length ≤ 1048576 := by
    have hk1 := of_decide_eq_true hk
    simp only [List.append_nil, Rows.uptoBulkAll] at hk1
    have b1 := list_le hd1
    have b2 := list_le hd2
    omega
  obtain ⟨K, hK⟩ := Pure.FrameBack a0_0 a0_1 a0_2 a0_3 a0_4 a0_5 a0_6 a0_7 a0_8 a0_9 a0_10 a0_11 a0_12 a0_13 a1 a2 w0_1 w0_5 w0_13 hw1 hw2 hb
  refine (FrameBack.calls K a0_0 a0_1 a0_2 a0_3 a0_4 a0_5 a0_6 a0_7 a0_8 a0_9 a0_10 a0_11 a0_12 a0_13 a1 a2 A1 c1 A2 c2 hr1 hc1 hr2 hc2 true hK W (St.base W)).mono fun e W' ⟨he, hst⟩ => ?_
  have bel := hst.below
  subst he
  exact ⟨_, rfl, _, _, _, [], _, [], hW', trodAll_mk1 (shut_bool Try.underlying4 _), (trodAll_cons_mk (Below.trod laidOut (by kernel_rfl) (of_decide_eq_true (by kernel_rfl)) k0 bel lt0) (trodAll_cons_mk (Below.trod laidOut (by kernel_rfl) (of_decide_eq_true (by kernel_rfl)) k1 bel lt1) (trodAll_cons_mk (Below.trod laidOut (by kernel_rfl) (of_decide_eq_true (by kernel_rfl)) k2 bel lt2) trodAll_mk0))), rfl, bel.frame _, fun h => by cases h⟩
set_option maxRecDepth 100000 in
theorem lifted (os : Os) (started : os.Started) (H : Type) (enc : TypeId × Value → H) (F : Stop.Interp) :
    ReturnsInHanded {} Try.checked os 4 .any ((Rows.OpenSpec.upto Rows.frameBackSpec).pre6 enc Try.prog Try.f4 Rows.frameBackUptoRow.domain false) (((Rows.OpenSpec.upto Rows.frameBackSpec).at F).post enc Try.prog Try.f4 false true false false) := by
  refine returnsInHanded_of_cond_sized (C := Try.checked) (s := Rows.OpenSpec.upto Rows.frameBackSpec) (k := Rows.uptoSmall) rfl own started (by kernel_rfl) Try.func4
    (OpenSpec.witness (enc := enc) (C := Try.checked) (s := Rows.OpenSpec.upto Rows.frameBackSpec) (k := Rows.uptoSmall) rfl false ⟨#[], #[.agg #[.int .i64 0, .int .u64 0, .int .i64 0, .string ByteArray.empty, .string ByteArray.empty, .int .u64 0, .int .i64 0, .int .i64 0, .int .i64 0, .string ByteArray.empty, .int .i64 0, .int .i64 0, .int .i64 0, .int .u32 0], .slice none 0 0, .slice none 0 0], []⟩ 8 (by kernel_rfl) (by kernel_rfl) (by kernel_rfl)
      (x := ([.agg [.lit (.int .i64 0), .agg [.lit (.int .u64 0), .lit (.int .i64 0), .lit (.string []), .lit (.string [])], .agg [.lit (.int .u64 0), .lit (.int .i64 0), .lit (.int .i64 0), .lit (.int .i64 0), .lit (.string [])], .agg [.lit (.int .i64 0), .agg [.lit (.int .i64 0), .lit (.int .i64 0), .lit (.int .u32 0)]]], .nil, .nil], [], [])) (by kernel_rfl) rfl (by kernel_rfl)) ?_
  intro W base args ds gs before hval hW _ hk hsz _
  exact contract H enc W base args ds gs before hval hW hk hsz
theorem proved : Rows.FrameBackUptoSaid :=
  OpenClaim.holds_of_cond 4 Try.f4 rfl rfl rfl rfl rfl rfl rfl ⟨rfl, rfl, rfl, rfl, rfl⟩ rfl rfl rfl rfl rfl (by kernel_rfl) Try.func4 (by kernel_rfl)
    (of_decide_eq_true (by kernel_rfl)) (by unfold Func.isWrapper; first | (rw [if_pos (by decide +kernel)]; kernel_rfl) | (rw [if_neg (by decide +kernel)]; exact ⟨rfl, rfl⟩))
    (fun os started H enc _ F => lifted os started H enc F)
#print axioms proved
end Go.Proofs.Ytakolnamobkkkaa.frameBack
namespace Go.Proofs.Ytakolnamobkkkaa
/-- The statement, under a short name, for the claim. -/
theorem frameBack_holds : Rows.FrameBackUptoSaid := frameBack.proved
end Go.Proofs.Ytakolnamobkkkaa
