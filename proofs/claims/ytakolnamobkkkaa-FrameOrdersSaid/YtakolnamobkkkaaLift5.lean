/- Own text, printed by the lifting program: each Go function beside a plain function, and the proof that a call of the one comes to the other. Conditions: what came in can be read. -/
import Derived.Test.YtakolnamobkkkaaLiftB
set_option linter.unusedVariables false
set_option linter.unusedSimpArgs false
set_option maxRecDepth 10000
set_option maxHeartbeats 4000000
namespace Go.Proofs.Ytakolnamobkkkaa
open Go Go.Sx
theorem go14 : GoF Try.prog 14 := GoF.of Try.func14 (by kernel_rfl) (by kernel_rfl)
theorem go17 : GoF Try.prog 17 := GoF.of Try.func17 (by kernel_rfl) (by kernel_rfl)
/-! ### salvor/salvorlaw4.FrameOnce: function 5 -/
def FrameOnce.f (K : Nat) (a0 : List Int) (a1 : Int) : Option (Bool) := (known.f K).bind fun t1 => (fDecode.f K a0 a1).bind fun t3 => if t3.2.2.2.2.2.2.2.2.2.2.2.2.2.2.2 ≠ 0 then (if t1 = true then (if t3.2.2.2.2.2.2.2.2.2.2.2.2.2.2.1 = 0 then (some (decide (t3.1 = 0 ∧ (t3.2.1 = 0 ∧ t3.2.2.1 = 0 ∧ t3.2.2.2.1 = ByteArray.empty ∧ t3.2.2.2.2.1 = ByteArray.empty ∧ True) ∧ (t3.2.2.2.2.2.1 = 0 ∧ t3.2.2.2.2.2.2.1 = 0 ∧ t3.2.2.2.2.2.2.2.1 = 0 ∧ t3.2.2.2.2.2.2.2.2.1 = 0 ∧ t3.2.2.2.2.2.2.2.2.2.1 = ByteArray.empty ∧ True) ∧ (t3.2.2.2.2.2.2.2.2.2.2.1 = 0 ∧ (t3.2.2.2.2.2.2.2.2.2.2.2.1 = 0 ∧ t3.2.2.2.2.2.2.2.2.2.2.2.2.1 = 0 ∧ t3.2.2.2.2.2.2.2.2.2.2.2.2.2.1 = 0 ∧ True) ∧ True) ∧ True))) else (some false)) else (some false)) else ((fEncode.f K t3.1 t3.2.1 t3.2.2.1 t3.2.2.2.1 t3.2.2.2.2.1 t3.2.2.2.2.2.1 t3.2.2.2.2.2.2.1 t3.2.2.2.2.2.2.2.1 t3.2.2.2.2.2.2.2.2.1 t3.2.2.2.2.2.2.2.2.2.1 t3.2.2.2.2.2.2.2.2.2.2.1 t3.2.2.2.2.2.2.2.2.2.2.2.1 t3.2.2.2.2.2.2.2.2.2.2.2.2.1 t3.2.2.2.2.2.2.2.2.2.2.2.2.2.1).bind fun t10 => (if t10.2 ≠ 0 then (some true) else (if t3.2.2.2.2.2.2.2.2.2.2.2.2.2.2.1 < 10 then (some true) else (if a1 < 0 then (some true) else (some (decide ((IntKind.wrap .i64 ((a0.length : Int) - a1)) < t3.2.2.2.2.2.2.2.2.2.2.2.2.2.2.1)))))).bind fun o18 => if o18 = true then (some false) else (gd ((0 : Int) ≤ a1 ∧ (0 : Int) ≤ (IntKind.wrap .i64 (a1 + t3.2.2.2.2.2.2.2.2.2.2.2.2.2.2.1)) ∧ ((Int.toNat a1) ≤ (Int.toNat (IntKind.wrap .i64 (a1 + t3.2.2.2.2.2.2.2.2.2.2.2.2.2.2.1))) ∧ (Int.toNat (IntKind.wrap .i64 (a1 + t3.2.2.2.2.2.2.2.2.2.2.2.2.2.2.1))) ≤ a0.length)) ((same.f K t10.1 ((a0.take (Int.toNat (IntKind.wrap .i64 (a1 + t3.2.2.2.2.2.2.2.2.2.2.2.2.2.2.1)))).drop (Int.toNat a1))).bind fun t28 => if t1 = true then (some t28) else (some false))))
theorem FrameOnce.calls {B : Nat} {w0 : World} {G : List HP} (K : Nat) (a0 : List Int) (a1 : Int) (Aa0 : Option Addr) (ca0 : Nat) (ha0 : RdG B w0 G Aa0 (a0.map (Value.int .u8))) (ka0 : a0.length ≤ ca0) (r : Bool) (H : FrameOnce.f K a0 a1 = some r) (w : World) (hw : St B w0 (G) w) :
    Calls Try.prog 5 [.slice Aa0 a0.length ca0, .int .i64 a1].toArray w (fun e w' => e = .returned (.bool r) ∧ St B w0 (G) w') := by
  unfold FrameOnce.f at H
  refine calls_of (n := 67) (s := [(0, .slice Aa0 a0.length ca0), (1, .int .i64 a1)]) Try.func5 rfl rfl rfl rfl ?_ hw
  refine C.rs ?_
  refine J.p rfl rfl rfl rfl (Y.asg rfl) ?_
  refine J.nx ?_
  refine C.rs ?_
  obtain ⟨t1, hC2, H⟩ := bind_some H
  refine J.call (us := []) (cap := []) rfl rfl rfl go14 (fun w hw => by have hcc := known.calls K t1 hC2 w hw; exact hcc) (fun e w1 h1 => ?_)
  obtain ⟨rfl, hw34⟩ := h1
  refine ⟨_, _, rfl, hw34, ?_⟩
  refine J.p rfl rfl rfl rfl (Y.asg rfl) ?_
  refine J.nx ?_
  refine C.rs ?_
  refine J.p rfl rfl rfl rfl (Y.mv rfl) ?_
  refine J.p rfl rfl rfl rfl (Y.mv rfl) ?_
  obtain ⟨t3, hC4, H⟩ := bind_some H
  refine J.call (us := []) (cap := []) rfl rfl rfl go15 (fun w hw => by have hcc := fDecode.calls K a0 a1 Aa0 ca0 ha0 ka0 t3 hC4 w hw; exact hcc) (fun e w1 h1 => ?_)
  obtain ⟨rfl, hw33⟩ := h1
  refine ⟨_, _, rfl, hw33, ?_⟩
  refine J.p rfl rfl rfl rfl (Y.mv rfl) ?_
  refine J.p rfl rfl rfl rfl (Y.ext rfl rfl) ?_
  refine J.p rfl rfl rfl rfl (Y.ext rfl rfl) ?_
  refine J.p rfl rfl rfl rfl (Y.ext rfl rfl) ?_
  refine J.alloc (L := [.int .i64 0, .int .u64 0, .int .i64 0, .string ByteArray.empty, .string ByteArray.empty, .int .u64 0, .int .i64 0, .int .i64 0, .int .i64 0, .string ByteArray.empty, .int .i64 0, .int .i64 0, .int .i64 0, .int .u32 0]) rfl ti36 rfl (fun g5 => ?_)
  refine J.stA (us := [.int .i64 t3.1, .int .u64 t3.2.1, .int .i64 t3.2.2.1, .string t3.2.2.2.1, .string t3.2.2.2.2.1, .int .u64 t3.2.2.2.2.2.1, .int .i64 t3.2.2.2.2.2.2.1, .int .i64 t3.2.2.2.2.2.2.2.1, .int .i64 t3.2.2.2.2.2.2.2.2.1, .string t3.2.2.2.2.2.2.2.2.2.1, .int .i64 t3.2.2.2.2.2.2.2.2.2.2.1, .int .i64 t3.2.2.2.2.2.2.2.2.2.2.2.1, .int .i64 t3.2.2.2.2.2.2.2.2.2.2.2.2.1, .int .u32 t3.2.2.2.2.2.2.2.2.2.2.2.2.2.1]) (L' := [.int .i64 t3.1, .int .u64 t3.2.1, .int .i64 t3.2.2.1, .string t3.2.2.2.1, .string t3.2.2.2.2.1, .int .u64 t3.2.2.2.2.2.1, .int .i64 t3.2.2.2.2.2.2.1, .int .i64 t3.2.2.2.2.2.2.2.1, .int .i64 t3.2.2.2.2.2.2.2.2.1, .string t3.2.2.2.2.2.2.2.2.2.1, .int .i64 t3.2.2.2.2.2.2.2.2.2.2.1, .int .i64 t3.2.2.2.2.2.2.2.2.2.2.2.1, .int .i64 t3.2.2.2.2.2.2.2.2.2.2.2.2.1, .int .u32 t3.2.2.2.2.2.2.2.2.2.2.2.2.2.1]) ti36 rfl rfl rfl rfl rfl rfl ?_
  refine J.p rfl rfl rfl rfl (Y.asg rfl) ?_
  refine J.p rfl rfl rfl rfl (Y.asg rfl) ?_
  refine J.nx ?_
  refine C.seq ?_
  refine C.rs ?_
  refine J.p rfl rfl rfl rfl (Y.mv rfl) ?_
  refine J.p rfl rfl rfl rfl (Y.bin rfl rfl rfl) ?_
  refine J.nx ?_
  refine split2 H (fun c7 H => ?_) (fun c7 H => ?_)
  · refine C.condT (congrArg (fun b => some (Value.bool b)) (decide_eq_true c7)) ?_
    refine C.rs ?_
    refine J.p rfl rfl rfl rfl (Y.mv rfl) ?_
    refine J.p rfl rfl rfl rfl (Y.mv rfl) ?_
    refine split2 H (fun c8 H => ?_) (fun c8 H => ?_)
    · refine J.as (k := 23) rfl (congrArg Value.bool (c8)) ?_
      refine J.p rfl rfl rfl rfl (Y.mv rfl) ?_
      refine J.p rfl rfl rfl rfl (Y.bin rfl rfl rfl) ?_
      refine J.p rfl rfl rfl rfl (Y.pickT rfl rfl) ?_
      refine J.p rfl rfl rfl rfl (Y.mv rfl) ?_
      refine split2 H (fun c9 H => ?_) (fun c9 H => ?_)
      · refine J.as (k := 27) rfl (congrArg Value.bool (decide_eq_true c9)) ?_
        refine J.r rfl rfl rfl rfl (Y.ldCA (us := [.int .i64 t3.1, .int .u64 t3.2.1, .int .i64 t3.2.2.1, .string t3.2.2.2.1, .string t3.2.2.2.2.1, .int .u64 t3.2.2.2.2.2.1, .int .i64 t3.2.2.2.2.2.2.1, .int .i64 t3.2.2.2.2.2.2.2.1, .int .i64 t3.2.2.2.2.2.2.2.2.1, .string t3.2.2.2.2.2.2.2.2.2.1, .int .i64 t3.2.2.2.2.2.2.2.2.2.2.1, .int .i64 t3.2.2.2.2.2.2.2.2.2.2.2.1, .int .i64 t3.2.2.2.2.2.2.2.2.2.2.2.2.1, .int .u32 t3.2.2.2.2.2.2.2.2.2.2.2.2.2.1]) 0 Try.underlying36 rfl ti36 rfl rfl rfl rfl) ?_
        refine J.p rfl rfl rfl rfl (Y.bld (cs := [.int .i64 0, .int .u64 0, .int .i64 0, .string ByteArray.empty, .string ByteArray.empty, .int .u64 0, .int .i64 0, .int .i64 0, .int .i64 0, .string ByteArray.empty, .int .i64 0, .int .i64 0, .int .i64 0, .int .u32 0]) rfl pl36 ti36 rfl (by kernel_rfl)) ?_
        refine J.p rfl rfl rfl rfl (Y.eqst Try.eqGuardType36 rfl (EqV.struct Try.underlying36 Try.stoodInHeld36 (EqFs.cons rfl (part_one (v := .int .i64 t3.1) Try.underlying24 rfl (by kernel_rfl)) (part_one (v := .int .i64 0) Try.underlying24 rfl (by kernel_rfl)) (EqV.int 2 Try.underlying24) (EqFs.cons rfl (part_agg (us := #[.int .u64 t3.2.1, .int .i64 t3.2.2.1, .string t3.2.2.2.1, .string t3.2.2.2.2.1]) Try.underlying27 rfl ti27 (by kernel_rfl)) (part_agg (us := #[.int .u64 0, .int .i64 0, .string ByteArray.empty, .string ByteArray.empty]) Try.underlying27 rfl ti27 (by kernel_rfl)) (EqV.struct Try.underlying27 Try.stoodInHeld27 (EqFs.cons rfl (part_one (v := .int .u64 t3.2.1) Try.underlying25 rfl (by kernel_rfl)) (part_one (v := .int .u64 0) Try.underlying25 rfl (by kernel_rfl)) (EqV.int 1 Try.underlying25) (EqFs.cons rfl (part_one (v := .int .i64 t3.2.2.1) Try.underlying24 rfl (by kernel_rfl)) (part_one (v := .int .i64 0) Try.underlying24 rfl (by kernel_rfl)) (EqV.int 1 Try.underlying24) (EqFs.cons rfl (part_one (v := .string t3.2.2.2.1) Try.underlying9 rfl (by kernel_rfl)) (part_one (v := .string ByteArray.empty) Try.underlying9 rfl (by kernel_rfl)) (EqV.str 1 Try.underlying9) (EqFs.cons rfl (part_one (v := .string t3.2.2.2.2.1) Try.underlying9 rfl (by kernel_rfl)) (part_one (v := .string ByteArray.empty) Try.underlying9 rfl (by kernel_rfl)) (EqV.str 1 Try.underlying9) EqFs.nil))))) (EqFs.cons rfl (part_agg (us := #[.int .u64 t3.2.2.2.2.2.1, .int .i64 t3.2.2.2.2.2.2.1, .int .i64 t3.2.2.2.2.2.2.2.1, .int .i64 t3.2.2.2.2.2.2.2.2.1, .string t3.2.2.2.2.2.2.2.2.2.1]) Try.underlying29 rfl ti29 (by kernel_rfl)) (part_agg (us := #[.int .u64 0, .int .i64 0, .int .i64 0, .int .i64 0, .string ByteArray.empty]) Try.underlying29 rfl ti29 (by kernel_rfl)) (EqV.struct Try.underlying29 Try.stoodInHeld29 (EqFs.cons rfl (part_one (v := .int .u64 t3.2.2.2.2.2.1) Try.underlying25 rfl (by kernel_rfl)) (part_one (v := .int .u64 0) Try.underlying25 rfl (by kernel_rfl)) (EqV.int 1 Try.underlying25) (EqFs.cons rfl (part_one (v := .int .i64 t3.2.2.2.2.2.2.1) Try.underlying24 rfl (by kernel_rfl)) (part_one (v := .int .i64 0) Try.underlying24 rfl (by kernel_rfl)) (EqV.int 1 Try.underlying24) (EqFs.cons rfl (part_one (v := .int .i64 t3.2.2.2.2.2.2.2.1) Try.underlying3 rfl (by kernel_rfl)) (part_one (v := .int .i64 0) Try.underlying3 rfl (by kernel_rfl)) (EqV.int 1 Try.underlying3) (EqFs.cons rfl (part_one (v := .int .i64 t3.2.2.2.2.2.2.2.2.1) Try.underlying3 rfl (by kernel_rfl)) (part_one (v := .int .i64 0) Try.underlying3 rfl (by kernel_rfl)) (EqV.int 1 Try.underlying3) (EqFs.cons rfl (part_one (v := .string t3.2.2.2.2.2.2.2.2.2.1) Try.underlying9 rfl (by kernel_rfl)) (part_one (v := .string ByteArray.empty) Try.underlying9 rfl (by kernel_rfl)) (EqV.str 1 Try.underlying9) EqFs.nil)))))) (EqFs.cons rfl (part_agg (us := #[.int .i64 t3.2.2.2.2.2.2.2.2.2.2.1, .int .i64 t3.2.2.2.2.2.2.2.2.2.2.2.1, .int .i64 t3.2.2.2.2.2.2.2.2.2.2.2.2.1, .int .u32 t3.2.2.2.2.2.2.2.2.2.2.2.2.2.1]) Try.underlying34 rfl ti34 (by kernel_rfl)) (part_agg (us := #[.int .i64 0, .int .i64 0, .int .i64 0, .int .u32 0]) Try.underlying34 rfl ti34 (by kernel_rfl)) (EqV.struct Try.underlying34 Try.stoodInHeld34 (EqFs.cons rfl (part_one (v := .int .i64 t3.2.2.2.2.2.2.2.2.2.2.1) Try.underlying3 rfl (by kernel_rfl)) (part_one (v := .int .i64 0) Try.underlying3 rfl (by kernel_rfl)) (EqV.int 1 Try.underlying3) (EqFs.cons rfl (part_agg (us := #[.int .i64 t3.2.2.2.2.2.2.2.2.2.2.2.1, .int .i64 t3.2.2.2.2.2.2.2.2.2.2.2.2.1, .int .u32 t3.2.2.2.2.2.2.2.2.2.2.2.2.2.1]) Try.underlying32 rfl ti32 (by kernel_rfl)) (part_agg (us := #[.int .i64 0, .int .i64 0, .int .u32 0]) Try.underlying32 rfl ti32 (by kernel_rfl)) (EqV.struct Try.underlying32 Try.stoodInHeld32 (EqFs.cons rfl (part_one (v := .int .i64 t3.2.2.2.2.2.2.2.2.2.2.2.1) Try.underlying3 rfl (by kernel_rfl)) (part_one (v := .int .i64 0) Try.underlying3 rfl (by kernel_rfl)) (EqV.int 0 Try.underlying3) (EqFs.cons rfl (part_one (v := .int .i64 t3.2.2.2.2.2.2.2.2.2.2.2.2.1) Try.underlying3 rfl (by kernel_rfl)) (part_one (v := .int .i64 0) Try.underlying3 rfl (by kernel_rfl)) (EqV.int 0 Try.underlying3) (EqFs.cons rfl (part_one (v := .int .u32 t3.2.2.2.2.2.2.2.2.2.2.2.2.2.1) Try.underlying30 rfl (by kernel_rfl)) (part_one (v := .int .u32 0) Try.underlying30 rfl (by kernel_rfl)) (EqV.int 0 Try.underlying30) EqFs.nil)))) EqFs.nil))) EqFs.nil))))) rfl rfl) ?_
        refine J.p rfl rfl rfl rfl (Y.pickT rfl rfl) ?_
        refine J.p rfl rfl rfl rfl (Y.asg rfl) ?_
        refine J.nx ?_
        refine C.ret ?_
        obtain rfl := Option.some.inj H
        refine T.th ?_
        exact ret_ok (ks := [4]) rfl rfl (fun w h => ⟨rfl, (St.pick [] [_] h rfl)⟩)
      · refine J.as (k := 27) rfl (congrArg Value.bool (decide_eq_false c9)) ?_
        refine J.skip rfl rfl ?_
        refine J.skip rfl rfl ?_
        refine J.skip rfl rfl ?_
        refine J.p rfl rfl rfl rfl (Y.pickF rfl rfl) ?_
        refine J.p rfl rfl rfl rfl (Y.asg rfl) ?_
        refine J.nx ?_
        refine C.ret ?_
        obtain rfl := Option.some.inj H
        refine T.th ?_
        exact ret_ok (ks := [4]) rfl rfl (fun w h => ⟨rfl, (St.pick [] [_] h rfl)⟩)
    · refine J.as (k := 23) rfl (congrArg Value.bool (nt c8)) ?_
      refine J.skip rfl rfl ?_
      refine J.skip rfl rfl ?_
      refine J.p rfl rfl rfl rfl (Y.pickF rfl rfl) ?_
      refine J.p rfl rfl rfl rfl (Y.mv rfl) ?_
      refine J.skip rfl rfl ?_
      refine J.skip rfl rfl ?_
      refine J.skip rfl rfl ?_
      refine J.p rfl rfl rfl rfl (Y.pickF rfl rfl) ?_
      refine J.p rfl rfl rfl rfl (Y.asg rfl) ?_
      refine J.nx ?_
      refine C.ret ?_
      obtain rfl := Option.some.inj H
      refine T.th ?_
      exact ret_ok (ks := [4]) rfl rfl (fun w h => ⟨rfl, (St.pick [] [_] h rfl)⟩)
  · refine C.condF (congrArg (fun b => some (Value.bool b)) (decide_eq_false c7)) ?_
    refine C.skip ?_
    refine N.nx ?_
    refine C.rs ?_
    refine J.r rfl rfl rfl rfl (Y.ldCA (us := [.int .i64 t3.1, .int .u64 t3.2.1, .int .i64 t3.2.2.1, .string t3.2.2.2.1, .string t3.2.2.2.2.1, .int .u64 t3.2.2.2.2.2.1, .int .i64 t3.2.2.2.2.2.2.1, .int .i64 t3.2.2.2.2.2.2.2.1, .int .i64 t3.2.2.2.2.2.2.2.2.1, .string t3.2.2.2.2.2.2.2.2.2.1, .int .i64 t3.2.2.2.2.2.2.2.2.2.2.1, .int .i64 t3.2.2.2.2.2.2.2.2.2.2.2.1, .int .i64 t3.2.2.2.2.2.2.2.2.2.2.2.2.1, .int .u32 t3.2.2.2.2.2.2.2.2.2.2.2.2.2.1]) 0 Try.underlying36 rfl ti36 rfl rfl rfl rfl) ?_
    obtain ⟨t10, hC11, H⟩ := bind_some H
    refine J.call (us := []) (cap := []) rfl rfl rfl go18 (fun w hw => by have hcc := fEncode.calls K t3.1 t3.2.1 t3.2.2.1 t3.2.2.2.1 t3.2.2.2.2.1 t3.2.2.2.2.2.1 t3.2.2.2.2.2.2.1 t3.2.2.2.2.2.2.2.1 t3.2.2.2.2.2.2.2.2.1 t3.2.2.2.2.2.2.2.2.2.1 t3.2.2.2.2.2.2.2.2.2.2.1 t3.2.2.2.2.2.2.2.2.2.2.2.1 t3.2.2.2.2.2.2.2.2.2.2.2.2.1 t3.2.2.2.2.2.2.2.2.2.2.2.2.2.1 t10 hC11 w hw; exact hcc) (fun e w1 h1 => ?_)
    obtain ⟨A12, c13, rfl, hw32⟩ := h1
    refine ⟨_, _, rfl, hw32, ?_⟩
    refine J.p rfl rfl rfl rfl (Y.mv rfl) ?_
    refine J.p rfl rfl rfl rfl (Y.ext rfl rfl) ?_
    refine J.p rfl rfl rfl rfl (Y.ext rfl rfl) ?_
    refine J.p rfl rfl rfl rfl (Y.asg rfl) ?_
    refine J.p rfl rfl rfl rfl (Y.asg rfl) ?_
    refine J.nx ?_
    refine C.seq ?_
    refine C.rs ?_
    refine J.joinB H (fun (o18 : Bool) (j19 : Unit) => [(0, .slice Aa0 a0.length ca0), (1, .int .i64 a1), (5, .bool t1), (7, .int .i64 t3.2.2.2.2.2.2.2.2.2.2.2.2.2.2.1), (9, .slice A12 t10.1.length c13), (54, .bool o18)]) (fun (o18 : Bool) (j19 : Unit) => own 5 1 A12 c13 (t10.1.map (Value.int .u8)) :: G) (fun (o18 : Bool) (j19 : Unit) => True) (fun o20 H HK21 => ?_) (fun o18 j19 H _ => ?_)
    · refine J.p rfl rfl rfl rfl (Y.mv rfl) ?_
      refine J.p rfl rfl rfl rfl (Y.bin rfl rfl rfl) ?_
      refine J.p rfl rfl rfl rfl (Y.mv rfl) ?_
      refine split2 H (fun c22 H => ?_) (fun c22 H => ?_)
      · refine J.as (k := 39) rfl (congrArg Value.bool (decide_eq_true c22)) ?_
        refine J.skip rfl rfl ?_
        refine J.skip rfl rfl ?_
        refine J.p rfl rfl rfl rfl (Y.pickT rfl rfl) ?_
        refine J.p rfl rfl rfl rfl (Y.mv rfl) ?_
        refine J.skip rfl rfl ?_
        refine J.skip rfl rfl ?_
        refine J.p rfl rfl rfl rfl (Y.pickT rfl rfl) ?_
        refine J.p rfl rfl rfl rfl (Y.mv rfl) ?_
        refine J.skip rfl rfl ?_
        refine J.skip rfl rfl ?_
        refine J.skip rfl rfl ?_
        refine J.skip rfl rfl ?_
        refine J.skip rfl rfl ?_
        refine J.skip rfl rfl ?_
        refine J.p rfl rfl rfl rfl (Y.pickT rfl rfl) ?_
        refine J.nil ?_
        obtain rfl := Option.some.inj H
        exact N.meet (true, ()) ⟨HK21, trivial⟩ (by exact ⟨rfl, rfl, rfl, rfl, rfl, rfl, trivial⟩) (by exact fun w h => (St.pick [0] [_, _] h rfl))
      · refine J.as (k := 39) rfl (congrArg Value.bool (decide_eq_false c22)) ?_
        refine J.p rfl rfl rfl rfl (Y.mv rfl) ?_
        refine J.p rfl rfl rfl rfl (Y.bin rfl rfl rfl) ?_
        refine J.p rfl rfl rfl rfl (Y.pickF rfl rfl) ?_
        refine J.p rfl rfl rfl rfl (Y.mv rfl) ?_
        refine split2 H (fun c23 H => ?_) (fun c23 H => ?_)
        · refine J.as (k := 43) rfl (congrArg Value.bool (decide_eq_true c23)) ?_
          refine J.skip rfl rfl ?_
          refine J.skip rfl rfl ?_
          refine J.p rfl rfl rfl rfl (Y.pickT rfl rfl) ?_
          refine J.p rfl rfl rfl rfl (Y.mv rfl) ?_
          refine J.skip rfl rfl ?_
          refine J.skip rfl rfl ?_
          refine J.skip rfl rfl ?_
          refine J.skip rfl rfl ?_
          refine J.skip rfl rfl ?_
          refine J.skip rfl rfl ?_
          refine J.p rfl rfl rfl rfl (Y.pickT rfl rfl) ?_
          refine J.nil ?_
          obtain rfl := Option.some.inj H
          exact N.meet (true, ()) ⟨HK21, trivial⟩ (by exact ⟨rfl, rfl, rfl, rfl, rfl, rfl, trivial⟩) (by exact fun w h => (St.pick [0] [_, _] h rfl))
        · refine J.as (k := 43) rfl (congrArg Value.bool (decide_eq_false c23)) ?_
          refine J.p rfl rfl rfl rfl (Y.mv rfl) ?_
          refine J.p rfl rfl rfl rfl (Y.bin rfl rfl rfl) ?_
          refine J.p rfl rfl rfl rfl (Y.pickF rfl rfl) ?_
          refine J.p rfl rfl rfl rfl (Y.mv rfl) ?_
          refine split2 H (fun c24 H => ?_) (fun c24 H => ?_)
          · refine J.as (k := 47) rfl (congrArg Value.bool (decide_eq_true c24)) ?_
            refine J.skip rfl rfl ?_
            refine J.skip rfl rfl ?_
            refine J.skip rfl rfl ?_
            refine J.skip rfl rfl ?_
            refine J.skip rfl rfl ?_
            refine J.skip rfl rfl ?_
            refine J.p rfl rfl rfl rfl (Y.pickT rfl rfl) ?_
            refine J.nil ?_
            obtain rfl := Option.some.inj H
            exact N.meet (true, ()) ⟨HK21, trivial⟩ (by exact ⟨rfl, rfl, rfl, rfl, rfl, rfl, trivial⟩) (by exact fun w h => (St.pick [0] [_, _] h rfl))
          · refine J.as (k := 47) rfl (congrArg Value.bool (decide_eq_false c24)) ?_
            refine J.p rfl rfl rfl rfl (Y.mv rfl) ?_
            refine J.p rfl rfl rfl rfl (Y.mv rfl) ?_
            refine J.p rfl rfl rfl rfl (Y.lenS Try.underlying22 rfl) ?_
            refine J.p rfl rfl rfl rfl (Y.mv rfl) ?_
            refine J.p rfl rfl rfl rfl (Y.bin rfl rfl rfl) ?_
            refine J.p rfl rfl rfl rfl (Y.bin rfl rfl rfl) ?_
            refine J.p rfl rfl rfl rfl (Y.pickF rfl rfl) ?_
            refine J.nil ?_
            obtain rfl := Option.some.inj H
            exact N.meet (decide ((IntKind.wrap .i64 ((a0.length : Int) - a1)) < t3.2.2.2.2.2.2.2.2.2.2.2.2.2.2.1), ()) ⟨HK21, trivial⟩ (by exact ⟨rfl, rfl, rfl, rfl, rfl, rfl, trivial⟩) (by exact fun w h => (St.pick [0] [_, _] h rfl))
    · refine C.at (s' := [(0, .slice Aa0 a0.length ca0), (1, .int .i64 a1), (5, .bool t1), (7, .int .i64 t3.2.2.2.2.2.2.2.2.2.2.2.2.2.2.1), (9, .slice A12 t10.1.length c13), (54, .bool o18)]) (G' := own 5 1 A12 c13 (t10.1.map (Value.int .u8)) :: G) rfl rfl ?_
      refine split2 H (fun c25 H => ?_) (fun c25 H => ?_)
      · refine C.condT (congrArg (fun b => some (Value.bool b)) (c25)) ?_
        refine C.rs ?_
        refine J.p rfl rfl rfl rfl (Y.asg rfl) ?_
        refine J.nx ?_
        refine C.ret ?_
        obtain rfl := Option.some.inj H
        refine T.th ?_
        exact ret_ok (ks := [4]) rfl rfl (fun w h => ⟨rfl, (St.pick [] [_] h rfl)⟩)
      · refine C.condF (congrArg (fun b => some (Value.bool b)) (nt c25)) ?_
        refine C.skip ?_
        refine N.nx ?_
        refine C.rs ?_
        refine J.p rfl rfl rfl rfl (Y.mv rfl) ?_
        refine J.p rfl rfl rfl rfl (Y.mv rfl) ?_
        refine J.p rfl rfl rfl rfl (Y.mv rfl) ?_
        refine J.p rfl rfl rfl rfl (Y.mv rfl) ?_
        refine J.p rfl rfl rfl rfl (Y.mv rfl) ?_
        refine J.p rfl rfl rfl rfl (Y.bin rfl rfl rfl) ?_
        obtain ⟨p26, H⟩ := gd_some H
        refine J.p rfl rfl rfl rfl (Y.slcL Try.underlying22 ti5 rfl (bnd.yes rfl p26.1) (bnd.yes rfl p26.2.1) p26.2.2 ka0) ?_
        refine J.know (own_leL 0 rfl) (fun hc27 => ?_)
        obtain ⟨t28, hC29, H⟩ := bind_some H
        refine J.call (us := []) (cap := []) rfl rfl rfl go17 (fun w hw => by have hcc := same.calls K t10.1 ((a0.take (Int.toNat (IntKind.wrap .i64 (a1 + t3.2.2.2.2.2.2.2.2.2.2.2.2.2.2.1)))).drop (Int.toNat a1)) A12 c13 (subA 1 Aa0 ca0 (Int.toNat a1)) (ca0 - (Int.toNat a1)) (RdG.own 0 rfl) hc27 (RdG.subL (l := (Int.toNat a1)) (h := (Int.toNat (IntKind.wrap .i64 (a1 + t3.2.2.2.2.2.2.2.2.2.2.2.2.2.2.1)))) (ha0.suf [_] rfl) ka0) (hc_sub ka0) t28 hC29 w hw; exact hcc) (fun e w1 h1 => ?_)
        obtain ⟨rfl, hw31⟩ := h1
        refine ⟨_, _, rfl, hw31, ?_⟩
        refine J.p rfl rfl rfl rfl (Y.asg rfl) ?_
        refine J.nx ?_
        refine C.rs ?_
        refine J.p rfl rfl rfl rfl (Y.mv rfl) ?_
        refine J.p rfl rfl rfl rfl (Y.mv rfl) ?_
        refine split2 H (fun c30 H => ?_) (fun c30 H => ?_)
        · refine J.as (k := 64) rfl (congrArg Value.bool (c30)) ?_
          refine J.p rfl rfl rfl rfl (Y.mv rfl) ?_
          refine J.p rfl rfl rfl rfl (Y.pickT rfl rfl) ?_
          refine J.p rfl rfl rfl rfl (Y.asg rfl) ?_
          refine J.nx ?_
          refine C.ret ?_
          obtain rfl := Option.some.inj H
          exact ret_ok (ks := [4]) rfl rfl (fun w h => ⟨rfl, (St.pick [] [_] h rfl)⟩)
        · refine J.as (k := 64) rfl (congrArg Value.bool (nt c30)) ?_
          refine J.skip rfl rfl ?_
          refine J.p rfl rfl rfl rfl (Y.pickF rfl rfl) ?_
          refine J.p rfl rfl rfl rfl (Y.asg rfl) ?_
          refine J.nx ?_
          refine C.ret ?_
          obtain rfl := Option.some.inj H
          exact ret_ok (ks := [4]) rfl rfl (fun w h => ⟨rfl, (St.pick [] [_] h rfl)⟩)
end Go.Proofs.Ytakolnamobkkkaa
