/- Own text, printed by the lifting program: each Go function beside a plain function, and the proof that a call of the one comes to the other. Conditions: what came in can be read. -/
import Derived.Test.YtakolnamobkkkaaLiftB
set_option linter.unusedVariables false
set_option linter.unusedSimpArgs false
set_option maxRecDepth 10000
set_option maxHeartbeats 4000000
namespace Go.Proofs.Ytakolnamobkkkaa
open Go Go.Sx
theorem go14 : GoF Try.prog 14 := GoF.of Try.func14 (by kernel_rfl) (by kernel_rfl)
theorem go17 : GoF Try.prog 17 := GoF.of Try.func17 (by kernel_rfl) (by kernel_rfl)
/-! ### salvor/salvorlaw4.FrameApart: function 6 -/
def FrameApart.f (K : Nat) (a0 : List Int) (a1 : Int) (a2 : Int) : Option (Bool) := (known.f K).bind fun t1 => (fDecode.f K a0 a1).bind fun t3 => (fDecode.f K a0 a2).bind fun t7 => (if t3.2.2.2.2.2.2.2.2.2.2.2.2.2.2.2 ≠ 0 then (some true) else (if t7.2.2.2.2.2.2.2.2.2.2.2.2.2.2.2 ≠ 0 then (some true) else (some (decide (a1 = a2))))).bind fun o13 => if o13 = true then (some t1) else (if t1 = true then (if (IntKind.wrap .i64 (a1 + t3.2.2.2.2.2.2.2.2.2.2.2.2.2.2.1)) ≤ a2 then (some true) else (some (decide ((IntKind.wrap .i64 (a2 + t7.2.2.2.2.2.2.2.2.2.2.2.2.2.2.1)) ≤ a1)))) else (some false))
theorem FrameApart.calls {B : Nat} {w0 : World} {G : List HP} (K : Nat) (a0 : List Int) (a1 : Int) (a2 : Int) (Aa0 : Option Addr) (ca0 : Nat) (ha0 : RdG B w0 G Aa0 (a0.map (Value.int .u8))) (ka0 : a0.length ≤ ca0) (r : Bool) (H : FrameApart.f K a0 a1 a2 = some r) (w : World) (hw : St B w0 (G) w) :
    Calls Try.prog 6 [.slice Aa0 a0.length ca0, .int .i64 a1, .int .i64 a2].toArray w (fun e w' => e = .returned (.bool r) ∧ St B w0 (G) w') := by
  unfold FrameApart.f at H
  refine calls_of (n := 56) (s := [(0, .slice Aa0 a0.length ca0), (1, .int .i64 a1), (2, .int .i64 a2)]) Try.func6 rfl rfl rfl rfl ?_ hw
  refine C.rs ?_
  refine J.p rfl rfl rfl rfl (Y.asg rfl) ?_
  refine J.nx ?_
  refine C.rs ?_
  obtain ⟨t1, hC2, H⟩ := bind_some H
  refine J.call (us := []) (cap := []) rfl rfl rfl go14 (fun w hw => by have hcc := known.calls K t1 hC2 w hw; exact hcc) (fun e w1 h1 => ?_)
  obtain ⟨rfl, hw24⟩ := h1
  refine ⟨_, _, rfl, hw24, ?_⟩
  refine J.p rfl rfl rfl rfl (Y.asg rfl) ?_
  refine J.nx ?_
  refine C.rs ?_
  refine J.p rfl rfl rfl rfl (Y.mv rfl) ?_
  refine J.p rfl rfl rfl rfl (Y.mv rfl) ?_
  obtain ⟨t3, hC4, H⟩ := bind_some H
  refine J.call (us := []) (cap := []) rfl rfl rfl go15 (fun w hw => by have hcc := fDecode.calls K a0 a1 Aa0 ca0 ha0 ka0 t3 hC4 w hw; exact hcc) (fun e w1 h1 => ?_)
  obtain ⟨rfl, hw23⟩ := h1
  refine ⟨_, _, rfl, hw23, ?_⟩
  refine J.p rfl rfl rfl rfl (Y.mv rfl) ?_
  refine J.p rfl rfl rfl rfl (Y.ext rfl rfl) ?_
  refine J.p rfl rfl rfl rfl (Y.ext rfl rfl) ?_
  refine J.p rfl rfl rfl rfl (Y.ext rfl rfl) ?_
  refine J.alloc (L := [.int .i64 0, .int .u64 0, .int .i64 0, .string ByteArray.empty, .string ByteArray.empty, .int .u64 0, .int .i64 0, .int .i64 0, .int .i64 0, .string ByteArray.empty, .int .i64 0, .int .i64 0, .int .i64 0, .int .u32 0]) rfl ti36 rfl (fun g5 => ?_)
  refine J.stA (us := [.int .i64 t3.1, .int .u64 t3.2.1, .int .i64 t3.2.2.1, .string t3.2.2.2.1, .string t3.2.2.2.2.1, .int .u64 t3.2.2.2.2.2.1, .int .i64 t3.2.2.2.2.2.2.1, .int .i64 t3.2.2.2.2.2.2.2.1, .int .i64 t3.2.2.2.2.2.2.2.2.1, .string t3.2.2.2.2.2.2.2.2.2.1, .int .i64 t3.2.2.2.2.2.2.2.2.2.2.1, .int .i64 t3.2.2.2.2.2.2.2.2.2.2.2.1, .int .i64 t3.2.2.2.2.2.2.2.2.2.2.2.2.1, .int .u32 t3.2.2.2.2.2.2.2.2.2.2.2.2.2.1]) (L' := [.int .i64 t3.1, .int .u64 t3.2.1, .int .i64 t3.2.2.1, .string t3.2.2.2.1, .string t3.2.2.2.2.1, .int .u64 t3.2.2.2.2.2.1, .int .i64 t3.2.2.2.2.2.2.1, .int .i64 t3.2.2.2.2.2.2.2.1, .int .i64 t3.2.2.2.2.2.2.2.2.1, .string t3.2.2.2.2.2.2.2.2.2.1, .int .i64 t3.2.2.2.2.2.2.2.2.2.2.1, .int .i64 t3.2.2.2.2.2.2.2.2.2.2.2.1, .int .i64 t3.2.2.2.2.2.2.2.2.2.2.2.2.1, .int .u32 t3.2.2.2.2.2.2.2.2.2.2.2.2.2.1]) ti36 rfl rfl rfl rfl rfl rfl ?_
  refine J.p rfl rfl rfl rfl (Y.asg rfl) ?_
  refine J.p rfl rfl rfl rfl (Y.asg rfl) ?_
  refine J.nx ?_
  refine C.rs ?_
  refine J.p rfl rfl rfl rfl (Y.mv rfl) ?_
  refine J.p rfl rfl rfl rfl (Y.mv rfl) ?_
  obtain ⟨t7, hC8, H⟩ := bind_some H
  refine J.call (us := []) (cap := []) rfl rfl rfl go15 (fun w hw => by have hcc := fDecode.calls K a0 a2 Aa0 ca0 (ha0.suf [_] rfl) ka0 t7 hC8 w hw; exact hcc) (fun e w1 h1 => ?_)
  obtain ⟨rfl, hw22⟩ := h1
  refine ⟨_, _, rfl, hw22, ?_⟩
  refine J.p rfl rfl rfl rfl (Y.mv rfl) ?_
  refine J.p rfl rfl rfl rfl (Y.ext rfl rfl) ?_
  refine J.p rfl rfl rfl rfl (Y.ext rfl rfl) ?_
  refine J.p rfl rfl rfl rfl (Y.ext rfl rfl) ?_
  refine J.alloc (L := [.int .i64 0, .int .u64 0, .int .i64 0, .string ByteArray.empty, .string ByteArray.empty, .int .u64 0, .int .i64 0, .int .i64 0, .int .i64 0, .string ByteArray.empty, .int .i64 0, .int .i64 0, .int .i64 0, .int .u32 0]) rfl ti36 rfl (fun g9 => ?_)
  refine J.stA (us := [.int .i64 t7.1, .int .u64 t7.2.1, .int .i64 t7.2.2.1, .string t7.2.2.2.1, .string t7.2.2.2.2.1, .int .u64 t7.2.2.2.2.2.1, .int .i64 t7.2.2.2.2.2.2.1, .int .i64 t7.2.2.2.2.2.2.2.1, .int .i64 t7.2.2.2.2.2.2.2.2.1, .string t7.2.2.2.2.2.2.2.2.2.1, .int .i64 t7.2.2.2.2.2.2.2.2.2.2.1, .int .i64 t7.2.2.2.2.2.2.2.2.2.2.2.1, .int .i64 t7.2.2.2.2.2.2.2.2.2.2.2.2.1, .int .u32 t7.2.2.2.2.2.2.2.2.2.2.2.2.2.1]) (L' := [.int .i64 t7.1, .int .u64 t7.2.1, .int .i64 t7.2.2.1, .string t7.2.2.2.1, .string t7.2.2.2.2.1, .int .u64 t7.2.2.2.2.2.1, .int .i64 t7.2.2.2.2.2.2.1, .int .i64 t7.2.2.2.2.2.2.2.1, .int .i64 t7.2.2.2.2.2.2.2.2.1, .string t7.2.2.2.2.2.2.2.2.2.1, .int .i64 t7.2.2.2.2.2.2.2.2.2.2.1, .int .i64 t7.2.2.2.2.2.2.2.2.2.2.2.1, .int .i64 t7.2.2.2.2.2.2.2.2.2.2.2.2.1, .int .u32 t7.2.2.2.2.2.2.2.2.2.2.2.2.2.1]) ti36 rfl rfl rfl rfl rfl rfl ?_
  refine J.p rfl rfl rfl rfl (Y.asg rfl) ?_
  refine J.p rfl rfl rfl rfl (Y.asg rfl) ?_
  refine J.nx ?_
  refine C.seq ?_
  refine C.rs ?_
  refine J.joinB H (fun (o13 : Bool) (j14 : Unit) => [(1, .int .i64 a1), (2, .int .i64 a2), (7, .bool t1), (9, .int .i64 t3.2.2.2.2.2.2.2.2.2.2.2.2.2.2.1), (12, .int .i64 t7.2.2.2.2.2.2.2.2.2.2.2.2.2.2.1), (39, .bool o13)]) (fun (o13 : Bool) (j14 : Unit) => G) (fun (o13 : Bool) (j14 : Unit) => True) (fun o15 H HK16 => ?_) (fun o13 j14 H _ => ?_)
  · refine J.p rfl rfl rfl rfl (Y.mv rfl) ?_
    refine J.p rfl rfl rfl rfl (Y.bin rfl rfl rfl) ?_
    refine J.p rfl rfl rfl rfl (Y.mv rfl) ?_
    refine split2 H (fun c17 H => ?_) (fun c17 H => ?_)
    · refine J.as (k := 31) rfl (congrArg Value.bool (decide_eq_true c17)) ?_
      refine J.skip rfl rfl ?_
      refine J.skip rfl rfl ?_
      refine J.p rfl rfl rfl rfl (Y.pickT rfl rfl) ?_
      refine J.p rfl rfl rfl rfl (Y.mv rfl) ?_
      refine J.skip rfl rfl ?_
      refine J.skip rfl rfl ?_
      refine J.skip rfl rfl ?_
      refine J.p rfl rfl rfl rfl (Y.pickT rfl rfl) ?_
      refine J.nil ?_
      obtain rfl := Option.some.inj H
      exact N.meet (true, ()) ⟨HK16, trivial⟩ (by exact ⟨rfl, rfl, rfl, rfl, rfl, rfl, trivial⟩) (by exact fun w h => (St.pick [] [_, _] h rfl))
    · refine J.as (k := 31) rfl (congrArg Value.bool (decide_eq_false c17)) ?_
      refine J.p rfl rfl rfl rfl (Y.mv rfl) ?_
      refine J.p rfl rfl rfl rfl (Y.bin rfl rfl rfl) ?_
      refine J.p rfl rfl rfl rfl (Y.pickF rfl rfl) ?_
      refine J.p rfl rfl rfl rfl (Y.mv rfl) ?_
      refine split2 H (fun c18 H => ?_) (fun c18 H => ?_)
      · refine J.as (k := 35) rfl (congrArg Value.bool (decide_eq_true c18)) ?_
        refine J.skip rfl rfl ?_
        refine J.skip rfl rfl ?_
        refine J.skip rfl rfl ?_
        refine J.p rfl rfl rfl rfl (Y.pickT rfl rfl) ?_
        refine J.nil ?_
        obtain rfl := Option.some.inj H
        exact N.meet (true, ()) ⟨HK16, trivial⟩ (by exact ⟨rfl, rfl, rfl, rfl, rfl, rfl, trivial⟩) (by exact fun w h => (St.pick [] [_, _] h rfl))
      · refine J.as (k := 35) rfl (congrArg Value.bool (decide_eq_false c18)) ?_
        refine J.p rfl rfl rfl rfl (Y.mv rfl) ?_
        refine J.p rfl rfl rfl rfl (Y.mv rfl) ?_
        refine J.p rfl rfl rfl rfl (Y.bin rfl rfl rfl) ?_
        refine J.p rfl rfl rfl rfl (Y.pickF rfl rfl) ?_
        refine J.nil ?_
        obtain rfl := Option.some.inj H
        exact N.meet (decide (a1 = a2), ()) ⟨HK16, trivial⟩ (by exact ⟨rfl, rfl, rfl, rfl, rfl, rfl, trivial⟩) (by exact fun w h => (St.pick [] [_, _] h rfl))
  · refine C.at (s' := [(1, .int .i64 a1), (2, .int .i64 a2), (7, .bool t1), (9, .int .i64 t3.2.2.2.2.2.2.2.2.2.2.2.2.2.2.1), (12, .int .i64 t7.2.2.2.2.2.2.2.2.2.2.2.2.2.2.1), (39, .bool o13)]) (G' := G) rfl rfl ?_
    refine split2 H (fun c19 H => ?_) (fun c19 H => ?_)
    · refine C.condT (congrArg (fun b => some (Value.bool b)) (c19)) ?_
      refine C.rs ?_
      refine J.p rfl rfl rfl rfl (Y.mv rfl) ?_
      refine J.p rfl rfl rfl rfl (Y.asg rfl) ?_
      refine J.nx ?_
      refine C.ret ?_
      obtain rfl := Option.some.inj H
      refine T.th ?_
      exact ret_ok (ks := [6]) rfl rfl (fun w h => ⟨rfl, h⟩)
    · refine C.condF (congrArg (fun b => some (Value.bool b)) (nt c19)) ?_
      refine C.skip ?_
      refine N.nx ?_
      refine C.rs ?_
      refine J.p rfl rfl rfl rfl (Y.mv rfl) ?_
      refine J.p rfl rfl rfl rfl (Y.mv rfl) ?_
      refine split2 H (fun c20 H => ?_) (fun c20 H => ?_)
      · refine J.as (k := 42) rfl (congrArg Value.bool (c20)) ?_
        refine J.p rfl rfl rfl rfl (Y.mv rfl) ?_
        refine J.p rfl rfl rfl rfl (Y.mv rfl) ?_
        refine J.p rfl rfl rfl rfl (Y.bin rfl rfl rfl) ?_
        refine J.p rfl rfl rfl rfl (Y.mv rfl) ?_
        refine J.p rfl rfl rfl rfl (Y.bin rfl rfl rfl) ?_
        refine J.p rfl rfl rfl rfl (Y.mv rfl) ?_
        refine split2 H (fun c21 H => ?_) (fun c21 H => ?_)
        · refine J.as (k := 48) rfl (congrArg Value.bool (decide_eq_true c21)) ?_
          refine J.skip rfl rfl ?_
          refine J.skip rfl rfl ?_
          refine J.skip rfl rfl ?_
          refine J.skip rfl rfl ?_
          refine J.skip rfl rfl ?_
          refine J.p rfl rfl rfl rfl (Y.pickT rfl rfl) ?_
          refine J.p rfl rfl rfl rfl (Y.pickT rfl rfl) ?_
          refine J.p rfl rfl rfl rfl (Y.asg rfl) ?_
          refine J.nx ?_
          refine C.ret ?_
          obtain rfl := Option.some.inj H
          exact ret_ok (ks := [6]) rfl rfl (fun w h => ⟨rfl, h⟩)
        · refine J.as (k := 48) rfl (congrArg Value.bool (decide_eq_false c21)) ?_
          refine J.p rfl rfl rfl rfl (Y.mv rfl) ?_
          refine J.p rfl rfl rfl rfl (Y.mv rfl) ?_
          refine J.p rfl rfl rfl rfl (Y.bin rfl rfl rfl) ?_
          refine J.p rfl rfl rfl rfl (Y.mv rfl) ?_
          refine J.p rfl rfl rfl rfl (Y.bin rfl rfl rfl) ?_
          refine J.p rfl rfl rfl rfl (Y.pickF rfl rfl) ?_
          refine J.p rfl rfl rfl rfl (Y.pickT rfl rfl) ?_
          refine J.p rfl rfl rfl rfl (Y.asg rfl) ?_
          refine J.nx ?_
          refine C.ret ?_
          obtain rfl := Option.some.inj H
          exact ret_ok (ks := [6]) rfl rfl (fun w h => ⟨rfl, h⟩)
      · refine J.as (k := 42) rfl (congrArg Value.bool (nt c20)) ?_
        refine J.skip rfl rfl ?_
        refine J.skip rfl rfl ?_
        refine J.skip rfl rfl ?_
        refine J.skip rfl rfl ?_
        refine J.skip rfl rfl ?_
        refine J.skip rfl rfl ?_
        refine J.skip rfl rfl ?_
        refine J.skip rfl rfl ?_
        refine J.skip rfl rfl ?_
        refine J.skip rfl rfl ?_
        refine J.skip rfl rfl ?_
        refine J.skip rfl rfl ?_
        refine J.p rfl rfl rfl rfl (Y.pickF rfl rfl) ?_
        refine J.p rfl rfl rfl rfl (Y.asg rfl) ?_
        refine J.nx ?_
        refine C.ret ?_
        obtain rfl := Option.some.inj H
        exact ret_ok (ks := [6]) rfl rfl (fun w h => ⟨rfl, h⟩)
end Go.Proofs.Ytakolnamobkkkaa
