/- Own text, printed by the lifting program: each Go function beside a plain function, and the proof that a call of the one comes to the other. Conditions: what came in can be read. -/
import Derived.Test.YtakolnamobkkkaaLiftP
set_option linter.unusedVariables false
set_option linter.unusedSimpArgs false
set_option maxRecDepth 10000
set_option maxHeartbeats 4000000
namespace Go.Proofs.Ytakolnamobkkkaa
open Go Go.Sx
theorem go28 : GoF Try.prog 28 := GoF.of Try.func28 (by kernel_rfl) (by kernel_rfl)
/-! ### salvor/salvorlaw4.FrameOrders: function 11 -/
def FrameOrders.f (K : Nat) (a0_0 : Int) (a0_1 : Int) (a0_2 : ByteArray) (a0_3 : ByteArray) (a1_0 : Int) (a1_1 : Int) (a1_2 : ByteArray) (a1_3 : ByteArray) : Option (Bool) := (known.f K).bind fun t5 => if t5 = true then ((fCompare.f K a0_0 a0_1 a0_2 a0_3 a1_0 a1_1 a1_2 a1_3).bind fun t8 => (rCompare.f K a0_0 a0_1 a0_2 a0_3 a1_0 a1_1 a1_2 a1_3).bind fun t10 => if t8 = t10 then ((fCompare.f K a1_0 a1_1 a1_2 a1_3 a0_0 a0_1 a0_2 a0_3).bind fun t13 => (rCompare.f K a1_0 a1_1 a1_2 a1_3 a0_0 a0_1 a0_2 a0_3).bind fun t15 => if t13 = t15 then ((fCompare.f K a0_0 a0_1 a0_2 a0_3 a0_0 a0_1 a0_2 a0_3).bind fun t18 => some (decide (t18 = 0))) else (some false)) else (some false)) else (some false)
theorem FrameOrders.calls {B : Nat} {w0 : World} {G : List HP} (K : Nat) (a0_0 : Int) (a0_1 : Int) (a0_2 : ByteArray) (a0_3 : ByteArray) (a1_0 : Int) (a1_1 : Int) (a1_2 : ByteArray) (a1_3 : ByteArray) (r : Bool) (H : FrameOrders.f K a0_0 a0_1 a0_2 a0_3 a1_0 a1_1 a1_2 a1_3 = some r) (w : World) (hw : St B w0 (G) w) :
    Calls Try.prog 11 [.agg #[.int .u64 a0_0, .int .i64 a0_1, .string a0_2, .string a0_3], .agg #[.int .u64 a1_0, .int .i64 a1_1, .string a1_2, .string a1_3]].toArray w (fun e w' => e = .returned (.bool r) ∧ St B w0 (G) w') := by
  unfold FrameOrders.f at H
  refine calls_of (n := 32) (s := [(0, .agg #[.int .u64 a0_0, .int .i64 a0_1, .string a0_2, .string a0_3]), (1, .agg #[.int .u64 a1_0, .int .i64 a1_1, .string a1_2, .string a1_3])]) Try.func11 rfl rfl rfl rfl ?_ hw
  refine C.rs ?_
  refine J.box (L := [.int .u64 a0_0, .int .i64 a0_1, .string a0_2, .string a0_3]) rfl rfl rfl (fun g1 => ?_)
  refine J.box (L := [.int .u64 a1_0, .int .i64 a1_1, .string a1_2, .string a1_3]) rfl rfl rfl (fun g3 => ?_)
  refine J.p rfl rfl rfl rfl (Y.asg rfl) ?_
  refine J.nx ?_
  refine C.rs ?_
  obtain ⟨t5, hC6, H⟩ := bind_some H
  refine J.call (us := []) (cap := []) rfl rfl rfl go14 (fun w hw => by have hcc := known.calls K t5 hC6 w hw; exact hcc) (fun e w1 h1 => ?_)
  obtain ⟨rfl, hw25⟩ := h1
  refine ⟨_, _, rfl, hw25, ?_⟩
  refine J.p rfl rfl rfl rfl (Y.asg rfl) ?_
  refine J.nx ?_
  refine C.seq ?_
  refine C.drawn (fuel := 26) (ls := [false, false, false, false, false, false, false, false, false, false, false, false, false, false, false, false, false, false, false, false, false, false, false, false, false, false]) [] (cells g3 27 [.int .u64 a1_0, .int .i64 a1_1, .string a1_2, .string a1_3] :: cells g1 27 [.int .u64 a0_0, .int .i64 a0_1, .string a0_2, .string a0_3] :: G) mx rfl rfl ?_
  refine D.p (ls' := [true, false, false, false, false, false, false, false, false, false, false, false, false, false, false, false, false, false, false, false, false, false, false, false, false, false]) 0 rfl rfl rfl rfl (by kernel_rfl) rfl (Y.mv rfl) ?_
  refine D.p (ls' := [true, true, false, false, false, false, false, false, false, false, false, false, false, false, false, false, false, false, false, false, false, false, false, false, false, false]) 1 rfl rfl rfl rfl (by kernel_rfl) rfl (Y.mv rfl) ?_
  refine split2 H (fun c7 H => ?_) (fun c7 H => ?_)
  · refine D.as (k := 8) rfl (congrArg Value.bool (c7)) ?_
    refine D.r (ls' := [true, true, true, false, false, false, false, false, false, false, false, false, false, false, false, false, false, false, false, false, false, false, false, false, false, false]) 2 1 0 rfl rfl rfl rfl (by kernel_rfl) (by kernel_rfl) rfl rfl (Y.ldCA (us := [.int .u64 a0_0, .int .i64 a0_1, .string a0_2, .string a0_3]) 1 Try.underlying27 rfl ti27 rfl rfl rfl rfl) ?_
    refine D.r (ls' := [true, true, true, true, false, false, false, false, false, false, false, false, false, false, false, false, false, false, false, false, false, false, false, false, false, false]) 3 1 0 rfl rfl rfl rfl (by kernel_rfl) (by kernel_rfl) rfl rfl (Y.ldCA (us := [.int .u64 a1_0, .int .i64 a1_1, .string a1_2, .string a1_3]) 0 Try.underlying27 rfl ti27 rfl rfl rfl rfl) ?_
    refine D.r (ls' := [true, true, true, true, false, true, false, false, false, false, false, false, false, false, false, false, false, false, false, false, false, false, false, false, false, false]) 5 1 0 rfl rfl rfl rfl (by kernel_rfl) (by kernel_rfl) rfl rfl (Y.ldCA (us := [.int .u64 a0_0, .int .i64 a0_1, .string a0_2, .string a0_3]) 1 Try.underlying27 rfl ti27 rfl rfl rfl rfl) ?_
    refine D.r (ls' := [true, true, true, true, false, true, true, false, false, false, false, false, false, false, false, false, false, false, false, false, false, false, false, false, false, false]) 6 1 0 rfl rfl rfl rfl (by kernel_rfl) (by kernel_rfl) rfl rfl (Y.ldCA (us := [.int .u64 a1_0, .int .i64 a1_1, .string a1_2, .string a1_3]) 0 Try.underlying27 rfl ti27 rfl rfl rfl rfl) ?_
    refine D.any [4] (by kernel_rfl) rfl ⟨?_, trivial⟩
    refine DW.j (ls' := [true, true, true, true, true, true, true, false, false, false, false, false, false, false, false, false, false, false, false, false, false, false, false, false, false, false]) rfl rfl ?_
    refine J.want rfl ?_
    obtain ⟨t8, hC9, H⟩ := bind_some H
    refine J.call (us := []) (cap := []) rfl rfl rfl go27 (fun w hw => by have hcc := fCompare.calls K a0_0 a0_1 a0_2 a0_3 a1_0 a1_1 a1_2 a1_3 t8 hC9 w hw; exact hcc) (fun e w1 h1 => ?_)
    obtain ⟨rfl, hw24⟩ := h1
    refine ⟨_, _, rfl, hw24, ?_⟩
    refine J.nil ?_
    refine D.backK 0 rfl ?_
    refine D.any [7] (by kernel_rfl) rfl ⟨?_, trivial⟩
    refine DW.j (ls' := [true, true, true, true, true, true, true, true, false, false, false, false, false, false, false, false, false, false, false, false, false, false, false, false, false, false]) rfl rfl ?_
    refine J.want rfl ?_
    obtain ⟨t10, hC11, H⟩ := bind_some H
    refine J.call (us := []) (cap := []) rfl rfl rfl go28 (fun w hw => by have hcc := rCompare.calls K a0_0 a0_1 a0_2 a0_3 a1_0 a1_1 a1_2 a1_3 t10 hC11 w hw; exact hcc) (fun e w1 h1 => ?_)
    obtain ⟨rfl, hw23⟩ := h1
    refine ⟨_, _, rfl, hw23, ?_⟩
    refine J.nil ?_
    refine D.backK 0 rfl ?_
    refine D.p (ls' := [true, true, true, true, true, true, true, true, true, false, false, false, false, false, false, false, false, false, false, false, false, false, false, false, false, false]) 8 rfl rfl rfl rfl (by kernel_rfl) rfl (Y.bin rfl rfl rfl) ?_
    refine D.p (ls' := [true, true, true, true, true, true, true, true, true, true, false, false, false, false, false, false, false, false, false, false, false, false, false, false, false, false]) 9 rfl rfl rfl rfl (by kernel_rfl) rfl (Y.pickT rfl rfl) ?_
    refine D.p (ls' := [true, true, true, true, true, true, true, true, true, true, true, false, false, false, false, false, false, false, false, false, false, false, false, false, false, false]) 10 rfl rfl rfl rfl (by kernel_rfl) rfl (Y.mv rfl) ?_
    refine split2 H (fun c12 H => ?_) (fun c12 H => ?_)
    · refine D.as (k := 17) rfl (congrArg Value.bool (decide_eq_true c12)) ?_
      refine D.r (ls' := [true, true, true, true, true, true, true, true, true, true, true, true, false, false, false, false, false, false, false, false, false, false, false, false, false, false]) 11 1 0 rfl rfl rfl rfl (by kernel_rfl) (by kernel_rfl) rfl rfl (Y.ldCA (us := [.int .u64 a1_0, .int .i64 a1_1, .string a1_2, .string a1_3]) 0 Try.underlying27 rfl ti27 rfl rfl rfl rfl) ?_
      refine D.r (ls' := [true, true, true, true, true, true, true, true, true, true, true, true, true, false, false, false, false, false, false, false, false, false, false, false, false, false]) 12 1 0 rfl rfl rfl rfl (by kernel_rfl) (by kernel_rfl) rfl rfl (Y.ldCA (us := [.int .u64 a0_0, .int .i64 a0_1, .string a0_2, .string a0_3]) 1 Try.underlying27 rfl ti27 rfl rfl rfl rfl) ?_
      refine D.r (ls' := [true, true, true, true, true, true, true, true, true, true, true, true, true, false, true, false, false, false, false, false, false, false, false, false, false, false]) 14 1 0 rfl rfl rfl rfl (by kernel_rfl) (by kernel_rfl) rfl rfl (Y.ldCA (us := [.int .u64 a1_0, .int .i64 a1_1, .string a1_2, .string a1_3]) 0 Try.underlying27 rfl ti27 rfl rfl rfl rfl) ?_
      refine D.r (ls' := [true, true, true, true, true, true, true, true, true, true, true, true, true, false, true, true, false, false, false, false, false, false, false, false, false, false]) 15 1 0 rfl rfl rfl rfl (by kernel_rfl) (by kernel_rfl) rfl rfl (Y.ldCA (us := [.int .u64 a0_0, .int .i64 a0_1, .string a0_2, .string a0_3]) 1 Try.underlying27 rfl ti27 rfl rfl rfl rfl) ?_
      refine D.any [13] (by kernel_rfl) rfl ⟨?_, trivial⟩
      refine DW.j (ls' := [true, true, true, true, true, true, true, true, true, true, true, true, true, true, true, true, false, false, false, false, false, false, false, false, false, false]) rfl rfl ?_
      refine J.want rfl ?_
      obtain ⟨t13, hC14, H⟩ := bind_some H
      refine J.call (us := []) (cap := []) rfl rfl rfl go27 (fun w hw => by have hcc := fCompare.calls K a1_0 a1_1 a1_2 a1_3 a0_0 a0_1 a0_2 a0_3 t13 hC14 w hw; exact hcc) (fun e w1 h1 => ?_)
      obtain ⟨rfl, hw22⟩ := h1
      refine ⟨_, _, rfl, hw22, ?_⟩
      refine J.nil ?_
      refine D.backK 0 rfl ?_
      refine D.any [16] (by kernel_rfl) rfl ⟨?_, trivial⟩
      refine DW.j (ls' := [true, true, true, true, true, true, true, true, true, true, true, true, true, true, true, true, true, false, false, false, false, false, false, false, false, false]) rfl rfl ?_
      refine J.want rfl ?_
      obtain ⟨t15, hC16, H⟩ := bind_some H
      refine J.call (us := []) (cap := []) rfl rfl rfl go28 (fun w hw => by have hcc := rCompare.calls K a1_0 a1_1 a1_2 a1_3 a0_0 a0_1 a0_2 a0_3 t15 hC16 w hw; exact hcc) (fun e w1 h1 => ?_)
      obtain ⟨rfl, hw21⟩ := h1
      refine ⟨_, _, rfl, hw21, ?_⟩
      refine J.nil ?_
      refine D.backK 0 rfl ?_
      refine D.p (ls' := [true, true, true, true, true, true, true, true, true, true, true, true, true, true, true, true, true, true, false, false, false, false, false, false, false, false]) 17 rfl rfl rfl rfl (by kernel_rfl) rfl (Y.bin rfl rfl rfl) ?_
      refine D.p (ls' := [true, true, true, true, true, true, true, true, true, true, true, true, true, true, true, true, true, true, true, false, false, false, false, false, false, false]) 18 rfl rfl rfl rfl (by kernel_rfl) rfl (Y.pickT rfl rfl) ?_
      refine D.p (ls' := [true, true, true, true, true, true, true, true, true, true, true, true, true, true, true, true, true, true, true, true, false, false, false, false, false, false]) 19 rfl rfl rfl rfl (by kernel_rfl) rfl (Y.mv rfl) ?_
      refine split2 H (fun c17 H => ?_) (fun c17 H => ?_)
      · refine D.as (k := 26) rfl (congrArg Value.bool (decide_eq_true c17)) ?_
        refine D.r (ls' := [true, true, true, true, true, true, true, true, true, true, true, true, true, true, true, true, true, true, true, true, true, false, false, false, false, false]) 20 1 0 rfl rfl rfl rfl (by kernel_rfl) (by kernel_rfl) rfl rfl (Y.ldCA (us := [.int .u64 a0_0, .int .i64 a0_1, .string a0_2, .string a0_3]) 1 Try.underlying27 rfl ti27 rfl rfl rfl rfl) ?_
        refine D.r (ls' := [true, true, true, true, true, true, true, true, true, true, true, true, true, true, true, true, true, true, true, true, true, true, false, false, false, false]) 21 1 0 rfl rfl rfl rfl (by kernel_rfl) (by kernel_rfl) rfl rfl (Y.ldCA (us := [.int .u64 a0_0, .int .i64 a0_1, .string a0_2, .string a0_3]) 1 Try.underlying27 rfl ti27 rfl rfl rfl rfl) ?_
        refine D.any [22] (by kernel_rfl) rfl ⟨?_, trivial⟩
        refine DW.j (ls' := [true, true, true, true, true, true, true, true, true, true, true, true, true, true, true, true, true, true, true, true, true, true, true, false, false, false]) rfl rfl ?_
        refine J.want rfl ?_
        obtain ⟨t18, hC19, H⟩ := bind_some H
        refine J.call (us := []) (cap := []) rfl rfl rfl go27 (fun w hw => by have hcc := fCompare.calls K a0_0 a0_1 a0_2 a0_3 a0_0 a0_1 a0_2 a0_3 t18 hC19 w hw; exact hcc) (fun e w1 h1 => ?_)
        obtain ⟨rfl, hw20⟩ := h1
        refine ⟨_, _, rfl, hw20, ?_⟩
        refine J.nil ?_
        refine D.backK 0 rfl ?_
        refine D.p (ls' := [true, true, true, true, true, true, true, true, true, true, true, true, true, true, true, true, true, true, true, true, true, true, true, true, false, false]) 23 rfl rfl rfl rfl (by kernel_rfl) rfl (Y.bin rfl rfl rfl) ?_
        refine D.p (ls' := [true, true, true, true, true, true, true, true, true, true, true, true, true, true, true, true, true, true, true, true, true, true, true, true, true, false]) 24 rfl rfl rfl rfl (by kernel_rfl) rfl (Y.pickT rfl rfl) ?_
        refine D.p (ls' := [true, true, true, true, true, true, true, true, true, true, true, true, true, true, true, true, true, true, true, true, true, true, true, true, true, true]) 25 rfl rfl rfl rfl (by kernel_rfl) rfl (Y.asg rfl) ?_
        refine D.nil (by kernel_rfl) ?_
        refine N.nx ?_
        refine C.ret ?_
        obtain rfl := Option.some.inj H
        exact ret_ok (ks := [4]) rfl rfl (fun w h => ⟨rfl, (St.pick [] [_, _] h rfl)⟩)
      · refine D.as (k := 26) rfl (congrArg Value.bool (decide_eq_false c17)) ?_
        refine D.off (ls' := [true, true, true, true, true, true, true, true, true, true, true, true, true, true, true, true, true, true, true, true, true, false, false, false, false, false]) 20 rfl rfl rfl rfl (by kernel_rfl) rfl ?_
        refine D.off (ls' := [true, true, true, true, true, true, true, true, true, true, true, true, true, true, true, true, true, true, true, true, true, true, false, false, false, false]) 21 rfl rfl rfl rfl (by kernel_rfl) rfl ?_
        refine D.off (ls' := [true, true, true, true, true, true, true, true, true, true, true, true, true, true, true, true, true, true, true, true, true, true, true, false, false, false]) 22 rfl rfl rfl rfl (by kernel_rfl) rfl ?_
        refine D.off (ls' := [true, true, true, true, true, true, true, true, true, true, true, true, true, true, true, true, true, true, true, true, true, true, true, true, false, false]) 23 rfl rfl rfl rfl (by kernel_rfl) rfl ?_
        refine D.p (ls' := [true, true, true, true, true, true, true, true, true, true, true, true, true, true, true, true, true, true, true, true, true, true, true, true, true, false]) 24 rfl rfl rfl rfl (by kernel_rfl) rfl (Y.pickF rfl rfl) ?_
        refine D.p (ls' := [true, true, true, true, true, true, true, true, true, true, true, true, true, true, true, true, true, true, true, true, true, true, true, true, true, true]) 25 rfl rfl rfl rfl (by kernel_rfl) rfl (Y.asg rfl) ?_
        refine D.nil (by kernel_rfl) ?_
        refine N.nx ?_
        refine C.ret ?_
        obtain rfl := Option.some.inj H
        exact ret_ok (ks := [4]) rfl rfl (fun w h => ⟨rfl, (St.pick [] [_, _] h rfl)⟩)
    · refine D.as (k := 17) rfl (congrArg Value.bool (decide_eq_false c12)) ?_
      refine D.off (ls' := [true, true, true, true, true, true, true, true, true, true, true, true, false, false, false, false, false, false, false, false, false, false, false, false, false, false]) 11 rfl rfl rfl rfl (by kernel_rfl) rfl ?_
      refine D.off (ls' := [true, true, true, true, true, true, true, true, true, true, true, true, true, false, false, false, false, false, false, false, false, false, false, false, false, false]) 12 rfl rfl rfl rfl (by kernel_rfl) rfl ?_
      refine D.off (ls' := [true, true, true, true, true, true, true, true, true, true, true, true, true, true, false, false, false, false, false, false, false, false, false, false, false, false]) 13 rfl rfl rfl rfl (by kernel_rfl) rfl ?_
      refine D.off (ls' := [true, true, true, true, true, true, true, true, true, true, true, true, true, true, true, false, false, false, false, false, false, false, false, false, false, false]) 14 rfl rfl rfl rfl (by kernel_rfl) rfl ?_
      refine D.off (ls' := [true, true, true, true, true, true, true, true, true, true, true, true, true, true, true, true, false, false, false, false, false, false, false, false, false, false]) 15 rfl rfl rfl rfl (by kernel_rfl) rfl ?_
      refine D.off (ls' := [true, true, true, true, true, true, true, true, true, true, true, true, true, true, true, true, true, false, false, false, false, false, false, false, false, false]) 16 rfl rfl rfl rfl (by kernel_rfl) rfl ?_
      refine D.off (ls' := [true, true, true, true, true, true, true, true, true, true, true, true, true, true, true, true, true, true, false, false, false, false, false, false, false, false]) 17 rfl rfl rfl rfl (by kernel_rfl) rfl ?_
      refine D.p (ls' := [true, true, true, true, true, true, true, true, true, true, true, true, true, true, true, true, true, true, true, false, false, false, false, false, false, false]) 18 rfl rfl rfl rfl (by kernel_rfl) rfl (Y.pickF rfl rfl) ?_
      refine D.p (ls' := [true, true, true, true, true, true, true, true, true, true, true, true, true, true, true, true, true, true, true, true, false, false, false, false, false, false]) 19 rfl rfl rfl rfl (by kernel_rfl) rfl (Y.mv rfl) ?_
      refine D.off (ls' := [true, true, true, true, true, true, true, true, true, true, true, true, true, true, true, true, true, true, true, true, true, false, false, false, false, false]) 20 rfl rfl rfl rfl (by kernel_rfl) rfl ?_
      refine D.off (ls' := [true, true, true, true, true, true, true, true, true, true, true, true, true, true, true, true, true, true, true, true, true, true, false, false, false, false]) 21 rfl rfl rfl rfl (by kernel_rfl) rfl ?_
      refine D.off (ls' := [true, true, true, true, true, true, true, true, true, true, true, true, true, true, true, true, true, true, true, true, true, true, true, false, false, false]) 22 rfl rfl rfl rfl (by kernel_rfl) rfl ?_
      refine D.off (ls' := [true, true, true, true, true, true, true, true, true, true, true, true, true, true, true, true, true, true, true, true, true, true, true, true, false, false]) 23 rfl rfl rfl rfl (by kernel_rfl) rfl ?_
      refine D.p (ls' := [true, true, true, true, true, true, true, true, true, true, true, true, true, true, true, true, true, true, true, true, true, true, true, true, true, false]) 24 rfl rfl rfl rfl (by kernel_rfl) rfl (Y.pickF rfl rfl) ?_
      refine D.p (ls' := [true, true, true, true, true, true, true, true, true, true, true, true, true, true, true, true, true, true, true, true, true, true, true, true, true, true]) 25 rfl rfl rfl rfl (by kernel_rfl) rfl (Y.asg rfl) ?_
      refine D.nil (by kernel_rfl) ?_
      refine N.nx ?_
      refine C.ret ?_
      obtain rfl := Option.some.inj H
      exact ret_ok (ks := [4]) rfl rfl (fun w h => ⟨rfl, (St.pick [] [_, _] h rfl)⟩)
  · refine D.as (k := 8) rfl (congrArg Value.bool (nt c7)) ?_
    refine D.off (ls' := [true, true, true, false, false, false, false, false, false, false, false, false, false, false, false, false, false, false, false, false, false, false, false, false, false, false]) 2 rfl rfl rfl rfl (by kernel_rfl) rfl ?_
    refine D.off (ls' := [true, true, true, true, false, false, false, false, false, false, false, false, false, false, false, false, false, false, false, false, false, false, false, false, false, false]) 3 rfl rfl rfl rfl (by kernel_rfl) rfl ?_
    refine D.off (ls' := [true, true, true, true, true, false, false, false, false, false, false, false, false, false, false, false, false, false, false, false, false, false, false, false, false, false]) 4 rfl rfl rfl rfl (by kernel_rfl) rfl ?_
    refine D.off (ls' := [true, true, true, true, true, true, false, false, false, false, false, false, false, false, false, false, false, false, false, false, false, false, false, false, false, false]) 5 rfl rfl rfl rfl (by kernel_rfl) rfl ?_
    refine D.off (ls' := [true, true, true, true, true, true, true, false, false, false, false, false, false, false, false, false, false, false, false, false, false, false, false, false, false, false]) 6 rfl rfl rfl rfl (by kernel_rfl) rfl ?_
    refine D.off (ls' := [true, true, true, true, true, true, true, true, false, false, false, false, false, false, false, false, false, false, false, false, false, false, false, false, false, false]) 7 rfl rfl rfl rfl (by kernel_rfl) rfl ?_
    refine D.off (ls' := [true, true, true, true, true, true, true, true, true, false, false, false, false, false, false, false, false, false, false, false, false, false, false, false, false, false]) 8 rfl rfl rfl rfl (by kernel_rfl) rfl ?_
    refine D.p (ls' := [true, true, true, true, true, true, true, true, true, true, false, false, false, false, false, false, false, false, false, false, false, false, false, false, false, false]) 9 rfl rfl rfl rfl (by kernel_rfl) rfl (Y.pickF rfl rfl) ?_
    refine D.p (ls' := [true, true, true, true, true, true, true, true, true, true, true, false, false, false, false, false, false, false, false, false, false, false, false, false, false, false]) 10 rfl rfl rfl rfl (by kernel_rfl) rfl (Y.mv rfl) ?_
    refine D.off (ls' := [true, true, true, true, true, true, true, true, true, true, true, true, false, false, false, false, false, false, false, false, false, false, false, false, false, false]) 11 rfl rfl rfl rfl (by kernel_rfl) rfl ?_
    refine D.off (ls' := [true, true, true, true, true, true, true, true, true, true, true, true, true, false, false, false, false, false, false, false, false, false, false, false, false, false]) 12 rfl rfl rfl rfl (by kernel_rfl) rfl ?_
    refine D.off (ls' := [true, true, true, true, true, true, true, true, true, true, true, true, true, true, false, false, false, false, false, false, false, false, false, false, false, false]) 13 rfl rfl rfl rfl (by kernel_rfl) rfl ?_
    refine D.off (ls' := [true, true, true, true, true, true, true, true, true, true, true, true, true, true, true, false, false, false, false, false, false, false, false, false, false, false]) 14 rfl rfl rfl rfl (by kernel_rfl) rfl ?_
    refine D.off (ls' := [true, true, true, true, true, true, true, true, true, true, true, true, true, true, true, true, false, false, false, false, false, false, false, false, false, false]) 15 rfl rfl rfl rfl (by kernel_rfl) rfl ?_
    refine D.off (ls' := [true, true, true, true, true, true, true, true, true, true, true, true, true, true, true, true, true, false, false, false, false, false, false, false, false, false]) 16 rfl rfl rfl rfl (by kernel_rfl) rfl ?_
    refine D.off (ls' := [true, true, true, true, true, true, true, true, true, true, true, true, true, true, true, true, true, true, false, false, false, false, false, false, false, false]) 17 rfl rfl rfl rfl (by kernel_rfl) rfl ?_
    refine D.p (ls' := [true, true, true, true, true, true, true, true, true, true, true, true, true, true, true, true, true, true, true, false, false, false, false, false, false, false]) 18 rfl rfl rfl rfl (by kernel_rfl) rfl (Y.pickF rfl rfl) ?_
    refine D.p (ls' := [true, true, true, true, true, true, true, true, true, true, true, true, true, true, true, true, true, true, true, true, false, false, false, false, false, false]) 19 rfl rfl rfl rfl (by kernel_rfl) rfl (Y.mv rfl) ?_
    refine D.off (ls' := [true, true, true, true, true, true, true, true, true, true, true, true, true, true, true, true, true, true, true, true, true, false, false, false, false, false]) 20 rfl rfl rfl rfl (by kernel_rfl) rfl ?_
    refine D.off (ls' := [true, true, true, true, true, true, true, true, true, true, true, true, true, true, true, true, true, true, true, true, true, true, false, false, false, false]) 21 rfl rfl rfl rfl (by kernel_rfl) rfl ?_
    refine D.off (ls' := [true, true, true, true, true, true, true, true, true, true, true, true, true, true, true, true, true, true, true, true, true, true, true, false, false, false]) 22 rfl rfl rfl rfl (by kernel_rfl) rfl ?_
    refine D.off (ls' := [true, true, true, true, true, true, true, true, true, true, true, true, true, true, true, true, true, true, true, true, true, true, true, true, false, false]) 23 rfl rfl rfl rfl (by kernel_rfl) rfl ?_
    refine D.p (ls' := [true, true, true, true, true, true, true, true, true, true, true, true, true, true, true, true, true, true, true, true, true, true, true, true, true, false]) 24 rfl rfl rfl rfl (by kernel_rfl) rfl (Y.pickF rfl rfl) ?_
    refine D.p (ls' := [true, true, true, true, true, true, true, true, true, true, true, true, true, true, true, true, true, true, true, true, true, true, true, true, true, true]) 25 rfl rfl rfl rfl (by kernel_rfl) rfl (Y.asg rfl) ?_
    refine D.nil (by kernel_rfl) ?_
    refine N.nx ?_
    refine C.ret ?_
    obtain rfl := Option.some.inj H
    exact ret_ok (ks := [4]) rfl rfl (fun w h => ⟨rfl, (St.pick [] [_, _] h rfl)⟩)
end Go.Proofs.Ytakolnamobkkkaa
