/- Own text, printed by the lifting program: each Go function beside a plain function, and the proof that a call of the one comes to the other. Conditions: what came in can be read. -/
import Derived.Test.YtakolnamobkkkaaLiftL
set_option linter.unusedVariables false
set_option linter.unusedSimpArgs false
set_option maxRecDepth 10000
set_option maxHeartbeats 4000000
namespace Go.Proofs.Ytakolnamobkkkaa
open Go Go.Sx
theorem ti4 : TI Try.prog 4 1 1 (.bool false) := TI.of (by kernel_rfl)
theorem ti103 : TI Try.prog 103 2 32 (.agg #[.slice none 0 0, .bool false]) := TI.of (by kernel_rfl)
theorem fa103_0 : FA Try.prog 103 0 0 := FA.of Try.underlying103 rfl ti22 (by decide) rfl
theorem fa103_1 : FA Try.prog 103 1 1 := FA.of Try.underlying103 rfl ti4 (by decide) rfl
theorem pl103 : PL Try.prog 103 [(0, 1), (1, 1)] := PL.of Try.underlying103 (by kernel_rfl)
theorem go15 : GoF Try.prog 15 := GoF.of Try.func15 (by kernel_rfl) (by kernel_rfl)
theorem go18 : GoF Try.prog 18 := GoF.of Try.func18 (by kernel_rfl) (by kernel_rfl)
theorem go32 : GoF Try.prog 32 := GoF.of Try.func32 (by kernel_rfl) (by kernel_rfl)
theorem go33 : GoF Try.prog 33 := GoF.of Try.func33 (by kernel_rfl) (by kernel_rfl)
theorem go35 : GoF Try.prog 35 := GoF.of Try.func35 (by kernel_rfl) (by kernel_rfl)
theorem go36 : GoF Try.prog 36 := GoF.of Try.func36 (by kernel_rfl) (by kernel_rfl)
theorem go37 : GoF Try.prog 37 := GoF.of Try.func37 (by kernel_rfl) (by kernel_rfl)
theorem go38 : GoF Try.prog 38 := GoF.of Try.func38 (by kernel_rfl) (by kernel_rfl)
theorem go62 : GoF Try.prog 62 := GoF.of Try.func62 (by kernel_rfl) (by kernel_rfl)
theorem go63 : GoF Try.prog 63 := GoF.of Try.func63 (by kernel_rfl) (by kernel_rfl)
theorem go64 : GoF Try.prog 64 := GoF.of Try.func64 (by kernel_rfl) (by kernel_rfl)
theorem go65 : GoF Try.prog 65 := GoF.of Try.func65 (by kernel_rfl) (by kernel_rfl)
theorem go80 : GoF Try.prog 80 := GoF.of Try.func80 (by kernel_rfl) (by kernel_rfl)
/-! ### (*salvor/frame.taker).text: function 62 -/
def ttext.f (a0_0 : List Int) (a0_1 : Bool) (a1 : Int) : Option (ByteArray × (List Int) × Bool) := if (a0_0.length : Int) < a1 then (some ((⟨#[]⟩ : ByteArray), a0_0, true)) else (gd ((0 : Int) ≤ a1 ∧ (0 ≤ (Int.toNat a1) ∧ (Int.toNat a1) ≤ a0_0.length)) (gd ((0 : Int) ≤ a1 ∧ ((Int.toNat a1) ≤ a0_0.length ∧ a0_0.length ≤ a0_0.length)) (some (strOfNums ((a0_0.take (Int.toNat a1)).drop 0), ((a0_0.take a0_0.length).drop (Int.toNat a1)), a0_1))))
theorem ttext.calls {B : Nat} {w0 : World} {G : List HP} (a0_0 : List Int) (a0_1 : Bool) (a1 : Int) (ga0 : Nat) (Aa0_0 : Option Addr) (ca0_0 : Nat) (Ra0_0 : List HP) (ha0_0 : RdG B w0 Ra0_0 Aa0_0 (a0_0.map (Value.int .u8))) (ia0_0 : Inc B w0 Ra0_0 G) (ka0_0 : a0_0.length ≤ ca0_0) (r : ByteArray × (List Int) × Bool) (H : ttext.f a0_0 a0_1 a1 = some r) (w : World) (hw : St B w0 (cells ga0 103 [.slice Aa0_0 a0_0.length ca0_0, .bool a0_1] :: G) w) :
    Calls Try.prog 62 [.pointer (some ⟨ga0, 0, none⟩), .int .i64 a1].toArray w (fun e w' => ∃ A1 c1, e = .returned (.string r.1) ∧ St B w0 (cells ga0 103 [.slice A1 r.2.1.length c1, .bool r.2.2] :: G) w' ∧ (RdG B w0 Ra0_0 A1 (r.2.1.map (Value.int .u8)) ∧ r.2.1.length ≤ c1)) := by
  unfold ttext.f at H
  refine calls_of (n := 33) (s := [(0, .pointer (some ⟨ga0, 0, none⟩)), (1, .int .i64 a1)]) Try.func62 rfl rfl rfl rfl ?_ hw
  refine C.rs ?_
  refine J.p rfl rfl rfl rfl (Y.asg rfl) ?_
  refine J.nx ?_
  refine C.seq ?_
  refine C.rs ?_
  refine J.p rfl rfl rfl rfl (Y.mv rfl) ?_
  refine J.p rfl rfl rfl rfl (Y.mv rfl) ?_
  refine J.p rfl rfl rfl rfl (Y.nilp rfl) ?_
  refine J.p rfl rfl rfl rfl (Y.fa0 fa103_0 rfl rfl) ?_
  refine J.r rfl rfl rfl rfl (Y.ldC 0 Try.underlying22 rfl rfl rfl rfl) ?_
  refine J.p rfl rfl rfl rfl (Y.lenS Try.underlying22 rfl) ?_
  refine J.p rfl rfl rfl rfl (Y.bin rfl rfl rfl) ?_
  refine J.nx ?_
  refine split2 H (fun c1 H => ?_) (fun c1 H => ?_)
  · refine C.condT (congrArg (fun b => some (Value.bool b)) (decide_eq_true c1)) ?_
    refine C.rs ?_
    refine J.p rfl rfl rfl rfl (Y.mv rfl) ?_
    refine J.p rfl rfl rfl rfl (Y.nilp rfl) ?_
    refine J.p rfl rfl rfl rfl (Y.fa0 fa103_1 rfl rfl) ?_
    refine J.stE (L' := [.slice Aa0_0 a0_0.length ca0_0, .bool true]) ti4 rfl rfl rfl rfl rfl ?_
    refine J.nx ?_
    refine C.rs ?_
    refine J.p rfl rfl rfl rfl (Y.asg rfl) ?_
    refine J.nx ?_
    refine C.ret ?_
    obtain rfl := Option.some.inj H
    refine T.th ?_
    exact ret_ok (ks := [4]) rfl rfl (fun w h => ⟨Aa0_0, ca0_0, rfl, h, ⟨ha0_0, ka0_0⟩⟩)
  · refine C.condF (congrArg (fun b => some (Value.bool b)) (decide_eq_false c1)) ?_
    refine C.skip ?_
    refine N.nx ?_
    refine C.rs ?_
    refine J.p rfl rfl rfl rfl (Y.mv rfl) ?_
    refine J.p rfl rfl rfl rfl (Y.nilp rfl) ?_
    refine J.p rfl rfl rfl rfl (Y.fa0 fa103_0 rfl rfl) ?_
    refine J.r rfl rfl rfl rfl (Y.ldC 0 Try.underlying22 rfl rfl rfl rfl) ?_
    refine J.p rfl rfl rfl rfl (Y.mv rfl) ?_
    obtain ⟨p2, H⟩ := gd_some H
    refine J.p rfl rfl rfl rfl (Y.slcL Try.underlying22 ti5 rfl bnd.no (bnd.yes rfl p2.1) p2.2 ka0_0) ?_
    refine J.r rfl rfl rfl rfl (Y.b2s Try.underlying22 Try.underlying5 Try.underlying9 rfl (RdG.subL (l := 0) (h := (Int.toNat a1)) ((Inc.rd ia0_0 ha0_0).suf [_] rfl) ka0_0)) ?_
    refine J.p rfl rfl rfl rfl (Y.asg rfl) ?_
    refine J.nx ?_
    refine C.rs ?_
    refine J.p rfl rfl rfl rfl (Y.mv rfl) ?_
    refine J.p rfl rfl rfl rfl (Y.mv rfl) ?_
    refine J.p rfl rfl rfl rfl (Y.nilp rfl) ?_
    refine J.p rfl rfl rfl rfl (Y.fa0 fa103_0 rfl rfl) ?_
    refine J.r rfl rfl rfl rfl (Y.ldC 0 Try.underlying22 rfl rfl rfl rfl) ?_
    refine J.p rfl rfl rfl rfl (Y.mv rfl) ?_
    obtain ⟨p3, H⟩ := gd_some H
    refine J.p rfl rfl rfl rfl (Y.slcL Try.underlying22 ti5 rfl (bnd.yes rfl p3.1) bnd.no p3.2 ka0_0) ?_
    refine J.p rfl rfl rfl rfl (Y.nilp rfl) ?_
    refine J.p rfl rfl rfl rfl (Y.fa0 fa103_0 rfl rfl) ?_
    refine J.stE (L' := [.slice (subA 1 Aa0_0 ca0_0 (Int.toNat a1)) ((a0_0.take a0_0.length).drop (Int.toNat a1)).length (ca0_0 - (Int.toNat a1)), .bool a0_1]) ti22 rfl rfl rfl rfl rfl ?_
    refine J.nx ?_
    refine C.rs ?_
    refine J.p rfl rfl rfl rfl (Y.mv rfl) ?_
    refine J.p rfl rfl rfl rfl (Y.asg rfl) ?_
    refine J.nx ?_
    refine C.ret ?_
    obtain rfl := Option.some.inj H
    exact ret_ok (ks := [4]) rfl rfl (fun w h => ⟨(subA 1 Aa0_0 ca0_0 (Int.toNat a1)), (ca0_0 - (Int.toNat a1)), rfl, h, ⟨(RdG.subL (l := (Int.toNat a1)) (h := a0_0.length) ha0_0 ka0_0), (hc_sub ka0_0)⟩⟩)
/-! ### (*salvor/frame.taker).number: function 63 -/
def tnumber.f (K : Nat) (a0_0 : List Int) (a0_1 : Bool) : Option (Int × (List Int) × Bool) := (Decode.f K a0_0).bind fun t1 => if t1.2.2 ≠ 0 then (some (0, a0_0, true)) else (gd ((0 : Int) ≤ t1.2.1 ∧ ((Int.toNat t1.2.1) ≤ a0_0.length ∧ a0_0.length ≤ a0_0.length)) (some (t1.1, ((a0_0.take a0_0.length).drop (Int.toNat t1.2.1)), a0_1)))
theorem tnumber.calls {B : Nat} {w0 : World} {G : List HP} (K : Nat) (a0_0 : List Int) (a0_1 : Bool) (ga0 : Nat) (Aa0_0 : Option Addr) (ca0_0 : Nat) (Ra0_0 : List HP) (ha0_0 : RdG B w0 Ra0_0 Aa0_0 (a0_0.map (Value.int .u8))) (ia0_0 : Inc B w0 Ra0_0 G) (ka0_0 : a0_0.length ≤ ca0_0) (r : Int × (List Int) × Bool) (H : tnumber.f K a0_0 a0_1 = some r) (w : World) (hw : St B w0 (cells ga0 103 [.slice Aa0_0 a0_0.length ca0_0, .bool a0_1] :: G) w) :
    Calls Try.prog 63 [.pointer (some ⟨ga0, 0, none⟩)].toArray w (fun e w' => ∃ A1 c1, e = .returned (.int .u64 r.1) ∧ St B w0 (cells ga0 103 [.slice A1 r.2.1.length c1, .bool r.2.2] :: G) w' ∧ (RdG B w0 Ra0_0 A1 (r.2.1.map (Value.int .u8)) ∧ r.2.1.length ≤ c1)) := by
  unfold tnumber.f at H
  refine calls_of (n := 30) (s := [(0, .pointer (some ⟨ga0, 0, none⟩))]) Try.func63 rfl rfl rfl rfl ?_ hw
  refine C.rs ?_
  refine J.p rfl rfl rfl rfl (Y.asg rfl) ?_
  refine J.nx ?_
  refine C.rs ?_
  refine J.p rfl rfl rfl rfl (Y.mv rfl) ?_
  refine J.p rfl rfl rfl rfl (Y.nilp rfl) ?_
  refine J.p rfl rfl rfl rfl (Y.fa0 fa103_0 rfl rfl) ?_
  refine J.r rfl rfl rfl rfl (Y.ldC 0 Try.underlying22 rfl rfl rfl rfl) ?_
  obtain ⟨t1, hC2, H⟩ := bind_some H
  refine J.call (us := []) (cap := []) rfl rfl rfl go80 (fun w hw => by have hcc := Decode.calls K a0_0 Aa0_0 ca0_0 ((Inc.rd ia0_0 ha0_0).suf [_] rfl) ka0_0 t1 hC2 w hw; exact hcc) (fun e w1 h1 => ?_)
  obtain ⟨rfl, hw5⟩ := h1
  refine ⟨_, _, rfl, hw5, ?_⟩
  refine J.p rfl rfl rfl rfl (Y.mv rfl) ?_
  refine J.p rfl rfl rfl rfl (Y.ext rfl rfl) ?_
  refine J.p rfl rfl rfl rfl (Y.ext rfl rfl) ?_
  refine J.p rfl rfl rfl rfl (Y.ext rfl rfl) ?_
  refine J.p rfl rfl rfl rfl (Y.asg rfl) ?_
  refine J.p rfl rfl rfl rfl (Y.asg rfl) ?_
  refine J.p rfl rfl rfl rfl (Y.asg rfl) ?_
  refine J.nx ?_
  refine C.seq ?_
  refine C.rs ?_
  refine J.p rfl rfl rfl rfl (Y.mv rfl) ?_
  refine J.p rfl rfl rfl rfl (Y.bin rfl rfl rfl) ?_
  refine J.nx ?_
  refine split2 H (fun c3 H => ?_) (fun c3 H => ?_)
  · refine C.condT (congrArg (fun b => some (Value.bool b)) (decide_eq_true c3)) ?_
    refine C.rs ?_
    refine J.p rfl rfl rfl rfl (Y.mv rfl) ?_
    refine J.p rfl rfl rfl rfl (Y.nilp rfl) ?_
    refine J.p rfl rfl rfl rfl (Y.fa0 fa103_1 rfl rfl) ?_
    refine J.stE (L' := [.slice Aa0_0 a0_0.length ca0_0, .bool true]) ti4 rfl rfl rfl rfl rfl ?_
    refine J.nx ?_
    refine C.rs ?_
    refine J.p rfl rfl rfl rfl (Y.asg rfl) ?_
    refine J.nx ?_
    refine C.ret ?_
    obtain rfl := Option.some.inj H
    refine T.th ?_
    exact ret_ok (ks := [2]) rfl rfl (fun w h => ⟨Aa0_0, ca0_0, rfl, h, ⟨ha0_0, ka0_0⟩⟩)
  · refine C.condF (congrArg (fun b => some (Value.bool b)) (decide_eq_false c3)) ?_
    refine C.skip ?_
    refine N.nx ?_
    refine C.rs ?_
    refine J.p rfl rfl rfl rfl (Y.mv rfl) ?_
    refine J.p rfl rfl rfl rfl (Y.mv rfl) ?_
    refine J.p rfl rfl rfl rfl (Y.nilp rfl) ?_
    refine J.p rfl rfl rfl rfl (Y.fa0 fa103_0 rfl rfl) ?_
    refine J.r rfl rfl rfl rfl (Y.ldC 0 Try.underlying22 rfl rfl rfl rfl) ?_
    refine J.p rfl rfl rfl rfl (Y.mv rfl) ?_
    obtain ⟨p4, H⟩ := gd_some H
    refine J.p rfl rfl rfl rfl (Y.slcL Try.underlying22 ti5 rfl (bnd.yes rfl p4.1) bnd.no p4.2 ka0_0) ?_
    refine J.p rfl rfl rfl rfl (Y.nilp rfl) ?_
    refine J.p rfl rfl rfl rfl (Y.fa0 fa103_0 rfl rfl) ?_
    refine J.stE (L' := [.slice (subA 1 Aa0_0 ca0_0 (Int.toNat t1.2.1)) ((a0_0.take a0_0.length).drop (Int.toNat t1.2.1)).length (ca0_0 - (Int.toNat t1.2.1)), .bool a0_1]) ti22 rfl rfl rfl rfl rfl ?_
    refine J.nx ?_
    refine C.rs ?_
    refine J.p rfl rfl rfl rfl (Y.mv rfl) ?_
    refine J.p rfl rfl rfl rfl (Y.asg rfl) ?_
    refine J.nx ?_
    refine C.ret ?_
    obtain rfl := Option.some.inj H
    exact ret_ok (ks := [2]) rfl rfl (fun w h => ⟨(subA 1 Aa0_0 ca0_0 (Int.toNat t1.2.1)), (ca0_0 - (Int.toNat t1.2.1)), rfl, h, ⟨(RdG.subL (l := (Int.toNat t1.2.1)) (h := a0_0.length) ha0_0 ka0_0), (hc_sub ka0_0)⟩⟩)
/-! ### (*salvor/frame.taker).small: function 64 -/
def tsmall.f (K : Nat) (a0_0 : List Int) (a0_1 : Bool) : Option (Int × (List Int) × Bool) := (tnumber.f K a0_0 a0_1).bind fun t1 => if 4294967295 < t1.1 then (some (0, t1.2.1, true)) else (some (IntKind.wrap .i64 t1.1, t1.2.1, t1.2.2))
theorem tsmall.calls {B : Nat} {w0 : World} {G : List HP} (K : Nat) (a0_0 : List Int) (a0_1 : Bool) (ga0 : Nat) (Aa0_0 : Option Addr) (ca0_0 : Nat) (Ra0_0 : List HP) (ha0_0 : RdG B w0 Ra0_0 Aa0_0 (a0_0.map (Value.int .u8))) (ia0_0 : Inc B w0 Ra0_0 G) (ka0_0 : a0_0.length ≤ ca0_0) (r : Int × (List Int) × Bool) (H : tsmall.f K a0_0 a0_1 = some r) (w : World) (hw : St B w0 (cells ga0 103 [.slice Aa0_0 a0_0.length ca0_0, .bool a0_1] :: G) w) :
    Calls Try.prog 64 [.pointer (some ⟨ga0, 0, none⟩)].toArray w (fun e w' => ∃ A1 c1, e = .returned (.int .i64 r.1) ∧ St B w0 (cells ga0 103 [.slice A1 r.2.1.length c1, .bool r.2.2] :: G) w' ∧ (RdG B w0 Ra0_0 A1 (r.2.1.map (Value.int .u8)) ∧ r.2.1.length ≤ c1)) := by
  unfold tsmall.f at H
  refine calls_of (n := 13) (s := [(0, .pointer (some ⟨ga0, 0, none⟩))]) Try.func64 rfl rfl rfl rfl ?_ hw
  refine C.rs ?_
  refine J.p rfl rfl rfl rfl (Y.asg rfl) ?_
  refine J.nx ?_
  refine C.rs ?_
  refine J.p rfl rfl rfl rfl (Y.mv rfl) ?_
  obtain ⟨t1, hC2, H⟩ := bind_some H
  refine J.call (us := []) (cap := []) rfl rfl rfl go63 (fun w hw => by have hcc := tnumber.calls K a0_0 a0_1 ga0 Aa0_0 ca0_0 Ra0_0 ha0_0 (Inc.suf ia0_0 [] rfl) ka0_0 t1 hC2 w hw; exact hcc) (fun e w1 h1 => ?_)
  obtain ⟨A3, c4, rfl, hw7, hx5⟩ := h1
  refine ⟨_, _, rfl, hw7, ?_⟩
  refine J.p rfl rfl rfl rfl (Y.asg rfl) ?_
  refine J.nx ?_
  refine C.seq ?_
  refine C.rs ?_
  refine J.p rfl rfl rfl rfl (Y.mv rfl) ?_
  refine J.p rfl rfl rfl rfl (Y.bin rfl rfl rfl) ?_
  refine J.nx ?_
  refine split2 H (fun c6 H => ?_) (fun c6 H => ?_)
  · refine C.condT (congrArg (fun b => some (Value.bool b)) (decide_eq_true c6)) ?_
    refine C.rs ?_
    refine J.p rfl rfl rfl rfl (Y.mv rfl) ?_
    refine J.p rfl rfl rfl rfl (Y.nilp rfl) ?_
    refine J.p rfl rfl rfl rfl (Y.fa0 fa103_1 rfl rfl) ?_
    refine J.stE (L' := [.slice A3 t1.2.1.length c4, .bool true]) ti4 rfl rfl rfl rfl rfl ?_
    refine J.nx ?_
    refine C.rs ?_
    refine J.p rfl rfl rfl rfl (Y.asg rfl) ?_
    refine J.nx ?_
    refine C.ret ?_
    obtain rfl := Option.some.inj H
    refine T.th ?_
    exact ret_ok (ks := [2]) rfl rfl (fun w h => ⟨A3, c4, rfl, h, ⟨hx5.1, hx5.2⟩⟩)
  · refine C.condF (congrArg (fun b => some (Value.bool b)) (decide_eq_false c6)) ?_
    refine C.skip ?_
    refine N.nx ?_
    refine C.rs ?_
    refine J.p rfl rfl rfl rfl (Y.mv rfl) ?_
    refine J.p rfl rfl rfl rfl (Y.conv Try.underlying25 Try.underlying3 rfl) ?_
    refine J.p rfl rfl rfl rfl (Y.asg rfl) ?_
    refine J.nx ?_
    refine C.ret ?_
    obtain rfl := Option.some.inj H
    exact ret_ok (ks := [2]) rfl rfl (fun w h => ⟨A3, c4, rfl, h, ⟨hx5.1, hx5.2⟩⟩)
/-! ### (*salvor/frame.taker).all: function 65 -/
def tall.f (a0_0 : List Int) (a0_1 : Bool) : Option (ByteArray × (List Int) × Bool) := (ttext.f a0_0 a0_1 (a0_0.length : Int)).bind fun t1 => some (t1.1, t1.2.1, t1.2.2)
theorem tall.calls {B : Nat} {w0 : World} {G : List HP} (a0_0 : List Int) (a0_1 : Bool) (ga0 : Nat) (Aa0_0 : Option Addr) (ca0_0 : Nat) (Ra0_0 : List HP) (ha0_0 : RdG B w0 Ra0_0 Aa0_0 (a0_0.map (Value.int .u8))) (ia0_0 : Inc B w0 Ra0_0 G) (ka0_0 : a0_0.length ≤ ca0_0) (r : ByteArray × (List Int) × Bool) (H : tall.f a0_0 a0_1 = some r) (w : World) (hw : St B w0 (cells ga0 103 [.slice Aa0_0 a0_0.length ca0_0, .bool a0_1] :: G) w) :
    Calls Try.prog 65 [.pointer (some ⟨ga0, 0, none⟩)].toArray w (fun e w' => ∃ A1 c1, e = .returned (.string r.1) ∧ St B w0 (cells ga0 103 [.slice A1 r.2.1.length c1, .bool r.2.2] :: G) w' ∧ (RdG B w0 Ra0_0 A1 (r.2.1.map (Value.int .u8)) ∧ r.2.1.length ≤ c1)) := by
  unfold tall.f at H
  refine calls_of (n := 10) (s := [(0, .pointer (some ⟨ga0, 0, none⟩))]) Try.func65 rfl rfl rfl rfl ?_ hw
  refine C.rs ?_
  refine J.p rfl rfl rfl rfl (Y.asg rfl) ?_
  refine J.nx ?_
  refine C.rs ?_
  refine J.p rfl rfl rfl rfl (Y.mv rfl) ?_
  refine J.p rfl rfl rfl rfl (Y.mv rfl) ?_
  refine J.p rfl rfl rfl rfl (Y.nilp rfl) ?_
  refine J.p rfl rfl rfl rfl (Y.fa0 fa103_0 rfl rfl) ?_
  refine J.r rfl rfl rfl rfl (Y.ldC 0 Try.underlying22 rfl rfl rfl rfl) ?_
  refine J.p rfl rfl rfl rfl (Y.lenS Try.underlying22 rfl) ?_
  obtain ⟨t1, hC2, H⟩ := bind_some H
  refine J.call (us := []) (cap := []) rfl rfl rfl go62 (fun w hw => by have hcc := ttext.calls a0_0 a0_1 (a0_0.length : Int) ga0 Aa0_0 ca0_0 Ra0_0 ha0_0 (Inc.suf ia0_0 [] rfl) ka0_0 t1 hC2 w hw; exact hcc) (fun e w1 h1 => ?_)
  obtain ⟨A3, c4, rfl, hw6, hx5⟩ := h1
  refine ⟨_, _, rfl, hw6, ?_⟩
  refine J.p rfl rfl rfl rfl (Y.asg rfl) ?_
  refine J.nx ?_
  refine C.ret ?_
  obtain rfl := Option.some.inj H
  exact ret_ok (ks := [2]) rfl rfl (fun w h => ⟨A3, c4, rfl, h, ⟨hx5.1, hx5.2⟩⟩)
/-! ### salvor/frame.parse: function 38 -/
def parse.f (K : Nat) (a0 : List Int) : Option (Int × Int × Int × ByteArray × ByteArray × Int × Int × Int × Int × ByteArray × Int × Int × Int × Int × Bool) := (ttext.f a0 false 1).bind fun t5 => if t5.2.2 = true then (some (0, 0, 0, ByteArray.empty, ByteArray.empty, 0, 0, 0, 0, ByteArray.empty, 0, 0, 0, 0, false)) else (gd ((0 : Int) ≤ 0 ∧ 0 < (t5.1.size : Int)) ((if (IntKind.wrap .i64 (bt t5.1 0)) = 1 then ((tnumber.f K t5.2.1 t5.2.2).bind fun t118 => (tsmall.f K t118.2.1 t118.2.2).bind fun t123 => (ttext.f t123.2.1 t123.2.2 t123.1).bind fun t128 => (tall.f t128.2.1 t128.2.2).bind fun t141 => some (t141.2.1, t141.2.2, t118.1, IntKind.wrap .i64 (bt t5.1 0), t128.1, t141.1, 0, 0, 0, 0, ByteArray.empty, 0, 0, 0, 0)) else (if (IntKind.wrap .i64 (bt t5.1 0)) = 2 then ((tnumber.f K t5.2.1 t5.2.2).bind fun t151 => (tall.f t151.2.1 t151.2.2).bind fun t156 => some (t156.2.1, t156.2.2, t151.1, IntKind.wrap .i64 (bt t5.1 0), t156.1, ByteArray.empty, 0, 0, 0, 0, ByteArray.empty, 0, 0, 0, 0)) else (if (IntKind.wrap .i64 (bt t5.1 0)) = 3 then ((tnumber.f K t5.2.1 t5.2.2).bind fun t168 => (ttext.f t168.2.1 t168.2.2 1).bind fun t173 => (if t173.1 ≠ (⟨#[]⟩ : ByteArray) then (gd ((0 : Int) ≤ 0 ∧ 0 < (t173.1.size : Int)) (some (IntKind.wrap .i64 (bt t173.1 0)))) else (some 0)).bind fun o182 => (tsmall.f K t173.2.1 t173.2.2).bind fun t186 => (tsmall.f K t186.2.1 t186.2.2).bind fun t191 => (tall.f t191.2.1 t191.2.2).bind fun t196 => some (t196.2.1, t196.2.2, 0, 0, ByteArray.empty, ByteArray.empty, t168.1, o182, t186.1, t191.1, t196.1, 0, 0, 0, 0)) else (if (IntKind.wrap .i64 (bt t5.1 0)) = 4 then ((tsmall.f K t5.2.1 t5.2.2).bind fun t207 => (tsmall.f K t207.2.1 t207.2.2).bind fun t212 => (tsmall.f K t212.2.1 t212.2.2).bind fun t217 => (tsmall.f K t217.2.1 t217.2.2).bind fun t222 => some (t222.2.1, t222.2.2, 0, 0, ByteArray.empty, ByteArray.empty, 0, 0, 0, 0, ByteArray.empty, t207.1, t212.1, t217.1, IntKind.wrap .u32 t222.1)) else (some (t5.2.1, t5.2.2, 0, 0, ByteArray.empty, ByteArray.empty, 0, 0, 0, 0, ByteArray.empty, 0, 0, 0, 0)))))).bind fun o114 => (if o114.2.1 = true then (some true) else (if 0 < (o114.1.length : Int) then (some true) else ((check.f (IntKind.wrap .i64 (bt t5.1 0)) o114.2.2.1 o114.2.2.2.1 o114.2.2.2.2.1 o114.2.2.2.2.2.1 o114.2.2.2.2.2.2.1 o114.2.2.2.2.2.2.2.1 o114.2.2.2.2.2.2.2.2.1 o114.2.2.2.2.2.2.2.2.2.1 o114.2.2.2.2.2.2.2.2.2.2.1 o114.2.2.2.2.2.2.2.2.2.2.2.1 o114.2.2.2.2.2.2.2.2.2.2.2.2.1 o114.2.2.2.2.2.2.2.2.2.2.2.2.2.1 o114.2.2.2.2.2.2.2.2.2.2.2.2.2.2).bind fun t242 => some (decide (t242 ≠ 0))))).bind fun o236 => if o236 = true then (some (0, 0, 0, ByteArray.empty, ByteArray.empty, 0, 0, 0, 0, ByteArray.empty, 0, 0, 0, 0, false)) else (some (IntKind.wrap .i64 (bt t5.1 0), o114.2.2.1, o114.2.2.2.1, o114.2.2.2.2.1, o114.2.2.2.2.2.1, o114.2.2.2.2.2.2.1, o114.2.2.2.2.2.2.2.1, o114.2.2.2.2.2.2.2.2.1, o114.2.2.2.2.2.2.2.2.2.1, o114.2.2.2.2.2.2.2.2.2.2.1, o114.2.2.2.2.2.2.2.2.2.2.2.1, o114.2.2.2.2.2.2.2.2.2.2.2.2.1, o114.2.2.2.2.2.2.2.2.2.2.2.2.2.1, o114.2.2.2.2.2.2.2.2.2.2.2.2.2.2, true))))
theorem parse.calls {B : Nat} {w0 : World} {G : List HP} (K : Nat) (a0 : List Int) (Aa0 : Option Addr) (ca0 : Nat) (ha0 : RdG B w0 G Aa0 (a0.map (Value.int .u8))) (ka0 : a0.length ≤ ca0) (r : Int × Int × Int × ByteArray × ByteArray × Int × Int × Int × Int × ByteArray × Int × Int × Int × Int × Bool) (H : parse.f K a0 = some r) (w : World) (hw : St B w0 (G) w) :
    Calls Try.prog 38 [.slice Aa0 a0.length ca0].toArray w (fun e w' => e = .returned (.tuple #[.agg #[.int .i64 r.1, .int .u64 r.2.1, .int .i64 r.2.2.1, .string r.2.2.2.1, .string r.2.2.2.2.1, .int .u64 r.2.2.2.2.2.1, .int .i64 r.2.2.2.2.2.2.1, .int .i64 r.2.2.2.2.2.2.2.1, .int .i64 r.2.2.2.2.2.2.2.2.1, .string r.2.2.2.2.2.2.2.2.2.1, .int .i64 r.2.2.2.2.2.2.2.2.2.2.1, .int .i64 r.2.2.2.2.2.2.2.2.2.2.2.1, .int .i64 r.2.2.2.2.2.2.2.2.2.2.2.2.1, .int .u32 r.2.2.2.2.2.2.2.2.2.2.2.2.2.1], .bool r.2.2.2.2.2.2.2.2.2.2.2.2.2.2]) ∧ St B w0 (G) w') := by
  unfold parse.f at H
  refine calls_of (n := 122) (s := [(0, .slice Aa0 a0.length ca0)]) Try.func38 rfl rfl rfl rfl ?_ hw
  refine C.rs ?_
  refine J.alloc (L := [.int .i64 0, .int .u64 0, .int .i64 0, .string ByteArray.empty, .string ByteArray.empty, .int .u64 0, .int .i64 0, .int .i64 0, .int .i64 0, .string ByteArray.empty, .int .i64 0, .int .i64 0, .int .i64 0, .int .u32 0]) rfl ti36 rfl (fun g1 => ?_)
  refine J.p rfl rfl rfl rfl (Y.asg rfl) ?_
  refine J.nx ?_
  refine C.rs ?_
  refine J.p rfl rfl rfl rfl (Y.mv rfl) ?_
  refine J.p rfl rfl rfl rfl (Y.bld (cs := [.slice Aa0 a0.length ca0, .bool false]) rfl pl103 ti103 rfl (by kernel_rfl)) ?_
  refine J.box (L := [.slice Aa0 a0.length ca0, .bool false]) rfl rfl rfl (fun g3 => ?_)
  refine J.p rfl rfl rfl rfl (Y.asg rfl) ?_
  refine J.nx ?_
  refine C.rs ?_
  refine J.p rfl rfl rfl rfl (Y.mv rfl) ?_
  obtain ⟨t5, hC6, H⟩ := bind_some H
  refine J.call (us := []) (cap := []) rfl rfl rfl go62 (fun w hw => by have hcc := ttext.calls a0 false 1 g3 Aa0 ca0 G ha0 (Inc.refl.suf [_] rfl) ka0 t5 hC6 w hw; exact hcc) (fun e w1 h1 => ?_)
  obtain ⟨A7, c8, rfl, hw246, hx9⟩ := h1
  refine ⟨_, _, rfl, hw246, ?_⟩
  refine J.p rfl rfl rfl rfl (Y.asg rfl) ?_
  refine J.nx ?_
  refine C.seq ?_
  refine C.rs ?_
  refine J.p rfl rfl rfl rfl (Y.mv rfl) ?_
  refine J.p rfl rfl rfl rfl (Y.nilp rfl) ?_
  refine J.p rfl rfl rfl rfl (Y.fa0 fa103_1 rfl rfl) ?_
  refine J.r rfl rfl rfl rfl (Y.ldC 0 Try.underlying4 rfl rfl rfl rfl) ?_
  refine J.nx ?_
  refine split2 H (fun c10 H => ?_) (fun c10 H => ?_)
  · refine C.condT (congrArg (fun b => some (Value.bool b)) (c10)) ?_
    refine C.rs ?_
    refine J.p rfl rfl rfl rfl (Y.bld (cs := [.int .i64 0, .int .u64 0, .int .i64 0, .string ByteArray.empty, .string ByteArray.empty, .int .u64 0, .int .i64 0, .int .i64 0, .int .i64 0, .string ByteArray.empty, .int .i64 0, .int .i64 0, .int .i64 0, .int .u32 0]) rfl pl36 ti36 rfl (by kernel_rfl)) ?_
    refine J.pull 1 rfl rfl ?_
    refine J.stA (us := [.int .i64 0, .int .u64 0, .int .i64 0, .string ByteArray.empty, .string ByteArray.empty, .int .u64 0, .int .i64 0, .int .i64 0, .int .i64 0, .string ByteArray.empty, .int .i64 0, .int .i64 0, .int .i64 0, .int .u32 0]) (L' := [.int .i64 0, .int .u64 0, .int .i64 0, .string ByteArray.empty, .string ByteArray.empty, .int .u64 0, .int .i64 0, .int .i64 0, .int .i64 0, .string ByteArray.empty, .int .i64 0, .int .i64 0, .int .i64 0, .int .u32 0]) ti36 rfl rfl rfl rfl rfl rfl ?_
    refine J.p rfl rfl rfl rfl (Y.asg rfl) ?_
    refine J.nx ?_
    refine C.ret ?_
    obtain rfl := Option.some.inj H
    refine T.th ?_
    exact ret_okG (rvs := [.cell 2 36, .tmp 3]) (vs := [.agg #[.int .i64 0, .int .u64 0, .int .i64 0, .string ByteArray.empty, .string ByteArray.empty, .int .u64 0, .int .i64 0, .int .i64 0, .int .i64 0, .string ByteArray.empty, .int .i64 0, .int .i64 0, .int .i64 0, .int .u32 0], .bool false]) rfl ⟨RV.cellA (us := [.int .i64 0, .int .u64 0, .int .i64 0, .string ByteArray.empty, .string ByteArray.empty, .int .u64 0, .int .i64 0, .int .i64 0, .int .i64 0, .string ByteArray.empty, .int .i64 0, .int .i64 0, .int .i64 0, .int .u32 0]) 0 Try.underlying36 rfl ti36 rfl rfl rfl rfl, RV.tmp rfl, trivial⟩ (fun w h => ⟨rfl, (St.pick [] [_, _] h rfl)⟩)
  · refine C.condF (congrArg (fun b => some (Value.bool b)) (nt c10)) ?_
    refine C.skip ?_
    refine N.nx ?_
    refine C.rs ?_
    refine J.p rfl rfl rfl rfl (Y.mv rfl) ?_
    obtain ⟨p11, H⟩ := gd_some H
    refine J.p rfl rfl rfl rfl (Y.ixT Try.underlying9 rfl rfl p11) ?_
    refine J.p rfl rfl rfl rfl (Y.conv Try.underlying5 Try.underlying24 rfl) ?_
    refine J.p rfl rfl rfl rfl (Y.bld (cs := [.int .i64 (IntKind.wrap .i64 (bt t5.1 0)), .int .u64 0, .int .i64 0, .string ByteArray.empty, .string ByteArray.empty, .int .u64 0, .int .i64 0, .int .i64 0, .int .i64 0, .string ByteArray.empty, .int .i64 0, .int .i64 0, .int .i64 0, .int .u32 0]) rfl pl36 ti36 rfl (by kernel_rfl)) ?_
    refine J.alloc (L := [.int .i64 0, .int .u64 0, .int .i64 0, .string ByteArray.empty, .string ByteArray.empty, .int .u64 0, .int .i64 0, .int .i64 0, .int .i64 0, .string ByteArray.empty, .int .i64 0, .int .i64 0, .int .i64 0, .int .u32 0]) rfl ti36 rfl (fun g12 => ?_)
    refine J.stA (us := [.int .i64 (IntKind.wrap .i64 (bt t5.1 0)), .int .u64 0, .int .i64 0, .string ByteArray.empty, .string ByteArray.empty, .int .u64 0, .int .i64 0, .int .i64 0, .int .i64 0, .string ByteArray.empty, .int .i64 0, .int .i64 0, .int .i64 0, .int .u32 0]) (L' := [.int .i64 (IntKind.wrap .i64 (bt t5.1 0)), .int .u64 0, .int .i64 0, .string ByteArray.empty, .string ByteArray.empty, .int .u64 0, .int .i64 0, .int .i64 0, .int .i64 0, .string ByteArray.empty, .int .i64 0, .int .i64 0, .int .i64 0, .int .u32 0]) ti36 rfl rfl rfl rfl rfl rfl ?_
    refine J.nx ?_
    refine C.seq ?_
    refine C.rs ?_
    refine J.p rfl rfl rfl rfl (Y.fa0 fa36_0 rfl rfl) ?_
    refine J.r rfl rfl rfl rfl (Y.ldC 0 Try.underlying24 rfl rfl rfl rfl) ?_
    refine J.nx ?_
    refine C.joinN H (fun (o114 : (List Int) × Bool × Int × Int × ByteArray × ByteArray × Int × Int × Int × Int × ByteArray × Int × Int × Int × Int) (j115 : (Option Addr) × Nat) => [(2, .pointer (some ⟨g1, 0, none⟩)), (4, .pointer (some ⟨g3, 0, none⟩)), (6, .pointer (some ⟨g12, 0, none⟩))]) (fun (o114 : (List Int) × Bool × Int × Int × ByteArray × ByteArray × Int × Int × Int × Int × ByteArray × Int × Int × Int × Int) (j115 : (Option Addr) × Nat) => cells g1 36 [.int .i64 0, .int .u64 0, .int .i64 0, .string ByteArray.empty, .string ByteArray.empty, .int .u64 0, .int .i64 0, .int .i64 0, .int .i64 0, .string ByteArray.empty, .int .i64 0, .int .i64 0, .int .i64 0, .int .u32 0] :: cells g3 103 [.slice j115.1 o114.1.length j115.2, .bool o114.2.1] :: cells g12 36 [.int .i64 (IntKind.wrap .i64 (bt t5.1 0)), .int .u64 o114.2.2.1, .int .i64 o114.2.2.2.1, .string o114.2.2.2.2.1, .string o114.2.2.2.2.2.1, .int .u64 o114.2.2.2.2.2.2.1, .int .i64 o114.2.2.2.2.2.2.2.1, .int .i64 o114.2.2.2.2.2.2.2.2.1, .int .i64 o114.2.2.2.2.2.2.2.2.2.1, .string o114.2.2.2.2.2.2.2.2.2.2.1, .int .i64 o114.2.2.2.2.2.2.2.2.2.2.2.1, .int .i64 o114.2.2.2.2.2.2.2.2.2.2.2.2.1, .int .i64 o114.2.2.2.2.2.2.2.2.2.2.2.2.2.1, .int .u32 o114.2.2.2.2.2.2.2.2.2.2.2.2.2.2] :: G) (fun (o114 : (List Int) × Bool × Int × Int × ByteArray × ByteArray × Int × Int × Int × Int × ByteArray × Int × Int × Int × Int) (j115 : (Option Addr) × Nat) => (RdG B w0 G j115.1 (o114.1.map (Value.int .u8)) ∧ o114.1.length ≤ j115.2)) (fun o112 H HK113 => ?_) (fun o114 j115 H hx116 => ?_)
    · refine C.blk ?_
      refine C.rs ?_
      refine J.p rfl rfl rfl rfl (Y.bin rfl rfl rfl) ?_
      refine J.p rfl rfl rfl rfl (Y.asg rfl) ?_
      refine J.nx ?_
      refine split2 H (fun c117 H => ?_) (fun c117 H => ?_)
      · refine C.condT (congrArg (fun b => some (Value.bool b)) (decide_eq_true c117)) ?_
        refine C.rs ?_
        refine J.p rfl rfl rfl rfl (Y.mv rfl) ?_
        refine J.pull 1 rfl rfl ?_
        obtain ⟨t118, hC119, H⟩ := bind_some H
        refine J.call (us := []) (cap := []) rfl rfl rfl go63 (fun w hw => by have hcc := tnumber.calls K t5.2.1 t5.2.2 g3 A7 c8 G hx9.1 (Inc.refl.suf [_, _] rfl) hx9.2 t118 hC119 w hw; exact hcc) (fun e w1 h1 => ?_)
        obtain ⟨A120, c121, rfl, hw149, hx122⟩ := h1
        refine ⟨_, _, rfl, hw149, ?_⟩
        refine J.p rfl rfl rfl rfl (Y.asg rfl) ?_
        refine J.nx ?_
        refine C.seq ?_
        refine C.drawn (fuel := 10) (ls := [false, false, false, false, false, false, false, false, false, false]) [] (cells g1 36 [.int .i64 0, .int .u64 0, .int .i64 0, .string ByteArray.empty, .string ByteArray.empty, .int .u64 0, .int .i64 0, .int .i64 0, .int .i64 0, .string ByteArray.empty, .int .i64 0, .int .i64 0, .int .i64 0, .int .u32 0] :: G) mx rfl rfl ?_
        refine D.p (ls' := [true, false, false, false, false, false, false, false, false, false]) 0 rfl rfl rfl rfl (by kernel_rfl) rfl (Y.mv rfl) ?_
        refine D.p (ls' := [true, true, false, false, false, false, false, false, false, false]) 1 rfl rfl rfl rfl (by kernel_rfl) rfl (Y.fa0 fa36_0 rfl rfl) ?_
        refine D.p (ls' := [true, true, false, true, false, false, false, false, false, false]) 3 rfl rfl rfl rfl (by kernel_rfl) rfl (Y.mv rfl) ?_
        refine D.p (ls' := [true, true, false, true, true, false, false, false, false, false]) 4 rfl rfl rfl rfl (by kernel_rfl) rfl (Y.mv rfl) ?_
        obtain ⟨t123, hC124, H⟩ := bind_some H
        obtain ⟨t128, hC129, H⟩ := bind_some H
        refine D.any [2, 5] (by kernel_rfl) rfl ⟨?_, ?_, trivial⟩
        · refine DW.j (ls' := [true, true, true, true, true, false, false, false, false, false]) rfl rfl ?_
          refine J.r rfl rfl rfl rfl (Y.ldC 1 Try.underlying24 rfl rfl rfl rfl) ?_
          refine J.nil ?_
          refine D.backK 2 rfl ?_
          refine D.any [5] (by kernel_rfl) rfl ⟨?_, trivial⟩
          refine DW.j (ls' := [true, true, true, true, true, true, false, false, false, false]) rfl rfl ?_
          refine J.call (us := []) (cap := []) rfl rfl rfl go64 (fun w hw => by have hcc := tsmall.calls K t118.2.1 t118.2.2 g3 A120 c121 G hx122.1 (Inc.refl.suf [_, _] rfl) hx122.2 t123 hC124 w hw; exact hcc) (fun e w1 h1 => ?_)
          obtain ⟨A135, c136, rfl, hw148, hx137⟩ := h1
          refine ⟨_, _, rfl, hw148, ?_⟩
          refine J.nil ?_
          refine D.backK 2 rfl ?_
          refine D.any [6] (by kernel_rfl) rfl ⟨?_, trivial⟩
          refine DW.j (ls' := [true, true, true, true, true, true, true, false, false, false]) rfl rfl ?_
          refine J.call (us := []) (cap := []) rfl rfl rfl go62 (fun w hw => by have hcc := ttext.calls t123.2.1 t123.2.2 t123.1 g3 A135 c136 G hx137.1 (Inc.refl.suf [_, _] rfl) hx137.2 t128 hC129 w hw; exact hcc) (fun e w1 h1 => ?_)
          obtain ⟨A138, c139, rfl, hw147, hx140⟩ := h1
          refine ⟨_, _, rfl, hw147, ?_⟩
          refine J.nil ?_
          refine D.backK 2 rfl ?_
          refine D.p (ls' := [true, true, true, true, true, true, true, true, false, false]) 7 rfl rfl rfl rfl (by kernel_rfl) rfl (Y.bld (cs := [.int .u64 t118.1, .int .i64 (IntKind.wrap .i64 (bt t5.1 0)), .string t128.1, .string ByteArray.empty]) rfl pl27 ti27 rfl (by kernel_rfl)) ?_
          refine D.p (ls' := [true, true, true, true, true, true, true, true, true, false]) 8 rfl rfl rfl rfl (by kernel_rfl) rfl (Y.fa0 fa36_1 rfl rfl) ?_
          refine D.any [9] (by kernel_rfl) rfl ⟨?_, trivial⟩
          refine DW.j (ls' := [true, true, true, true, true, true, true, true, true, true]) rfl rfl ?_
          refine J.pull 1 rfl rfl ?_
          refine J.stA (us := [.int .u64 t118.1, .int .i64 (IntKind.wrap .i64 (bt t5.1 0)), .string t128.1, .string ByteArray.empty]) (L' := [.int .i64 (IntKind.wrap .i64 (bt t5.1 0)), .int .u64 t118.1, .int .i64 (IntKind.wrap .i64 (bt t5.1 0)), .string t128.1, .string ByteArray.empty, .int .u64 0, .int .i64 0, .int .i64 0, .int .i64 0, .string ByteArray.empty, .int .i64 0, .int .i64 0, .int .i64 0, .int .u32 0]) ti27 rfl rfl rfl rfl rfl rfl ?_
          refine J.nil ?_
          refine D.backK 2 rfl ?_
          refine D.nil (by kernel_rfl) ?_
          refine N.nx ?_
          refine C.reg ?_
          refine J.p rfl rfl rfl rfl (Y.mv rfl) ?_
          refine J.pull 1 rfl rfl ?_
          obtain ⟨t141, hC142, H⟩ := bind_some H
          refine J.call (us := []) (cap := []) rfl rfl rfl go65 (fun w hw => by have hcc := tall.calls t128.2.1 t128.2.2 g3 A138 c139 G hx140.1 (Inc.refl.suf [_, _] rfl) hx140.2 t141 hC142 w hw; exact hcc) (fun e w1 h1 => ?_)
          obtain ⟨A143, c144, rfl, hw146, hx145⟩ := h1
          refine ⟨_, _, rfl, hw146, ?_⟩
          refine J.p rfl rfl rfl rfl (Y.fa0 fa36_1 rfl rfl) ?_
          refine J.p rfl rfl rfl rfl (Y.fa0 fa27_3 rfl rfl) ?_
          refine J.pull 1 rfl rfl ?_
          refine J.stE (L' := [.int .i64 (IntKind.wrap .i64 (bt t5.1 0)), .int .u64 t118.1, .int .i64 (IntKind.wrap .i64 (bt t5.1 0)), .string t128.1, .string t141.1, .int .u64 0, .int .i64 0, .int .i64 0, .int .i64 0, .string ByteArray.empty, .int .i64 0, .int .i64 0, .int .i64 0, .int .u32 0]) ti9 rfl rfl rfl rfl rfl ?_
          refine J.nil ?_
          refine N.ib ?_
          obtain rfl := Option.some.inj H
          exact N.meet ((t141.2.1, t141.2.2, t118.1, IntKind.wrap .i64 (bt t5.1 0), t128.1, t141.1, 0, 0, 0, 0, ByteArray.empty, 0, 0, 0, 0), (A143, c144)) ⟨HK113, ⟨hx145.1, hx145.2⟩⟩ (by exact ⟨rfl, rfl, rfl, trivial⟩) (by exact fun w h => (St.pick [2, 1, 0] [_, _, _] h rfl))
        · refine DW.j (ls' := [true, true, false, true, true, true, false, false, false, false]) rfl rfl ?_
          refine J.call (us := []) (cap := []) rfl rfl rfl go64 (fun w hw => by have hcc := tsmall.calls K t118.2.1 t118.2.2 g3 A120 c121 G hx122.1 (Inc.refl.suf [_, _] rfl) hx122.2 t123 hC124 w hw; exact hcc) (fun e w1 h1 => ?_)
          obtain ⟨A135, c136, rfl, hw148, hx137⟩ := h1
          refine ⟨_, _, rfl, hw148, ?_⟩
          refine J.nil ?_
          refine D.backK 2 rfl ?_
          refine D.any [2, 6] (by kernel_rfl) rfl ⟨?_, ?_, trivial⟩
          · refine DW.j (ls' := [true, true, true, true, true, true, false, false, false, false]) rfl rfl ?_
            refine J.r rfl rfl rfl rfl (Y.ldC 1 Try.underlying24 rfl rfl rfl rfl) ?_
            refine J.nil ?_
            refine D.backK 2 rfl ?_
            refine D.any [6] (by kernel_rfl) rfl ⟨?_, trivial⟩
            refine DW.j (ls' := [true, true, true, true, true, true, true, false, false, false]) rfl rfl ?_
            refine J.call (us := []) (cap := []) rfl rfl rfl go62 (fun w hw => by have hcc := ttext.calls t123.2.1 t123.2.2 t123.1 g3 A135 c136 G hx137.1 (Inc.refl.suf [_, _] rfl) hx137.2 t128 hC129 w hw; exact hcc) (fun e w1 h1 => ?_)
            obtain ⟨A138, c139, rfl, hw147, hx140⟩ := h1
            refine ⟨_, _, rfl, hw147, ?_⟩
            refine J.nil ?_
            refine D.backK 2 rfl ?_
            refine D.p (ls' := [true, true, true, true, true, true, true, true, false, false]) 7 rfl rfl rfl rfl (by kernel_rfl) rfl (Y.bld (cs := [.int .u64 t118.1, .int .i64 (IntKind.wrap .i64 (bt t5.1 0)), .string t128.1, .string ByteArray.empty]) rfl pl27 ti27 rfl (by kernel_rfl)) ?_
            refine D.p (ls' := [true, true, true, true, true, true, true, true, true, false]) 8 rfl rfl rfl rfl (by kernel_rfl) rfl (Y.fa0 fa36_1 rfl rfl) ?_
            refine D.any [9] (by kernel_rfl) rfl ⟨?_, trivial⟩
            refine DW.j (ls' := [true, true, true, true, true, true, true, true, true, true]) rfl rfl ?_
            refine J.pull 1 rfl rfl ?_
            refine J.stA (us := [.int .u64 t118.1, .int .i64 (IntKind.wrap .i64 (bt t5.1 0)), .string t128.1, .string ByteArray.empty]) (L' := [.int .i64 (IntKind.wrap .i64 (bt t5.1 0)), .int .u64 t118.1, .int .i64 (IntKind.wrap .i64 (bt t5.1 0)), .string t128.1, .string ByteArray.empty, .int .u64 0, .int .i64 0, .int .i64 0, .int .i64 0, .string ByteArray.empty, .int .i64 0, .int .i64 0, .int .i64 0, .int .u32 0]) ti27 rfl rfl rfl rfl rfl rfl ?_
            refine J.nil ?_
            refine D.backK 2 rfl ?_
            refine D.nil (by kernel_rfl) ?_
            refine N.nx ?_
            refine C.reg ?_
            refine J.p rfl rfl rfl rfl (Y.mv rfl) ?_
            refine J.pull 1 rfl rfl ?_
            obtain ⟨t141, hC142, H⟩ := bind_some H
            refine J.call (us := []) (cap := []) rfl rfl rfl go65 (fun w hw => by have hcc := tall.calls t128.2.1 t128.2.2 g3 A138 c139 G hx140.1 (Inc.refl.suf [_, _] rfl) hx140.2 t141 hC142 w hw; exact hcc) (fun e w1 h1 => ?_)
            obtain ⟨A143, c144, rfl, hw146, hx145⟩ := h1
            refine ⟨_, _, rfl, hw146, ?_⟩
            refine J.p rfl rfl rfl rfl (Y.fa0 fa36_1 rfl rfl) ?_
            refine J.p rfl rfl rfl rfl (Y.fa0 fa27_3 rfl rfl) ?_
            refine J.pull 1 rfl rfl ?_
            refine J.stE (L' := [.int .i64 (IntKind.wrap .i64 (bt t5.1 0)), .int .u64 t118.1, .int .i64 (IntKind.wrap .i64 (bt t5.1 0)), .string t128.1, .string t141.1, .int .u64 0, .int .i64 0, .int .i64 0, .int .i64 0, .string ByteArray.empty, .int .i64 0, .int .i64 0, .int .i64 0, .int .u32 0]) ti9 rfl rfl rfl rfl rfl ?_
            refine J.nil ?_
            refine N.ib ?_
            obtain rfl := Option.some.inj H
            exact N.meet ((t141.2.1, t141.2.2, t118.1, IntKind.wrap .i64 (bt t5.1 0), t128.1, t141.1, 0, 0, 0, 0, ByteArray.empty, 0, 0, 0, 0), (A143, c144)) ⟨HK113, ⟨hx145.1, hx145.2⟩⟩ (by exact ⟨rfl, rfl, rfl, trivial⟩) (by exact fun w h => (St.pick [2, 1, 0] [_, _, _] h rfl))
          · refine DW.j (ls' := [true, true, false, true, true, true, true, false, false, false]) rfl rfl ?_
            refine J.call (us := []) (cap := []) rfl rfl rfl go62 (fun w hw => by have hcc := ttext.calls t123.2.1 t123.2.2 t123.1 g3 A135 c136 G hx137.1 (Inc.refl.suf [_, _] rfl) hx137.2 t128 hC129 w hw; exact hcc) (fun e w1 h1 => ?_)
            obtain ⟨A138, c139, rfl, hw147, hx140⟩ := h1
            refine ⟨_, _, rfl, hw147, ?_⟩
            refine J.nil ?_
            refine D.backK 2 rfl ?_
            refine D.any [2] (by kernel_rfl) rfl ⟨?_, trivial⟩
            refine DW.j (ls' := [true, true, true, true, true, true, true, false, false, false]) rfl rfl ?_
            refine J.r rfl rfl rfl rfl (Y.ldC 1 Try.underlying24 rfl rfl rfl rfl) ?_
            refine J.nil ?_
            refine D.backK 2 rfl ?_
            refine D.p (ls' := [true, true, true, true, true, true, true, true, false, false]) 7 rfl rfl rfl rfl (by kernel_rfl) rfl (Y.bld (cs := [.int .u64 t118.1, .int .i64 (IntKind.wrap .i64 (bt t5.1 0)), .string t128.1, .string ByteArray.empty]) rfl pl27 ti27 rfl (by kernel_rfl)) ?_
            refine D.p (ls' := [true, true, true, true, true, true, true, true, true, false]) 8 rfl rfl rfl rfl (by kernel_rfl) rfl (Y.fa0 fa36_1 rfl rfl) ?_
            refine D.any [9] (by kernel_rfl) rfl ⟨?_, trivial⟩
            refine DW.j (ls' := [true, true, true, true, true, true, true, true, true, true]) rfl rfl ?_
            refine J.pull 1 rfl rfl ?_
            refine J.stA (us := [.int .u64 t118.1, .int .i64 (IntKind.wrap .i64 (bt t5.1 0)), .string t128.1, .string ByteArray.empty]) (L' := [.int .i64 (IntKind.wrap .i64 (bt t5.1 0)), .int .u64 t118.1, .int .i64 (IntKind.wrap .i64 (bt t5.1 0)), .string t128.1, .string ByteArray.empty, .int .u64 0, .int .i64 0, .int .i64 0, .int .i64 0, .string ByteArray.empty, .int .i64 0, .int .i64 0, .int .i64 0, .int .u32 0]) ti27 rfl rfl rfl rfl rfl rfl ?_
            refine J.nil ?_
            refine D.backK 2 rfl ?_
            refine D.nil (by kernel_rfl) ?_
            refine N.nx ?_
            refine C.reg ?_
            refine J.p rfl rfl rfl rfl (Y.mv rfl) ?_
            refine J.pull 1 rfl rfl ?_
            obtain ⟨t141, hC142, H⟩ := bind_some H
            refine J.call (us := []) (cap := []) rfl rfl rfl go65 (fun w hw => by have hcc := tall.calls t128.2.1 t128.2.2 g3 A138 c139 G hx140.1 (Inc.refl.suf [_, _] rfl) hx140.2 t141 hC142 w hw; exact hcc) (fun e w1 h1 => ?_)
            obtain ⟨A143, c144, rfl, hw146, hx145⟩ := h1
            refine ⟨_, _, rfl, hw146, ?_⟩
            refine J.p rfl rfl rfl rfl (Y.fa0 fa36_1 rfl rfl) ?_
            refine J.p rfl rfl rfl rfl (Y.fa0 fa27_3 rfl rfl) ?_
            refine J.pull 1 rfl rfl ?_
            refine J.stE (L' := [.int .i64 (IntKind.wrap .i64 (bt t5.1 0)), .int .u64 t118.1, .int .i64 (IntKind.wrap .i64 (bt t5.1 0)), .string t128.1, .string t141.1, .int .u64 0, .int .i64 0, .int .i64 0, .int .i64 0, .string ByteArray.empty, .int .i64 0, .int .i64 0, .int .i64 0, .int .u32 0]) ti9 rfl rfl rfl rfl rfl ?_
            refine J.nil ?_
            refine N.ib ?_
            obtain rfl := Option.some.inj H
            exact N.meet ((t141.2.1, t141.2.2, t118.1, IntKind.wrap .i64 (bt t5.1 0), t128.1, t141.1, 0, 0, 0, 0, ByteArray.empty, 0, 0, 0, 0), (A143, c144)) ⟨HK113, ⟨hx145.1, hx145.2⟩⟩ (by exact ⟨rfl, rfl, rfl, trivial⟩) (by exact fun w h => (St.pick [2, 1, 0] [_, _, _] h rfl))
      · refine C.condF (congrArg (fun b => some (Value.bool b)) (decide_eq_false c117)) ?_
        refine C.rs ?_
        refine J.p rfl rfl rfl rfl (Y.bin rfl rfl rfl) ?_
        refine J.p rfl rfl rfl rfl (Y.asg rfl) ?_
        refine J.nx ?_
        refine split2 H (fun c150 H => ?_) (fun c150 H => ?_)
        · refine C.condT (congrArg (fun b => some (Value.bool b)) (decide_eq_true c150)) ?_
          refine C.rs ?_
          refine J.p rfl rfl rfl rfl (Y.mv rfl) ?_
          refine J.pull 1 rfl rfl ?_
          obtain ⟨t151, hC152, H⟩ := bind_some H
          refine J.call (us := []) (cap := []) rfl rfl rfl go63 (fun w hw => by have hcc := tnumber.calls K t5.2.1 t5.2.2 g3 A7 c8 G hx9.1 (Inc.refl.suf [_, _] rfl) hx9.2 t151 hC152 w hw; exact hcc) (fun e w1 h1 => ?_)
          obtain ⟨A153, c154, rfl, hw166, hx155⟩ := h1
          refine ⟨_, _, rfl, hw166, ?_⟩
          refine J.p rfl rfl rfl rfl (Y.asg rfl) ?_
          refine J.nx ?_
          refine C.drawn (fuel := 8) (ls := [false, false, false, false, false, false, false, false]) [] (cells g1 36 [.int .i64 0, .int .u64 0, .int .i64 0, .string ByteArray.empty, .string ByteArray.empty, .int .u64 0, .int .i64 0, .int .i64 0, .int .i64 0, .string ByteArray.empty, .int .i64 0, .int .i64 0, .int .i64 0, .int .u32 0] :: G) mx rfl rfl ?_
          refine D.p (ls' := [true, false, false, false, false, false, false, false]) 0 rfl rfl rfl rfl (by kernel_rfl) rfl (Y.mv rfl) ?_
          refine D.p (ls' := [true, true, false, false, false, false, false, false]) 1 rfl rfl rfl rfl (by kernel_rfl) rfl (Y.fa0 fa36_0 rfl rfl) ?_
          refine D.p (ls' := [true, true, false, true, false, false, false, false]) 3 rfl rfl rfl rfl (by kernel_rfl) rfl (Y.mv rfl) ?_
          obtain ⟨t156, hC157, H⟩ := bind_some H
          refine D.any [2, 4] (by kernel_rfl) rfl ⟨?_, ?_, trivial⟩
          · refine DW.j (ls' := [true, true, true, true, false, false, false, false]) rfl rfl ?_
            refine J.r rfl rfl rfl rfl (Y.ldC 1 Try.underlying24 rfl rfl rfl rfl) ?_
            refine J.nil ?_
            refine D.backK 2 rfl ?_
            refine D.any [4] (by kernel_rfl) rfl ⟨?_, trivial⟩
            refine DW.j (ls' := [true, true, true, true, true, false, false, false]) rfl rfl ?_
            refine J.call (us := []) (cap := []) rfl rfl rfl go65 (fun w hw => by have hcc := tall.calls t151.2.1 t151.2.2 g3 A153 c154 G hx155.1 (Inc.refl.suf [_, _] rfl) hx155.2 t156 hC157 w hw; exact hcc) (fun e w1 h1 => ?_)
            obtain ⟨A162, c163, rfl, hw165, hx164⟩ := h1
            refine ⟨_, _, rfl, hw165, ?_⟩
            refine J.nil ?_
            refine D.backK 2 rfl ?_
            refine D.p (ls' := [true, true, true, true, true, true, false, false]) 5 rfl rfl rfl rfl (by kernel_rfl) rfl (Y.bld (cs := [.int .u64 t151.1, .int .i64 (IntKind.wrap .i64 (bt t5.1 0)), .string t156.1, .string ByteArray.empty]) rfl pl27 ti27 rfl (by kernel_rfl)) ?_
            refine D.p (ls' := [true, true, true, true, true, true, true, false]) 6 rfl rfl rfl rfl (by kernel_rfl) rfl (Y.fa0 fa36_1 rfl rfl) ?_
            refine D.any [7] (by kernel_rfl) rfl ⟨?_, trivial⟩
            refine DW.j (ls' := [true, true, true, true, true, true, true, true]) rfl rfl ?_
            refine J.pull 1 rfl rfl ?_
            refine J.stA (us := [.int .u64 t151.1, .int .i64 (IntKind.wrap .i64 (bt t5.1 0)), .string t156.1, .string ByteArray.empty]) (L' := [.int .i64 (IntKind.wrap .i64 (bt t5.1 0)), .int .u64 t151.1, .int .i64 (IntKind.wrap .i64 (bt t5.1 0)), .string t156.1, .string ByteArray.empty, .int .u64 0, .int .i64 0, .int .i64 0, .int .i64 0, .string ByteArray.empty, .int .i64 0, .int .i64 0, .int .i64 0, .int .u32 0]) ti27 rfl rfl rfl rfl rfl rfl ?_
            refine J.nil ?_
            refine D.backK 2 rfl ?_
            refine D.nil (by kernel_rfl) ?_
            refine N.ib ?_
            obtain rfl := Option.some.inj H
            exact N.meet ((t156.2.1, t156.2.2, t151.1, IntKind.wrap .i64 (bt t5.1 0), t156.1, ByteArray.empty, 0, 0, 0, 0, ByteArray.empty, 0, 0, 0, 0), (A162, c163)) ⟨HK113, ⟨hx164.1, hx164.2⟩⟩ (by exact ⟨rfl, rfl, rfl, trivial⟩) (by exact fun w h => (St.pick [2, 1, 0] [_, _, _] h rfl))
          · refine DW.j (ls' := [true, true, false, true, true, false, false, false]) rfl rfl ?_
            refine J.call (us := []) (cap := []) rfl rfl rfl go65 (fun w hw => by have hcc := tall.calls t151.2.1 t151.2.2 g3 A153 c154 G hx155.1 (Inc.refl.suf [_, _] rfl) hx155.2 t156 hC157 w hw; exact hcc) (fun e w1 h1 => ?_)
            obtain ⟨A162, c163, rfl, hw165, hx164⟩ := h1
            refine ⟨_, _, rfl, hw165, ?_⟩
            refine J.nil ?_
            refine D.backK 2 rfl ?_
            refine D.any [2] (by kernel_rfl) rfl ⟨?_, trivial⟩
            refine DW.j (ls' := [true, true, true, true, true, false, false, false]) rfl rfl ?_
            refine J.r rfl rfl rfl rfl (Y.ldC 1 Try.underlying24 rfl rfl rfl rfl) ?_
            refine J.nil ?_
            refine D.backK 2 rfl ?_
            refine D.p (ls' := [true, true, true, true, true, true, false, false]) 5 rfl rfl rfl rfl (by kernel_rfl) rfl (Y.bld (cs := [.int .u64 t151.1, .int .i64 (IntKind.wrap .i64 (bt t5.1 0)), .string t156.1, .string ByteArray.empty]) rfl pl27 ti27 rfl (by kernel_rfl)) ?_
            refine D.p (ls' := [true, true, true, true, true, true, true, false]) 6 rfl rfl rfl rfl (by kernel_rfl) rfl (Y.fa0 fa36_1 rfl rfl) ?_
            refine D.any [7] (by kernel_rfl) rfl ⟨?_, trivial⟩
            refine DW.j (ls' := [true, true, true, true, true, true, true, true]) rfl rfl ?_
            refine J.pull 1 rfl rfl ?_
            refine J.stA (us := [.int .u64 t151.1, .int .i64 (IntKind.wrap .i64 (bt t5.1 0)), .string t156.1, .string ByteArray.empty]) (L' := [.int .i64 (IntKind.wrap .i64 (bt t5.1 0)), .int .u64 t151.1, .int .i64 (IntKind.wrap .i64 (bt t5.1 0)), .string t156.1, .string ByteArray.empty, .int .u64 0, .int .i64 0, .int .i64 0, .int .i64 0, .string ByteArray.empty, .int .i64 0, .int .i64 0, .int .i64 0, .int .u32 0]) ti27 rfl rfl rfl rfl rfl rfl ?_
            refine J.nil ?_
            refine D.backK 2 rfl ?_
            refine D.nil (by kernel_rfl) ?_
            refine N.ib ?_
            obtain rfl := Option.some.inj H
            exact N.meet ((t156.2.1, t156.2.2, t151.1, IntKind.wrap .i64 (bt t5.1 0), t156.1, ByteArray.empty, 0, 0, 0, 0, ByteArray.empty, 0, 0, 0, 0), (A162, c163)) ⟨HK113, ⟨hx164.1, hx164.2⟩⟩ (by exact ⟨rfl, rfl, rfl, trivial⟩) (by exact fun w h => (St.pick [2, 1, 0] [_, _, _] h rfl))
        · refine C.condF (congrArg (fun b => some (Value.bool b)) (decide_eq_false c150)) ?_
          refine C.rs ?_
          refine J.p rfl rfl rfl rfl (Y.bin rfl rfl rfl) ?_
          refine J.p rfl rfl rfl rfl (Y.asg rfl) ?_
          refine J.nx ?_
          refine split2 H (fun c167 H => ?_) (fun c167 H => ?_)
          · refine C.condT (congrArg (fun b => some (Value.bool b)) (decide_eq_true c167)) ?_
            refine C.rs ?_
            refine J.p rfl rfl rfl rfl (Y.mv rfl) ?_
            refine J.pull 1 rfl rfl ?_
            obtain ⟨t168, hC169, H⟩ := bind_some H
            refine J.call (us := []) (cap := []) rfl rfl rfl go63 (fun w hw => by have hcc := tnumber.calls K t5.2.1 t5.2.2 g3 A7 c8 G hx9.1 (Inc.refl.suf [_, _] rfl) hx9.2 t168 hC169 w hw; exact hcc) (fun e w1 h1 => ?_)
            obtain ⟨A170, c171, rfl, hw205, hx172⟩ := h1
            refine ⟨_, _, rfl, hw205, ?_⟩
            refine J.p rfl rfl rfl rfl (Y.fa0 fa36_2 rfl rfl) ?_
            refine J.p rfl rfl rfl rfl (Y.fa0 fa29_0 rfl rfl) ?_
            refine J.pull 1 rfl rfl ?_
            refine J.stE (L' := [.int .i64 (IntKind.wrap .i64 (bt t5.1 0)), .int .u64 0, .int .i64 0, .string ByteArray.empty, .string ByteArray.empty, .int .u64 t168.1, .int .i64 0, .int .i64 0, .int .i64 0, .string ByteArray.empty, .int .i64 0, .int .i64 0, .int .i64 0, .int .u32 0]) ti25 rfl rfl rfl rfl rfl ?_
            refine J.nx ?_
            refine C.seq ?_
            refine C.rs ?_
            refine J.p rfl rfl rfl rfl (Y.mv rfl) ?_
            refine J.pull 1 rfl rfl ?_
            obtain ⟨t173, hC174, H⟩ := bind_some H
            refine J.call (us := []) (cap := []) rfl rfl rfl go62 (fun w hw => by have hcc := ttext.calls t168.2.1 t168.2.2 1 g3 A170 c171 G hx172.1 (Inc.refl.suf [_, _] rfl) hx172.2 t173 hC174 w hw; exact hcc) (fun e w1 h1 => ?_)
            obtain ⟨A175, c176, rfl, hw204, hx177⟩ := h1
            refine ⟨_, _, rfl, hw204, ?_⟩
            refine J.p rfl rfl rfl rfl (Y.asg rfl) ?_
            refine J.nx ?_
            refine C.rs ?_
            refine J.p rfl rfl rfl rfl (Y.mv rfl) ?_
            refine J.p rfl rfl rfl rfl (Y.nes rfl rfl) ?_
            refine J.nx ?_
            refine C.joinN H (fun (o182 : Int) (j183 : Unit) => [(2, .pointer (some ⟨g1, 0, none⟩)), (4, .pointer (some ⟨g3, 0, none⟩)), (6, .pointer (some ⟨g12, 0, none⟩))]) (fun (o182 : Int) (j183 : Unit) => cells g1 36 [.int .i64 0, .int .u64 0, .int .i64 0, .string ByteArray.empty, .string ByteArray.empty, .int .u64 0, .int .i64 0, .int .i64 0, .int .i64 0, .string ByteArray.empty, .int .i64 0, .int .i64 0, .int .i64 0, .int .u32 0] :: cells g3 103 [.slice A175 t173.2.1.length c176, .bool t173.2.2] :: cells g12 36 [.int .i64 (IntKind.wrap .i64 (bt t5.1 0)), .int .u64 0, .int .i64 0, .string ByteArray.empty, .string ByteArray.empty, .int .u64 t168.1, .int .i64 o182, .int .i64 0, .int .i64 0, .string ByteArray.empty, .int .i64 0, .int .i64 0, .int .i64 0, .int .u32 0] :: G) (fun (o182 : Int) (j183 : Unit) => True) (fun o180 H HK181 => ?_) (fun o182 j183 H _ => ?_)
            · refine split2 H (fun c184 H => ?_) (fun c184 H => ?_)
              · refine C.condT (congrArg (fun b => some (Value.bool b)) (decide_eq_true c184)) ?_
                refine C.reg ?_
                refine J.p rfl rfl rfl rfl (Y.mv rfl) ?_
                obtain ⟨p185, H⟩ := gd_some H
                refine J.p rfl rfl rfl rfl (Y.ixT Try.underlying9 rfl rfl p185) ?_
                refine J.p rfl rfl rfl rfl (Y.conv Try.underlying5 Try.underlying24 rfl) ?_
                refine J.p rfl rfl rfl rfl (Y.fa0 fa36_2 rfl rfl) ?_
                refine J.p rfl rfl rfl rfl (Y.fa0 fa29_1 rfl rfl) ?_
                refine J.pull 1 rfl rfl ?_
                refine J.stE (L' := [.int .i64 (IntKind.wrap .i64 (bt t5.1 0)), .int .u64 0, .int .i64 0, .string ByteArray.empty, .string ByteArray.empty, .int .u64 t168.1, .int .i64 (IntKind.wrap .i64 (bt t173.1 0)), .int .i64 0, .int .i64 0, .string ByteArray.empty, .int .i64 0, .int .i64 0, .int .i64 0, .int .u32 0]) ti24 rfl rfl rfl rfl rfl ?_
                refine J.nil ?_
                obtain rfl := Option.some.inj H
                exact N.meet (IntKind.wrap .i64 (bt t173.1 0), ()) ⟨HK181, trivial⟩ (by exact ⟨rfl, rfl, rfl, trivial⟩) (by exact fun w h => (St.pick [2, 1, 0] [_, _, _] h rfl))
              · refine C.condF (congrArg (fun b => some (Value.bool b)) (decide_eq_false c184)) ?_
                refine C.skip ?_
                obtain rfl := Option.some.inj H
                exact N.meet (0, ()) ⟨HK181, trivial⟩ (by exact ⟨rfl, rfl, rfl, trivial⟩) (by exact fun w h => (St.pick [2, 0, 1] [_, _, _] h rfl))
            · refine N.at (s' := [(2, .pointer (some ⟨g1, 0, none⟩)), (4, .pointer (some ⟨g3, 0, none⟩)), (6, .pointer (some ⟨g12, 0, none⟩))]) (G' := cells g1 36 [.int .i64 0, .int .u64 0, .int .i64 0, .string ByteArray.empty, .string ByteArray.empty, .int .u64 0, .int .i64 0, .int .i64 0, .int .i64 0, .string ByteArray.empty, .int .i64 0, .int .i64 0, .int .i64 0, .int .u32 0] :: cells g3 103 [.slice A175 t173.2.1.length c176, .bool t173.2.2] :: cells g12 36 [.int .i64 (IntKind.wrap .i64 (bt t5.1 0)), .int .u64 0, .int .i64 0, .string ByteArray.empty, .string ByteArray.empty, .int .u64 t168.1, .int .i64 o182, .int .i64 0, .int .i64 0, .string ByteArray.empty, .int .i64 0, .int .i64 0, .int .i64 0, .int .u32 0] :: G) rfl rfl ?_
              refine N.nx ?_
              refine C.rs ?_
              refine J.p rfl rfl rfl rfl (Y.mv rfl) ?_
              refine J.pull 1 rfl rfl ?_
              obtain ⟨t186, hC187, H⟩ := bind_some H
              refine J.call (us := []) (cap := []) rfl rfl rfl go64 (fun w hw => by have hcc := tsmall.calls K t173.2.1 t173.2.2 g3 A175 c176 G hx177.1 (Inc.refl.suf [_, _] rfl) hx177.2 t186 hC187 w hw; exact hcc) (fun e w1 h1 => ?_)
              obtain ⟨A188, c189, rfl, hw203, hx190⟩ := h1
              refine ⟨_, _, rfl, hw203, ?_⟩
              refine J.p rfl rfl rfl rfl (Y.fa0 fa36_2 rfl rfl) ?_
              refine J.p rfl rfl rfl rfl (Y.fa0 fa29_2 rfl rfl) ?_
              refine J.pull 2 rfl rfl ?_
              refine J.stE (L' := [.int .i64 (IntKind.wrap .i64 (bt t5.1 0)), .int .u64 0, .int .i64 0, .string ByteArray.empty, .string ByteArray.empty, .int .u64 t168.1, .int .i64 o182, .int .i64 t186.1, .int .i64 0, .string ByteArray.empty, .int .i64 0, .int .i64 0, .int .i64 0, .int .u32 0]) ti3 rfl rfl rfl rfl rfl ?_
              refine J.nx ?_
              refine C.rs ?_
              refine J.p rfl rfl rfl rfl (Y.mv rfl) ?_
              refine J.pull 1 rfl rfl ?_
              obtain ⟨t191, hC192, H⟩ := bind_some H
              refine J.call (us := []) (cap := []) rfl rfl rfl go64 (fun w hw => by have hcc := tsmall.calls K t186.2.1 t186.2.2 g3 A188 c189 G hx190.1 (Inc.refl.suf [_, _] rfl) hx190.2 t191 hC192 w hw; exact hcc) (fun e w1 h1 => ?_)
              obtain ⟨A193, c194, rfl, hw202, hx195⟩ := h1
              refine ⟨_, _, rfl, hw202, ?_⟩
              refine J.p rfl rfl rfl rfl (Y.fa0 fa36_2 rfl rfl) ?_
              refine J.p rfl rfl rfl rfl (Y.fa0 fa29_3 rfl rfl) ?_
              refine J.pull 1 rfl rfl ?_
              refine J.stE (L' := [.int .i64 (IntKind.wrap .i64 (bt t5.1 0)), .int .u64 0, .int .i64 0, .string ByteArray.empty, .string ByteArray.empty, .int .u64 t168.1, .int .i64 o182, .int .i64 t186.1, .int .i64 t191.1, .string ByteArray.empty, .int .i64 0, .int .i64 0, .int .i64 0, .int .u32 0]) ti3 rfl rfl rfl rfl rfl ?_
              refine J.nx ?_
              refine C.reg ?_
              refine J.p rfl rfl rfl rfl (Y.mv rfl) ?_
              refine J.pull 1 rfl rfl ?_
              obtain ⟨t196, hC197, H⟩ := bind_some H
              refine J.call (us := []) (cap := []) rfl rfl rfl go65 (fun w hw => by have hcc := tall.calls t191.2.1 t191.2.2 g3 A193 c194 G hx195.1 (Inc.refl.suf [_, _] rfl) hx195.2 t196 hC197 w hw; exact hcc) (fun e w1 h1 => ?_)
              obtain ⟨A198, c199, rfl, hw201, hx200⟩ := h1
              refine ⟨_, _, rfl, hw201, ?_⟩
              refine J.p rfl rfl rfl rfl (Y.fa0 fa36_2 rfl rfl) ?_
              refine J.p rfl rfl rfl rfl (Y.fa0 fa29_4 rfl rfl) ?_
              refine J.pull 1 rfl rfl ?_
              refine J.stE (L' := [.int .i64 (IntKind.wrap .i64 (bt t5.1 0)), .int .u64 0, .int .i64 0, .string ByteArray.empty, .string ByteArray.empty, .int .u64 t168.1, .int .i64 o182, .int .i64 t186.1, .int .i64 t191.1, .string t196.1, .int .i64 0, .int .i64 0, .int .i64 0, .int .u32 0]) ti9 rfl rfl rfl rfl rfl ?_
              refine J.nil ?_
              refine N.ib ?_
              obtain rfl := Option.some.inj H
              exact N.meet ((t196.2.1, t196.2.2, 0, 0, ByteArray.empty, ByteArray.empty, t168.1, o182, t186.1, t191.1, t196.1, 0, 0, 0, 0), (A198, c199)) ⟨HK113, ⟨hx200.1, hx200.2⟩⟩ (by exact ⟨rfl, rfl, rfl, trivial⟩) (by exact fun w h => (St.pick [2, 1, 0] [_, _, _] h rfl))
          · refine C.condF (congrArg (fun b => some (Value.bool b)) (decide_eq_false c167)) ?_
            refine C.rs ?_
            refine J.p rfl rfl rfl rfl (Y.bin rfl rfl rfl) ?_
            refine J.p rfl rfl rfl rfl (Y.asg rfl) ?_
            refine J.nx ?_
            refine split2 H (fun c206 H => ?_) (fun c206 H => ?_)
            · refine C.condT (congrArg (fun b => some (Value.bool b)) (decide_eq_true c206)) ?_
              refine C.rs ?_
              refine J.p rfl rfl rfl rfl (Y.mv rfl) ?_
              refine J.pull 1 rfl rfl ?_
              obtain ⟨t207, hC208, H⟩ := bind_some H
              refine J.call (us := []) (cap := []) rfl rfl rfl go64 (fun w hw => by have hcc := tsmall.calls K t5.2.1 t5.2.2 g3 A7 c8 G hx9.1 (Inc.refl.suf [_, _] rfl) hx9.2 t207 hC208 w hw; exact hcc) (fun e w1 h1 => ?_)
              obtain ⟨A209, c210, rfl, hw230, hx211⟩ := h1
              refine ⟨_, _, rfl, hw230, ?_⟩
              refine J.p rfl rfl rfl rfl (Y.fa0 fa36_3 rfl rfl) ?_
              refine J.p rfl rfl rfl rfl (Y.fa0 fa34_0 rfl rfl) ?_
              refine J.pull 1 rfl rfl ?_
              refine J.stE (L' := [.int .i64 (IntKind.wrap .i64 (bt t5.1 0)), .int .u64 0, .int .i64 0, .string ByteArray.empty, .string ByteArray.empty, .int .u64 0, .int .i64 0, .int .i64 0, .int .i64 0, .string ByteArray.empty, .int .i64 t207.1, .int .i64 0, .int .i64 0, .int .u32 0]) ti3 rfl rfl rfl rfl rfl ?_
              refine J.nx ?_
              refine C.rs ?_
              refine J.p rfl rfl rfl rfl (Y.mv rfl) ?_
              refine J.pull 1 rfl rfl ?_
              obtain ⟨t212, hC213, H⟩ := bind_some H
              refine J.call (us := []) (cap := []) rfl rfl rfl go64 (fun w hw => by have hcc := tsmall.calls K t207.2.1 t207.2.2 g3 A209 c210 G hx211.1 (Inc.refl.suf [_, _] rfl) hx211.2 t212 hC213 w hw; exact hcc) (fun e w1 h1 => ?_)
              obtain ⟨A214, c215, rfl, hw229, hx216⟩ := h1
              refine ⟨_, _, rfl, hw229, ?_⟩
              refine J.p rfl rfl rfl rfl (Y.fa0 fa36_3 rfl rfl) ?_
              refine J.p rfl rfl rfl rfl (Y.fa0 fa34_1 rfl rfl) ?_
              refine J.p rfl rfl rfl rfl (Y.fa0 fa32_0 rfl rfl) ?_
              refine J.pull 1 rfl rfl ?_
              refine J.stE (L' := [.int .i64 (IntKind.wrap .i64 (bt t5.1 0)), .int .u64 0, .int .i64 0, .string ByteArray.empty, .string ByteArray.empty, .int .u64 0, .int .i64 0, .int .i64 0, .int .i64 0, .string ByteArray.empty, .int .i64 t207.1, .int .i64 t212.1, .int .i64 0, .int .u32 0]) ti3 rfl rfl rfl rfl rfl ?_
              refine J.nx ?_
              refine C.rs ?_
              refine J.p rfl rfl rfl rfl (Y.mv rfl) ?_
              refine J.pull 1 rfl rfl ?_
              obtain ⟨t217, hC218, H⟩ := bind_some H
              refine J.call (us := []) (cap := []) rfl rfl rfl go64 (fun w hw => by have hcc := tsmall.calls K t212.2.1 t212.2.2 g3 A214 c215 G hx216.1 (Inc.refl.suf [_, _] rfl) hx216.2 t217 hC218 w hw; exact hcc) (fun e w1 h1 => ?_)
              obtain ⟨A219, c220, rfl, hw228, hx221⟩ := h1
              refine ⟨_, _, rfl, hw228, ?_⟩
              refine J.p rfl rfl rfl rfl (Y.fa0 fa36_3 rfl rfl) ?_
              refine J.p rfl rfl rfl rfl (Y.fa0 fa34_1 rfl rfl) ?_
              refine J.p rfl rfl rfl rfl (Y.fa0 fa32_1 rfl rfl) ?_
              refine J.pull 1 rfl rfl ?_
              refine J.stE (L' := [.int .i64 (IntKind.wrap .i64 (bt t5.1 0)), .int .u64 0, .int .i64 0, .string ByteArray.empty, .string ByteArray.empty, .int .u64 0, .int .i64 0, .int .i64 0, .int .i64 0, .string ByteArray.empty, .int .i64 t207.1, .int .i64 t212.1, .int .i64 t217.1, .int .u32 0]) ti3 rfl rfl rfl rfl rfl ?_
              refine J.nx ?_
              refine C.reg ?_
              refine J.p rfl rfl rfl rfl (Y.mv rfl) ?_
              refine J.pull 1 rfl rfl ?_
              obtain ⟨t222, hC223, H⟩ := bind_some H
              refine J.call (us := []) (cap := []) rfl rfl rfl go64 (fun w hw => by have hcc := tsmall.calls K t217.2.1 t217.2.2 g3 A219 c220 G hx221.1 (Inc.refl.suf [_, _] rfl) hx221.2 t222 hC223 w hw; exact hcc) (fun e w1 h1 => ?_)
              obtain ⟨A224, c225, rfl, hw227, hx226⟩ := h1
              refine ⟨_, _, rfl, hw227, ?_⟩
              refine J.p rfl rfl rfl rfl (Y.conv Try.underlying3 Try.underlying30 rfl) ?_
              refine J.p rfl rfl rfl rfl (Y.fa0 fa36_3 rfl rfl) ?_
              refine J.p rfl rfl rfl rfl (Y.fa0 fa34_1 rfl rfl) ?_
              refine J.p rfl rfl rfl rfl (Y.fa0 fa32_2 rfl rfl) ?_
              refine J.pull 1 rfl rfl ?_
              refine J.stE (L' := [.int .i64 (IntKind.wrap .i64 (bt t5.1 0)), .int .u64 0, .int .i64 0, .string ByteArray.empty, .string ByteArray.empty, .int .u64 0, .int .i64 0, .int .i64 0, .int .i64 0, .string ByteArray.empty, .int .i64 t207.1, .int .i64 t212.1, .int .i64 t217.1, .int .u32 (IntKind.wrap .u32 t222.1)]) ti30 rfl rfl rfl rfl rfl ?_
              refine J.nil ?_
              refine N.ib ?_
              obtain rfl := Option.some.inj H
              exact N.meet ((t222.2.1, t222.2.2, 0, 0, ByteArray.empty, ByteArray.empty, 0, 0, 0, 0, ByteArray.empty, t207.1, t212.1, t217.1, IntKind.wrap .u32 t222.1), (A224, c225)) ⟨HK113, ⟨hx226.1, hx226.2⟩⟩ (by exact ⟨rfl, rfl, rfl, trivial⟩) (by exact fun w h => (St.pick [2, 1, 0] [_, _, _] h rfl))
            · refine C.condF (congrArg (fun b => some (Value.bool b)) (decide_eq_false c206)) ?_
              refine C.skip ?_
              refine N.ib ?_
              obtain rfl := Option.some.inj H
              exact N.meet ((t5.2.1, t5.2.2, 0, 0, ByteArray.empty, ByteArray.empty, 0, 0, 0, 0, ByteArray.empty, 0, 0, 0, 0), (A7, c8)) ⟨HK113, ⟨hx9.1, hx9.2⟩⟩ (by exact ⟨rfl, rfl, rfl, trivial⟩) (by exact fun w h => (St.pick [2, 1, 0] [_, _, _] h rfl))
    · refine N.at (s' := [(2, .pointer (some ⟨g1, 0, none⟩)), (4, .pointer (some ⟨g3, 0, none⟩)), (6, .pointer (some ⟨g12, 0, none⟩))]) (G' := cells g1 36 [.int .i64 0, .int .u64 0, .int .i64 0, .string ByteArray.empty, .string ByteArray.empty, .int .u64 0, .int .i64 0, .int .i64 0, .int .i64 0, .string ByteArray.empty, .int .i64 0, .int .i64 0, .int .i64 0, .int .u32 0] :: cells g3 103 [.slice j115.1 o114.1.length j115.2, .bool o114.2.1] :: cells g12 36 [.int .i64 (IntKind.wrap .i64 (bt t5.1 0)), .int .u64 o114.2.2.1, .int .i64 o114.2.2.2.1, .string o114.2.2.2.2.1, .string o114.2.2.2.2.2.1, .int .u64 o114.2.2.2.2.2.2.1, .int .i64 o114.2.2.2.2.2.2.2.1, .int .i64 o114.2.2.2.2.2.2.2.2.1, .int .i64 o114.2.2.2.2.2.2.2.2.2.1, .string o114.2.2.2.2.2.2.2.2.2.2.1, .int .i64 o114.2.2.2.2.2.2.2.2.2.2.2.1, .int .i64 o114.2.2.2.2.2.2.2.2.2.2.2.2.1, .int .i64 o114.2.2.2.2.2.2.2.2.2.2.2.2.2.1, .int .u32 o114.2.2.2.2.2.2.2.2.2.2.2.2.2.2] :: G) rfl rfl ?_
      refine N.nx ?_
      refine C.seq ?_
      refine C.rs ?_
      refine J.joinB H (fun (o236 : Bool) (j237 : Unit) => [(2, .pointer (some ⟨g1, 0, none⟩)), (6, .pointer (some ⟨g12, 0, none⟩)), (119, .bool o236)]) (fun (o236 : Bool) (j237 : Unit) => cells g1 36 [.int .i64 0, .int .u64 0, .int .i64 0, .string ByteArray.empty, .string ByteArray.empty, .int .u64 0, .int .i64 0, .int .i64 0, .int .i64 0, .string ByteArray.empty, .int .i64 0, .int .i64 0, .int .i64 0, .int .u32 0] :: cells g12 36 [.int .i64 (IntKind.wrap .i64 (bt t5.1 0)), .int .u64 o114.2.2.1, .int .i64 o114.2.2.2.1, .string o114.2.2.2.2.1, .string o114.2.2.2.2.2.1, .int .u64 o114.2.2.2.2.2.2.1, .int .i64 o114.2.2.2.2.2.2.2.1, .int .i64 o114.2.2.2.2.2.2.2.2.1, .int .i64 o114.2.2.2.2.2.2.2.2.2.1, .string o114.2.2.2.2.2.2.2.2.2.2.1, .int .i64 o114.2.2.2.2.2.2.2.2.2.2.2.1, .int .i64 o114.2.2.2.2.2.2.2.2.2.2.2.2.1, .int .i64 o114.2.2.2.2.2.2.2.2.2.2.2.2.2.1, .int .u32 o114.2.2.2.2.2.2.2.2.2.2.2.2.2.2] :: G) (fun (o236 : Bool) (j237 : Unit) => True) (fun o238 H HK239 => ?_) (fun o236 j237 H _ => ?_)
      · refine J.p rfl rfl rfl rfl (Y.mv rfl) ?_
        refine J.p rfl rfl rfl rfl (Y.nilp rfl) ?_
        refine J.p rfl rfl rfl rfl (Y.fa0 fa103_1 rfl rfl) ?_
        refine J.r rfl rfl rfl rfl (Y.ldC 1 Try.underlying4 rfl rfl rfl rfl) ?_
        refine J.p rfl rfl rfl rfl (Y.mv rfl) ?_
        refine split2 H (fun c240 H => ?_) (fun c240 H => ?_)
        · refine J.as (k := 107) rfl (congrArg Value.bool (c240)) ?_
          refine J.skip rfl rfl ?_
          refine J.skip rfl rfl ?_
          refine J.skip rfl rfl ?_
          refine J.skip rfl rfl ?_
          refine J.skip rfl rfl ?_
          refine J.skip rfl rfl ?_
          refine J.p rfl rfl rfl rfl (Y.pickT rfl rfl) ?_
          refine J.p rfl rfl rfl rfl (Y.mv rfl) ?_
          refine J.skip rfl rfl ?_
          refine J.skip rfl rfl ?_
          refine J.skip rfl rfl ?_
          refine J.p rfl rfl rfl rfl (Y.pickT rfl rfl) ?_
          refine J.nil ?_
          obtain rfl := Option.some.inj H
          exact N.meet (true, ()) ⟨HK239, trivial⟩ (by exact ⟨rfl, rfl, rfl, trivial⟩) (by exact fun w h => (St.pick [0, 2] [_, _, _] h rfl))
        · refine J.as (k := 107) rfl (congrArg Value.bool (nt c240)) ?_
          refine J.p rfl rfl rfl rfl (Y.mv rfl) ?_
          refine J.p rfl rfl rfl rfl (Y.nilp rfl) ?_
          refine J.p rfl rfl rfl rfl (Y.fa0 fa103_0 rfl rfl) ?_
          refine J.r rfl rfl rfl rfl (Y.ldC 1 Try.underlying22 rfl rfl rfl rfl) ?_
          refine J.p rfl rfl rfl rfl (Y.lenS Try.underlying22 rfl) ?_
          refine J.p rfl rfl rfl rfl (Y.bin rfl rfl rfl) ?_
          refine J.p rfl rfl rfl rfl (Y.pickF rfl rfl) ?_
          refine J.p rfl rfl rfl rfl (Y.mv rfl) ?_
          refine split2 H (fun c241 H => ?_) (fun c241 H => ?_)
          · refine J.as (k := 115) rfl (congrArg Value.bool (decide_eq_true c241)) ?_
            refine J.skip rfl rfl ?_
            refine J.skip rfl rfl ?_
            refine J.skip rfl rfl ?_
            refine J.p rfl rfl rfl rfl (Y.pickT rfl rfl) ?_
            refine J.nil ?_
            obtain rfl := Option.some.inj H
            exact N.meet (true, ()) ⟨HK239, trivial⟩ (by exact ⟨rfl, rfl, rfl, trivial⟩) (by exact fun w h => (St.pick [0, 2] [_, _, _] h rfl))
          · refine J.as (k := 115) rfl (congrArg Value.bool (decide_eq_false c241)) ?_
            refine J.r rfl rfl rfl rfl (Y.ldCA (us := [.int .i64 (IntKind.wrap .i64 (bt t5.1 0)), .int .u64 o114.2.2.1, .int .i64 o114.2.2.2.1, .string o114.2.2.2.2.1, .string o114.2.2.2.2.2.1, .int .u64 o114.2.2.2.2.2.2.1, .int .i64 o114.2.2.2.2.2.2.2.1, .int .i64 o114.2.2.2.2.2.2.2.2.1, .int .i64 o114.2.2.2.2.2.2.2.2.2.1, .string o114.2.2.2.2.2.2.2.2.2.2.1, .int .i64 o114.2.2.2.2.2.2.2.2.2.2.2.1, .int .i64 o114.2.2.2.2.2.2.2.2.2.2.2.2.1, .int .i64 o114.2.2.2.2.2.2.2.2.2.2.2.2.2.1, .int .u32 o114.2.2.2.2.2.2.2.2.2.2.2.2.2.2]) 2 Try.underlying36 rfl ti36 rfl rfl rfl rfl) ?_
            refine J.want rfl ?_
            obtain ⟨t242, hC243, H⟩ := bind_some H
            refine J.call (us := []) (cap := []) rfl rfl rfl go46 (fun w hw => by have hcc := check.calls (IntKind.wrap .i64 (bt t5.1 0)) o114.2.2.1 o114.2.2.2.1 o114.2.2.2.2.1 o114.2.2.2.2.2.1 o114.2.2.2.2.2.2.1 o114.2.2.2.2.2.2.2.1 o114.2.2.2.2.2.2.2.2.1 o114.2.2.2.2.2.2.2.2.2.1 o114.2.2.2.2.2.2.2.2.2.2.1 o114.2.2.2.2.2.2.2.2.2.2.2.1 o114.2.2.2.2.2.2.2.2.2.2.2.2.1 o114.2.2.2.2.2.2.2.2.2.2.2.2.2.1 o114.2.2.2.2.2.2.2.2.2.2.2.2.2.2 t242 hC243 w hw; exact hcc) (fun e w1 h1 => ?_)
            obtain ⟨rfl, hw244⟩ := h1
            refine ⟨_, _, rfl, hw244, ?_⟩
            refine J.p rfl rfl rfl rfl (Y.bin rfl rfl rfl) ?_
            refine J.p rfl rfl rfl rfl (Y.pickF rfl rfl) ?_
            refine J.nil ?_
            obtain rfl := Option.some.inj H
            exact N.meet (decide (t242 ≠ 0), ()) ⟨HK239, trivial⟩ (by exact ⟨rfl, rfl, rfl, trivial⟩) (by exact fun w h => (St.pick [0, 2] [_, _, _] h rfl))
      · refine C.at (s' := [(2, .pointer (some ⟨g1, 0, none⟩)), (6, .pointer (some ⟨g12, 0, none⟩)), (119, .bool o236)]) (G' := cells g1 36 [.int .i64 0, .int .u64 0, .int .i64 0, .string ByteArray.empty, .string ByteArray.empty, .int .u64 0, .int .i64 0, .int .i64 0, .int .i64 0, .string ByteArray.empty, .int .i64 0, .int .i64 0, .int .i64 0, .int .u32 0] :: cells g12 36 [.int .i64 (IntKind.wrap .i64 (bt t5.1 0)), .int .u64 o114.2.2.1, .int .i64 o114.2.2.2.1, .string o114.2.2.2.2.1, .string o114.2.2.2.2.2.1, .int .u64 o114.2.2.2.2.2.2.1, .int .i64 o114.2.2.2.2.2.2.2.1, .int .i64 o114.2.2.2.2.2.2.2.2.1, .int .i64 o114.2.2.2.2.2.2.2.2.2.1, .string o114.2.2.2.2.2.2.2.2.2.2.1, .int .i64 o114.2.2.2.2.2.2.2.2.2.2.2.1, .int .i64 o114.2.2.2.2.2.2.2.2.2.2.2.2.1, .int .i64 o114.2.2.2.2.2.2.2.2.2.2.2.2.2.1, .int .u32 o114.2.2.2.2.2.2.2.2.2.2.2.2.2.2] :: G) rfl rfl ?_
        refine split2 H (fun c245 H => ?_) (fun c245 H => ?_)
        · refine C.condT (congrArg (fun b => some (Value.bool b)) (c245)) ?_
          refine C.rs ?_
          refine J.p rfl rfl rfl rfl (Y.bld (cs := [.int .i64 0, .int .u64 0, .int .i64 0, .string ByteArray.empty, .string ByteArray.empty, .int .u64 0, .int .i64 0, .int .i64 0, .int .i64 0, .string ByteArray.empty, .int .i64 0, .int .i64 0, .int .i64 0, .int .u32 0]) rfl pl36 ti36 rfl (by kernel_rfl)) ?_
          refine J.stA (us := [.int .i64 0, .int .u64 0, .int .i64 0, .string ByteArray.empty, .string ByteArray.empty, .int .u64 0, .int .i64 0, .int .i64 0, .int .i64 0, .string ByteArray.empty, .int .i64 0, .int .i64 0, .int .i64 0, .int .u32 0]) (L' := [.int .i64 0, .int .u64 0, .int .i64 0, .string ByteArray.empty, .string ByteArray.empty, .int .u64 0, .int .i64 0, .int .i64 0, .int .i64 0, .string ByteArray.empty, .int .i64 0, .int .i64 0, .int .i64 0, .int .u32 0]) ti36 rfl rfl rfl rfl rfl rfl ?_
          refine J.p rfl rfl rfl rfl (Y.asg rfl) ?_
          refine J.nx ?_
          refine C.ret ?_
          obtain rfl := Option.some.inj H
          refine T.th ?_
          exact ret_okG (rvs := [.cell 2 36, .tmp 3]) (vs := [.agg #[.int .i64 0, .int .u64 0, .int .i64 0, .string ByteArray.empty, .string ByteArray.empty, .int .u64 0, .int .i64 0, .int .i64 0, .int .i64 0, .string ByteArray.empty, .int .i64 0, .int .i64 0, .int .i64 0, .int .u32 0], .bool false]) rfl ⟨RV.cellA (us := [.int .i64 0, .int .u64 0, .int .i64 0, .string ByteArray.empty, .string ByteArray.empty, .int .u64 0, .int .i64 0, .int .i64 0, .int .i64 0, .string ByteArray.empty, .int .i64 0, .int .i64 0, .int .i64 0, .int .u32 0]) 0 Try.underlying36 rfl ti36 rfl rfl rfl rfl, RV.tmp rfl, trivial⟩ (fun w h => ⟨rfl, (St.pick [] [_, _] h rfl)⟩)
        · refine C.condF (congrArg (fun b => some (Value.bool b)) (nt c245)) ?_
          refine C.skip ?_
          refine N.nx ?_
          refine C.rs ?_
          refine J.r rfl rfl rfl rfl (Y.ldCA (us := [.int .i64 (IntKind.wrap .i64 (bt t5.1 0)), .int .u64 o114.2.2.1, .int .i64 o114.2.2.2.1, .string o114.2.2.2.2.1, .string o114.2.2.2.2.2.1, .int .u64 o114.2.2.2.2.2.2.1, .int .i64 o114.2.2.2.2.2.2.2.1, .int .i64 o114.2.2.2.2.2.2.2.2.1, .int .i64 o114.2.2.2.2.2.2.2.2.2.1, .string o114.2.2.2.2.2.2.2.2.2.2.1, .int .i64 o114.2.2.2.2.2.2.2.2.2.2.2.1, .int .i64 o114.2.2.2.2.2.2.2.2.2.2.2.2.1, .int .i64 o114.2.2.2.2.2.2.2.2.2.2.2.2.2.1, .int .u32 o114.2.2.2.2.2.2.2.2.2.2.2.2.2.2]) 1 Try.underlying36 rfl ti36 rfl rfl rfl rfl) ?_
          refine J.stA (us := [.int .i64 (IntKind.wrap .i64 (bt t5.1 0)), .int .u64 o114.2.2.1, .int .i64 o114.2.2.2.1, .string o114.2.2.2.2.1, .string o114.2.2.2.2.2.1, .int .u64 o114.2.2.2.2.2.2.1, .int .i64 o114.2.2.2.2.2.2.2.1, .int .i64 o114.2.2.2.2.2.2.2.2.1, .int .i64 o114.2.2.2.2.2.2.2.2.2.1, .string o114.2.2.2.2.2.2.2.2.2.2.1, .int .i64 o114.2.2.2.2.2.2.2.2.2.2.2.1, .int .i64 o114.2.2.2.2.2.2.2.2.2.2.2.2.1, .int .i64 o114.2.2.2.2.2.2.2.2.2.2.2.2.2.1, .int .u32 o114.2.2.2.2.2.2.2.2.2.2.2.2.2.2]) (L' := [.int .i64 (IntKind.wrap .i64 (bt t5.1 0)), .int .u64 o114.2.2.1, .int .i64 o114.2.2.2.1, .string o114.2.2.2.2.1, .string o114.2.2.2.2.2.1, .int .u64 o114.2.2.2.2.2.2.1, .int .i64 o114.2.2.2.2.2.2.2.1, .int .i64 o114.2.2.2.2.2.2.2.2.1, .int .i64 o114.2.2.2.2.2.2.2.2.2.1, .string o114.2.2.2.2.2.2.2.2.2.2.1, .int .i64 o114.2.2.2.2.2.2.2.2.2.2.2.1, .int .i64 o114.2.2.2.2.2.2.2.2.2.2.2.2.1, .int .i64 o114.2.2.2.2.2.2.2.2.2.2.2.2.2.1, .int .u32 o114.2.2.2.2.2.2.2.2.2.2.2.2.2.2]) ti36 rfl rfl rfl rfl rfl rfl ?_
          refine J.p rfl rfl rfl rfl (Y.asg rfl) ?_
          refine J.nx ?_
          refine C.ret ?_
          obtain rfl := Option.some.inj H
          exact ret_okG (rvs := [.cell 2 36, .tmp 3]) (vs := [.agg #[.int .i64 (IntKind.wrap .i64 (bt t5.1 0)), .int .u64 o114.2.2.1, .int .i64 o114.2.2.2.1, .string o114.2.2.2.2.1, .string o114.2.2.2.2.2.1, .int .u64 o114.2.2.2.2.2.2.1, .int .i64 o114.2.2.2.2.2.2.2.1, .int .i64 o114.2.2.2.2.2.2.2.2.1, .int .i64 o114.2.2.2.2.2.2.2.2.2.1, .string o114.2.2.2.2.2.2.2.2.2.2.1, .int .i64 o114.2.2.2.2.2.2.2.2.2.2.2.1, .int .i64 o114.2.2.2.2.2.2.2.2.2.2.2.2.1, .int .i64 o114.2.2.2.2.2.2.2.2.2.2.2.2.2.1, .int .u32 o114.2.2.2.2.2.2.2.2.2.2.2.2.2.2], .bool true]) rfl ⟨RV.cellA (us := [.int .i64 (IntKind.wrap .i64 (bt t5.1 0)), .int .u64 o114.2.2.1, .int .i64 o114.2.2.2.1, .string o114.2.2.2.2.1, .string o114.2.2.2.2.2.1, .int .u64 o114.2.2.2.2.2.2.1, .int .i64 o114.2.2.2.2.2.2.2.1, .int .i64 o114.2.2.2.2.2.2.2.2.1, .int .i64 o114.2.2.2.2.2.2.2.2.2.1, .string o114.2.2.2.2.2.2.2.2.2.2.1, .int .i64 o114.2.2.2.2.2.2.2.2.2.2.2.1, .int .i64 o114.2.2.2.2.2.2.2.2.2.2.2.2.1, .int .i64 o114.2.2.2.2.2.2.2.2.2.2.2.2.2.1, .int .u32 o114.2.2.2.2.2.2.2.2.2.2.2.2.2.2]) 0 Try.underlying36 rfl ti36 rfl rfl rfl rfl, RV.tmp rfl, trivial⟩ (fun w h => ⟨rfl, (St.pick [] [_, _] h rfl)⟩)
/-! ### salvor/frame.length: function 36 -/
def fLength.l1 (a0 : List Int) : Nat → (Int) → Option ((Int × Int) ⊕ (Unit))
  | 0, _ => none
  | k + 1, i30 => if i30 < 3 then (if (a0.length : Int) ≤ i30 then (some (.inl ((0, 43)))) else (gd ((0 : Int) ≤ i30 ∧ i30 < (a0.length : Int)) (if 127 < (rd a0 i30) then (some (.inl ((0, 42)))) else (fLength.l1 a0 k (IntKind.wrap .i64 (i30 + 1)))))) else (some (.inr ()))
def fLength.f (K : Nat) (a0 : List Int) : Option (Int × Int) := thn (fLength.l1 a0 K 0) fun o15 => (Number.f K a0 3).bind fun t37 => some (IntKind.wrap .i64 t37.1, 0)
theorem fLength.calls {B : Nat} {w0 : World} {G : List HP} (K : Nat) (a0 : List Int) (Aa0 : Option Addr) (ca0 : Nat) (ha0 : RdG B w0 G Aa0 (a0.map (Value.int .u8))) (ka0 : a0.length ≤ ca0) (r : Int × Int) (H : fLength.f K a0 = some r) (w : World) (hw : St B w0 (G) w) :
    Calls Try.prog 36 [.slice Aa0 a0.length ca0].toArray w (fun e w' => e = .returned (.tuple #[.int .i64 r.1, .int .i64 r.2]) ∧ St B w0 (G) w') := by
  unfold fLength.f at H
  refine calls_of (n := 29) (s := [(0, .slice Aa0 a0.length ca0)]) Try.func36 rfl rfl rfl rfl ?_ hw
  refine C.rs ?_
  refine J.p rfl rfl rfl rfl (Y.asg rfl) ?_
  refine J.p rfl rfl rfl rfl (Y.asg rfl) ?_
  refine J.nx ?_
  refine C.seq ?_
  refine C.rs ?_
  refine J.p rfl rfl rfl rfl (Y.mv rfl) ?_
  refine J.nx ?_
  refine C.joinNR H (fun (o15 : Unit) (j16 : Unit) => [(0, .slice Aa0 a0.length ca0)]) (fun (o15 : Unit) (j16 : Unit) => G) (fun (o15 : Unit) (j16 : Unit) => True) (fun o13 H HK14 => ?_) (fun o15 j16 H _ => ?_)
  · refine C.blk ?_
    refine C.loop (fun (i : Nat × (Int) × (Unit)) => [(0, .slice Aa0 a0.length ca0), (7, .int .i64 i.2.1)]) (fun (i : Nat × (Int) × (Unit)) => G) (fun (i : Nat × (Int) × (Unit)) => fLength.l1 a0 i.1 i.2.1 = some o13 ∧ (True)) (fun i => i.1) (K, 0, ()) ⟨H, trivial⟩ (by exact ⟨rfl, rfl, trivial⟩) (by exact fun w h => h) ?_
    rintro ⟨k36, i30, j31⟩ ⟨H, _⟩
    replace H : fLength.l1 a0 k36 i30 = some o13 := H
    obtain ⟨k29, rfl⟩ : ∃ m, k36 = m + 1 := by cases k36 with | zero => exact absurd H (by simp [fLength.l1]) | succ m => exact ⟨m, rfl⟩
    rw [fLength.l1] at H
    refine C.at (s' := [(0, .slice Aa0 a0.length ca0), (7, .int .i64 i30)]) (G' := G) rfl rfl ?_
    refine C.rs ?_
    refine J.p rfl rfl rfl rfl (Y.bin rfl rfl rfl) ?_
    refine J.nx ?_
    refine C.seq ?_
    refine split2 H (fun c32 H => ?_) (fun c32 H => ?_)
    · refine C.condT (congrArg (fun b => some (Value.bool b)) (decide_eq_true c32)) ?_
      refine C.skip ?_
      refine N.nx ?_
      refine C.seq ?_
      refine C.blk ?_
      refine C.rs ?_
      refine J.p rfl rfl rfl rfl (Y.mv rfl) ?_
      refine J.p rfl rfl rfl rfl (Y.asg rfl) ?_
      refine J.nx ?_
      refine C.blk ?_
      refine C.rs ?_
      refine J.p rfl rfl rfl rfl (Y.mv rfl) ?_
      refine J.p rfl rfl rfl rfl (Y.mv rfl) ?_
      refine J.p rfl rfl rfl rfl (Y.lenS Try.underlying22 rfl) ?_
      refine J.p rfl rfl rfl rfl (Y.bin rfl rfl rfl) ?_
      refine J.p rfl rfl rfl rfl (Y.asg rfl) ?_
      refine J.nx ?_
      refine split2 H (fun c33 H => ?_) (fun c33 H => ?_)
      · refine C.condT (congrArg (fun b => some (Value.bool b)) (decide_eq_true c33)) ?_
        refine C.rs ?_
        refine J.p rfl rfl rfl rfl (Y.asg rfl) ?_
        refine J.p rfl rfl rfl rfl (Y.asg rfl) ?_
        refine J.nx ?_
        refine C.ret ?_
        obtain rfl := Option.some.inj H
        obtain rfl := fin_inl HK14
        refine T.ib ?_
        refine T.ib ?_
        refine T.th ?_
        refine T.th ?_
        refine T.ib ?_
        refine T.th ?_
        refine T.th ?_
        exact ret_ok (ks := [2, 3]) rfl rfl (fun w h => ⟨rfl, h⟩)
      · refine C.condF (congrArg (fun b => some (Value.bool b)) (decide_eq_false c33)) ?_
        refine C.rs ?_
        refine J.p rfl rfl rfl rfl (Y.mv rfl) ?_
        refine J.p rfl rfl rfl rfl (Y.mv rfl) ?_
        obtain ⟨p34, H⟩ := gd_some H
        refine J.el rfl rfl rfl Try.underlying22 ti5 Try.underlying5 rfl rfl rfl p34 ha0 ?_
        refine J.p rfl rfl rfl rfl (Y.bin rfl rfl rfl) ?_
        refine J.p rfl rfl rfl rfl (Y.asg rfl) ?_
        refine J.nx ?_
        refine split2 H (fun c35 H => ?_) (fun c35 H => ?_)
        · refine C.condT (congrArg (fun b => some (Value.bool b)) (decide_eq_true c35)) ?_
          refine C.rs ?_
          refine J.p rfl rfl rfl rfl (Y.asg rfl) ?_
          refine J.p rfl rfl rfl rfl (Y.asg rfl) ?_
          refine J.nx ?_
          refine C.ret ?_
          obtain rfl := Option.some.inj H
          obtain rfl := fin_inl HK14
          refine T.ib ?_
          refine T.ib ?_
          refine T.th ?_
          refine T.th ?_
          refine T.ib ?_
          refine T.th ?_
          refine T.th ?_
          exact ret_ok (ks := [2, 3]) rfl rfl (fun w h => ⟨rfl, h⟩)
        · refine C.condF (congrArg (fun b => some (Value.bool b)) (decide_eq_false c35)) ?_
          refine C.skip ?_
          refine N.ib ?_
          refine N.ib ?_
          refine N.nx ?_
          refine C.reg ?_
          refine J.p rfl rfl rfl rfl (Y.bin rfl rfl rfl) ?_
          refine J.p rfl rfl rfl rfl (Y.mv rfl) ?_
          refine J.nil ?_
          exact N.again (k29, IntKind.wrap .i64 (i30 + 1), ()) ⟨H, trivial⟩ (Nat.lt_succ_self _) (by exact ⟨rfl, rfl, trivial⟩) (by exact fun w h => h)
    · refine C.condF (congrArg (fun b => some (Value.bool b)) (decide_eq_false c32)) ?_
      refine C.exit ?_
      refine X.th ?_
      refine X.th ?_
      refine X.hit ?_
      obtain rfl := Option.some.inj H
      exact N.meet ((), ()) ⟨fin_inr HK14, trivial⟩ (by exact ⟨rfl, trivial⟩) (by exact fun w h => h)
  · refine N.at (s' := [(0, .slice Aa0 a0.length ca0)]) (G' := G) rfl rfl ?_
    refine N.nx ?_
    refine C.rs ?_
    refine J.p rfl rfl rfl rfl (Y.mv rfl) ?_
    obtain ⟨t37, hC38, H⟩ := bind_some H
    refine J.call (us := []) (cap := []) rfl rfl rfl go32 (fun w hw => by have hcc := Number.calls K a0 3 Aa0 ca0 ha0 ka0 t37 hC38 w hw; exact hcc) (fun e w1 h1 => ?_)
    obtain ⟨rfl, hw39⟩ := h1
    refine ⟨_, _, rfl, hw39, ?_⟩
    refine J.p rfl rfl rfl rfl (Y.mv rfl) ?_
    refine J.p rfl rfl rfl rfl (Y.ext rfl rfl) ?_
    refine J.p rfl rfl rfl rfl (Y.ext rfl rfl) ?_
    refine J.p rfl rfl rfl rfl (Y.asg rfl) ?_
    refine J.p rfl rfl rfl rfl (Y.asg rfl) ?_
    refine J.nx ?_
    refine C.rs ?_
    refine J.p rfl rfl rfl rfl (Y.mv rfl) ?_
    refine J.p rfl rfl rfl rfl (Y.conv Try.underlying25 Try.underlying3 rfl) ?_
    refine J.p rfl rfl rfl rfl (Y.asg rfl) ?_
    refine J.p rfl rfl rfl rfl (Y.asg rfl) ?_
    refine J.nx ?_
    refine C.ret ?_
    obtain rfl := Option.some.inj H
    exact ret_ok (ks := [2, 3]) rfl rfl (fun w h => ⟨rfl, h⟩)
/-! ### salvor/frame.Decode: function 15 -/
def fDecode.f (K : Nat) (a0 : List Int) (a1 : Int) : Option (Int × Int × Int × ByteArray × ByteArray × Int × Int × Int × Int × ByteArray × Int × Int × Int × Int × Int × Int) := (if a1 < 0 then (some true) else (some (decide ((a0.length : Int) ≤ a1)))).bind fun o4 => if o4 = true then (some (0, 0, 0, ByteArray.empty, ByteArray.empty, 0, 0, 0, 0, ByteArray.empty, 0, 0, 0, 0, 0, 40)) else (gd ((0 : Int) ≤ a1 ∧ a1 < (a0.length : Int)) (if (rd a0 a1) ≠ 167 then (some (0, 0, 0, ByteArray.empty, ByteArray.empty, 0, 0, 0, 0, ByteArray.empty, 0, 0, 0, 0, 0, 41)) else (gd ((0 : Int) ≤ (IntKind.wrap .i64 (a1 + 1)) ∧ ((Int.toNat (IntKind.wrap .i64 (a1 + 1))) ≤ a0.length ∧ a0.length ≤ a0.length)) ((fLength.f K ((a0.take a0.length).drop (Int.toNat (IntKind.wrap .i64 (a1 + 1))))).bind fun t13 => if t13.2 ≠ 0 then (some (0, 0, 0, ByteArray.empty, ByteArray.empty, 0, 0, 0, 0, ByteArray.empty, 0, 0, 0, 0, 0, t13.2)) else (if (a0.length : Int) < (IntKind.wrap .i64 ((IntKind.wrap .i64 ((IntKind.wrap .i64 (a1 + 4)) + t13.1)) + 5)) then (some (0, 0, 0, ByteArray.empty, ByteArray.empty, 0, 0, 0, 0, ByteArray.empty, 0, 0, 0, 0, 0, 43)) else (gd ((0 : Int) ≤ (IntKind.wrap .i64 (a1 + 4)) ∧ (0 : Int) ≤ (IntKind.wrap .i64 ((IntKind.wrap .i64 (a1 + 4)) + t13.1)) ∧ ((Int.toNat (IntKind.wrap .i64 (a1 + 4))) ≤ (Int.toNat (IntKind.wrap .i64 ((IntKind.wrap .i64 (a1 + 4)) + t13.1))) ∧ (Int.toNat (IntKind.wrap .i64 ((IntKind.wrap .i64 (a1 + 4)) + t13.1))) ≤ a0.length)) ((Next.f ((a0.take (Int.toNat (IntKind.wrap .i64 ((IntKind.wrap .i64 (a1 + 4)) + t13.1)))).drop (Int.toNat (IntKind.wrap .i64 (a1 + 4)))) 0).bind fun t18 => if t18 < t13.1 then (some (0, 0, 0, ByteArray.empty, ByteArray.empty, 0, 0, 0, 0, ByteArray.empty, 0, 0, 0, 0, 0, 45)) else (gd ((0 : Int) ≤ (IntKind.wrap .i64 ((IntKind.wrap .i64 (a1 + 4)) + t13.1)) ∧ (0 : Int) ≤ (IntKind.wrap .i64 ((IntKind.wrap .i64 ((IntKind.wrap .i64 (a1 + 4)) + t13.1)) + 5)) ∧ ((Int.toNat (IntKind.wrap .i64 ((IntKind.wrap .i64 (a1 + 4)) + t13.1))) ≤ (Int.toNat (IntKind.wrap .i64 ((IntKind.wrap .i64 ((IntKind.wrap .i64 (a1 + 4)) + t13.1)) + 5))) ∧ (Int.toNat (IntKind.wrap .i64 ((IntKind.wrap .i64 ((IntKind.wrap .i64 (a1 + 4)) + t13.1)) + 5))) ≤ a0.length)) ((Number.f K ((a0.take (Int.toNat (IntKind.wrap .i64 ((IntKind.wrap .i64 ((IntKind.wrap .i64 (a1 + 4)) + t13.1)) + 5)))).drop (Int.toNat (IntKind.wrap .i64 ((IntKind.wrap .i64 (a1 + 4)) + t13.1)))) 5).bind fun t22 => (if t22.2 ≠ 0 then (some (((a0.take (Int.toNat (IntKind.wrap .i64 ((IntKind.wrap .i64 (a1 + 4)) + t13.1)))).drop (Int.toNat (IntKind.wrap .i64 (a1 + 4)))), true)) else (gd ((0 : Int) ≤ (IntKind.wrap .i64 (a1 + 1)) ∧ (0 : Int) ≤ (IntKind.wrap .i64 ((IntKind.wrap .i64 (a1 + 4)) + t13.1)) ∧ ((Int.toNat (IntKind.wrap .i64 (a1 + 1))) ≤ (Int.toNat (IntKind.wrap .i64 ((IntKind.wrap .i64 (a1 + 4)) + t13.1))) ∧ (Int.toNat (IntKind.wrap .i64 ((IntKind.wrap .i64 (a1 + 4)) + t13.1))) ≤ a0.length)) ((Sum.f K [((a0.take (Int.toNat (IntKind.wrap .i64 ((IntKind.wrap .i64 (a1 + 4)) + t13.1)))).drop (Int.toNat (IntKind.wrap .i64 (a1 + 1))))]).bind fun t40 => some (((a0.take (Int.toNat (IntKind.wrap .i64 ((IntKind.wrap .i64 (a1 + 4)) + t13.1)))).drop (Int.toNat (IntKind.wrap .i64 (a1 + 4)))), decide (t22.1 ≠ (IntKind.wrap .u64 t40)))))).bind fun o31 => if o31.2 = true then (some (0, 0, 0, ByteArray.empty, ByteArray.empty, 0, 0, 0, 0, ByteArray.empty, 0, 0, 0, 0, 0, 44)) else ((Open.f K o31.1).bind fun t44 => if t44.2.1 ≠ 0 then (some (0, 0, 0, ByteArray.empty, ByteArray.empty, 0, 0, 0, 0, ByteArray.empty, 0, 0, 0, 0, 0, 45)) else ((parse.f K t44.1).bind fun t51 => if t51.2.2.2.2.2.2.2.2.2.2.2.2.2.2 = true then (some (t51.1, t51.2.1, t51.2.2.1, t51.2.2.2.1, t51.2.2.2.2.1, t51.2.2.2.2.2.1, t51.2.2.2.2.2.2.1, t51.2.2.2.2.2.2.2.1, t51.2.2.2.2.2.2.2.2.1, t51.2.2.2.2.2.2.2.2.2.1, t51.2.2.2.2.2.2.2.2.2.2.1, t51.2.2.2.2.2.2.2.2.2.2.2.1, t51.2.2.2.2.2.2.2.2.2.2.2.2.1, t51.2.2.2.2.2.2.2.2.2.2.2.2.2.1, IntKind.wrap .i64 ((IntKind.wrap .i64 (4 + t13.1)) + 5), 0)) else (some (0, 0, 0, ByteArray.empty, ByteArray.empty, 0, 0, 0, 0, ByteArray.empty, 0, 0, 0, 0, 0, 45)))))))))))))
theorem fDecode.calls {B : Nat} {w0 : World} {G : List HP} (K : Nat) (a0 : List Int) (a1 : Int) (Aa0 : Option Addr) (ca0 : Nat) (ha0 : RdG B w0 G Aa0 (a0.map (Value.int .u8))) (ka0 : a0.length ≤ ca0) (r : Int × Int × Int × ByteArray × ByteArray × Int × Int × Int × Int × ByteArray × Int × Int × Int × Int × Int × Int) (H : fDecode.f K a0 a1 = some r) (w : World) (hw : St B w0 (G) w) :
    Calls Try.prog 15 [.slice Aa0 a0.length ca0, .int .i64 a1].toArray w (fun e w' => e = .returned (.tuple #[.agg #[.int .i64 r.1, .int .u64 r.2.1, .int .i64 r.2.2.1, .string r.2.2.2.1, .string r.2.2.2.2.1, .int .u64 r.2.2.2.2.2.1, .int .i64 r.2.2.2.2.2.2.1, .int .i64 r.2.2.2.2.2.2.2.1, .int .i64 r.2.2.2.2.2.2.2.2.1, .string r.2.2.2.2.2.2.2.2.2.1, .int .i64 r.2.2.2.2.2.2.2.2.2.2.1, .int .i64 r.2.2.2.2.2.2.2.2.2.2.2.1, .int .i64 r.2.2.2.2.2.2.2.2.2.2.2.2.1, .int .u32 r.2.2.2.2.2.2.2.2.2.2.2.2.2.1], .int .i64 r.2.2.2.2.2.2.2.2.2.2.2.2.2.2.1, .int .i64 r.2.2.2.2.2.2.2.2.2.2.2.2.2.2.2]) ∧ St B w0 (G) w') := by
  unfold fDecode.f at H
  refine calls_of (n := 112) (s := [(0, .slice Aa0 a0.length ca0), (1, .int .i64 a1)]) Try.func15 rfl rfl rfl rfl ?_ hw
  refine C.rs ?_
  refine J.alloc (L := [.int .i64 0, .int .u64 0, .int .i64 0, .string ByteArray.empty, .string ByteArray.empty, .int .u64 0, .int .i64 0, .int .i64 0, .int .i64 0, .string ByteArray.empty, .int .i64 0, .int .i64 0, .int .i64 0, .int .u32 0]) rfl ti36 rfl (fun g1 => ?_)
  refine J.p rfl rfl rfl rfl (Y.asg rfl) ?_
  refine J.p rfl rfl rfl rfl (Y.asg rfl) ?_
  refine J.nx ?_
  refine C.seq ?_
  refine C.blk ?_
  refine C.rs ?_
  refine J.joinB H (fun (o4 : Bool) (j5 : Unit) => [(0, .slice Aa0 a0.length ca0), (1, .int .i64 a1), (4, .pointer (some ⟨g1, 0, none⟩)), (17, .bool o4)]) (fun (o4 : Bool) (j5 : Unit) => cells g1 36 [.int .i64 0, .int .u64 0, .int .i64 0, .string ByteArray.empty, .string ByteArray.empty, .int .u64 0, .int .i64 0, .int .i64 0, .int .i64 0, .string ByteArray.empty, .int .i64 0, .int .i64 0, .int .i64 0, .int .u32 0] :: G) (fun (o4 : Bool) (j5 : Unit) => True) (fun o6 H HK7 => ?_) (fun o4 j5 H _ => ?_)
  · refine J.p rfl rfl rfl rfl (Y.mv rfl) ?_
    refine J.p rfl rfl rfl rfl (Y.bin rfl rfl rfl) ?_
    refine J.p rfl rfl rfl rfl (Y.mv rfl) ?_
    refine split2 H (fun c8 H => ?_) (fun c8 H => ?_)
    · refine J.as (k := 20) rfl (congrArg Value.bool (decide_eq_true c8)) ?_
      refine J.skip rfl rfl ?_
      refine J.skip rfl rfl ?_
      refine J.skip rfl rfl ?_
      refine J.skip rfl rfl ?_
      refine J.p rfl rfl rfl rfl (Y.pickT rfl rfl) ?_
      refine J.p rfl rfl rfl rfl (Y.asg rfl) ?_
      refine J.nil ?_
      obtain rfl := Option.some.inj H
      exact N.meet (true, ()) ⟨HK7, trivial⟩ (by exact ⟨rfl, rfl, rfl, rfl, trivial⟩) (by exact fun w h => h)
    · refine J.as (k := 20) rfl (congrArg Value.bool (decide_eq_false c8)) ?_
      refine J.p rfl rfl rfl rfl (Y.mv rfl) ?_
      refine J.p rfl rfl rfl rfl (Y.mv rfl) ?_
      refine J.p rfl rfl rfl rfl (Y.lenS Try.underlying22 rfl) ?_
      refine J.p rfl rfl rfl rfl (Y.bin rfl rfl rfl) ?_
      refine J.p rfl rfl rfl rfl (Y.pickF rfl rfl) ?_
      refine J.p rfl rfl rfl rfl (Y.asg rfl) ?_
      refine J.nil ?_
      obtain rfl := Option.some.inj H
      exact N.meet (decide ((a0.length : Int) ≤ a1), ()) ⟨HK7, trivial⟩ (by exact ⟨rfl, rfl, rfl, rfl, trivial⟩) (by exact fun w h => h)
  · refine C.at (s' := [(0, .slice Aa0 a0.length ca0), (1, .int .i64 a1), (4, .pointer (some ⟨g1, 0, none⟩)), (17, .bool o4)]) (G' := cells g1 36 [.int .i64 0, .int .u64 0, .int .i64 0, .string ByteArray.empty, .string ByteArray.empty, .int .u64 0, .int .i64 0, .int .i64 0, .int .i64 0, .string ByteArray.empty, .int .i64 0, .int .i64 0, .int .i64 0, .int .u32 0] :: G) rfl rfl ?_
    refine split2 H (fun c9 H => ?_) (fun c9 H => ?_)
    · refine C.condT (congrArg (fun b => some (Value.bool b)) (c9)) ?_
      refine C.rs ?_
      refine J.p rfl rfl rfl rfl (Y.bld (cs := [.int .i64 0, .int .u64 0, .int .i64 0, .string ByteArray.empty, .string ByteArray.empty, .int .u64 0, .int .i64 0, .int .i64 0, .int .i64 0, .string ByteArray.empty, .int .i64 0, .int .i64 0, .int .i64 0, .int .u32 0]) rfl pl36 ti36 rfl (by kernel_rfl)) ?_
      refine J.stA (us := [.int .i64 0, .int .u64 0, .int .i64 0, .string ByteArray.empty, .string ByteArray.empty, .int .u64 0, .int .i64 0, .int .i64 0, .int .i64 0, .string ByteArray.empty, .int .i64 0, .int .i64 0, .int .i64 0, .int .u32 0]) (L' := [.int .i64 0, .int .u64 0, .int .i64 0, .string ByteArray.empty, .string ByteArray.empty, .int .u64 0, .int .i64 0, .int .i64 0, .int .i64 0, .string ByteArray.empty, .int .i64 0, .int .i64 0, .int .i64 0, .int .u32 0]) ti36 rfl rfl rfl rfl rfl rfl ?_
      refine J.p rfl rfl rfl rfl (Y.asg rfl) ?_
      refine J.p rfl rfl rfl rfl (Y.asg rfl) ?_
      refine J.nx ?_
      refine C.ret ?_
      obtain rfl := Option.some.inj H
      refine T.ib ?_
      refine T.th ?_
      exact ret_okG (rvs := [.cell 4 36, .tmp 5, .tmp 6]) (vs := [.agg #[.int .i64 0, .int .u64 0, .int .i64 0, .string ByteArray.empty, .string ByteArray.empty, .int .u64 0, .int .i64 0, .int .i64 0, .int .i64 0, .string ByteArray.empty, .int .i64 0, .int .i64 0, .int .i64 0, .int .u32 0], .int .i64 0, .int .i64 40]) rfl ⟨RV.cellA (us := [.int .i64 0, .int .u64 0, .int .i64 0, .string ByteArray.empty, .string ByteArray.empty, .int .u64 0, .int .i64 0, .int .i64 0, .int .i64 0, .string ByteArray.empty, .int .i64 0, .int .i64 0, .int .i64 0, .int .u32 0]) 0 Try.underlying36 rfl ti36 rfl rfl rfl rfl, RV.tmp rfl, RV.tmp rfl, trivial⟩ (fun w h => ⟨rfl, (St.pick [] [_] h rfl)⟩)
    · refine C.condF (congrArg (fun b => some (Value.bool b)) (nt c9)) ?_
      refine C.rs ?_
      refine J.p rfl rfl rfl rfl (Y.mv rfl) ?_
      refine J.p rfl rfl rfl rfl (Y.mv rfl) ?_
      obtain ⟨p10, H⟩ := gd_some H
      refine J.el rfl rfl rfl Try.underlying22 ti5 Try.underlying5 rfl rfl rfl p10 (ha0.suf [_] rfl) ?_
      refine J.p rfl rfl rfl rfl (Y.bin rfl rfl rfl) ?_
      refine J.p rfl rfl rfl rfl (Y.asg rfl) ?_
      refine J.nx ?_
      refine split2 H (fun c11 H => ?_) (fun c11 H => ?_)
      · refine C.condT (congrArg (fun b => some (Value.bool b)) (decide_eq_true c11)) ?_
        refine C.rs ?_
        refine J.p rfl rfl rfl rfl (Y.bld (cs := [.int .i64 0, .int .u64 0, .int .i64 0, .string ByteArray.empty, .string ByteArray.empty, .int .u64 0, .int .i64 0, .int .i64 0, .int .i64 0, .string ByteArray.empty, .int .i64 0, .int .i64 0, .int .i64 0, .int .u32 0]) rfl pl36 ti36 rfl (by kernel_rfl)) ?_
        refine J.stA (us := [.int .i64 0, .int .u64 0, .int .i64 0, .string ByteArray.empty, .string ByteArray.empty, .int .u64 0, .int .i64 0, .int .i64 0, .int .i64 0, .string ByteArray.empty, .int .i64 0, .int .i64 0, .int .i64 0, .int .u32 0]) (L' := [.int .i64 0, .int .u64 0, .int .i64 0, .string ByteArray.empty, .string ByteArray.empty, .int .u64 0, .int .i64 0, .int .i64 0, .int .i64 0, .string ByteArray.empty, .int .i64 0, .int .i64 0, .int .i64 0, .int .u32 0]) ti36 rfl rfl rfl rfl rfl rfl ?_
        refine J.p rfl rfl rfl rfl (Y.asg rfl) ?_
        refine J.p rfl rfl rfl rfl (Y.asg rfl) ?_
        refine J.nx ?_
        refine C.ret ?_
        obtain rfl := Option.some.inj H
        refine T.ib ?_
        refine T.th ?_
        exact ret_okG (rvs := [.cell 4 36, .tmp 5, .tmp 6]) (vs := [.agg #[.int .i64 0, .int .u64 0, .int .i64 0, .string ByteArray.empty, .string ByteArray.empty, .int .u64 0, .int .i64 0, .int .i64 0, .int .i64 0, .string ByteArray.empty, .int .i64 0, .int .i64 0, .int .i64 0, .int .u32 0], .int .i64 0, .int .i64 41]) rfl ⟨RV.cellA (us := [.int .i64 0, .int .u64 0, .int .i64 0, .string ByteArray.empty, .string ByteArray.empty, .int .u64 0, .int .i64 0, .int .i64 0, .int .i64 0, .string ByteArray.empty, .int .i64 0, .int .i64 0, .int .i64 0, .int .u32 0]) 0 Try.underlying36 rfl ti36 rfl rfl rfl rfl, RV.tmp rfl, RV.tmp rfl, trivial⟩ (fun w h => ⟨rfl, (St.pick [] [_] h rfl)⟩)
      · refine C.condF (congrArg (fun b => some (Value.bool b)) (decide_eq_false c11)) ?_
        refine C.skip ?_
        refine N.ib ?_
        refine N.nx ?_
        refine C.rs ?_
        refine J.p rfl rfl rfl rfl (Y.mv rfl) ?_
        refine J.p rfl rfl rfl rfl (Y.mv rfl) ?_
        refine J.p rfl rfl rfl rfl (Y.bin rfl rfl rfl) ?_
        obtain ⟨p12, H⟩ := gd_some H
        refine J.p rfl rfl rfl rfl (Y.slcL Try.underlying22 ti5 rfl (bnd.yes rfl p12.1) bnd.no p12.2 ka0) ?_
        obtain ⟨t13, hC14, H⟩ := bind_some H
        refine J.call (us := []) (cap := []) rfl rfl rfl go36 (fun w hw => by have hcc := fLength.calls K ((a0.take a0.length).drop (Int.toNat (IntKind.wrap .i64 (a1 + 1)))) (subA 1 Aa0 ca0 (Int.toNat (IntKind.wrap .i64 (a1 + 1)))) (ca0 - (Int.toNat (IntKind.wrap .i64 (a1 + 1)))) (RdG.subL (l := (Int.toNat (IntKind.wrap .i64 (a1 + 1)))) (h := a0.length) (ha0.suf [_] rfl) ka0) (hc_sub ka0) t13 hC14 w hw; exact hcc) (fun e w1 h1 => ?_)
        obtain ⟨rfl, hw60⟩ := h1
        refine ⟨_, _, rfl, hw60, ?_⟩
        refine J.p rfl rfl rfl rfl (Y.mv rfl) ?_
        refine J.p rfl rfl rfl rfl (Y.ext rfl rfl) ?_
        refine J.p rfl rfl rfl rfl (Y.ext rfl rfl) ?_
        refine J.p rfl rfl rfl rfl (Y.asg rfl) ?_
        refine J.p rfl rfl rfl rfl (Y.asg rfl) ?_
        refine J.nx ?_
        refine C.seq ?_
        refine C.rs ?_
        refine J.p rfl rfl rfl rfl (Y.mv rfl) ?_
        refine J.p rfl rfl rfl rfl (Y.bin rfl rfl rfl) ?_
        refine J.nx ?_
        refine split2 H (fun c15 H => ?_) (fun c15 H => ?_)
        · refine C.condT (congrArg (fun b => some (Value.bool b)) (decide_eq_true c15)) ?_
          refine C.rs ?_
          refine J.p rfl rfl rfl rfl (Y.bld (cs := [.int .i64 0, .int .u64 0, .int .i64 0, .string ByteArray.empty, .string ByteArray.empty, .int .u64 0, .int .i64 0, .int .i64 0, .int .i64 0, .string ByteArray.empty, .int .i64 0, .int .i64 0, .int .i64 0, .int .u32 0]) rfl pl36 ti36 rfl (by kernel_rfl)) ?_
          refine J.p rfl rfl rfl rfl (Y.mv rfl) ?_
          refine J.stA (us := [.int .i64 0, .int .u64 0, .int .i64 0, .string ByteArray.empty, .string ByteArray.empty, .int .u64 0, .int .i64 0, .int .i64 0, .int .i64 0, .string ByteArray.empty, .int .i64 0, .int .i64 0, .int .i64 0, .int .u32 0]) (L' := [.int .i64 0, .int .u64 0, .int .i64 0, .string ByteArray.empty, .string ByteArray.empty, .int .u64 0, .int .i64 0, .int .i64 0, .int .i64 0, .string ByteArray.empty, .int .i64 0, .int .i64 0, .int .i64 0, .int .u32 0]) ti36 rfl rfl rfl rfl rfl rfl ?_
          refine J.p rfl rfl rfl rfl (Y.asg rfl) ?_
          refine J.p rfl rfl rfl rfl (Y.asg rfl) ?_
          refine J.nx ?_
          refine C.ret ?_
          obtain rfl := Option.some.inj H
          refine T.th ?_
          exact ret_okG (rvs := [.cell 4 36, .tmp 5, .tmp 6]) (vs := [.agg #[.int .i64 0, .int .u64 0, .int .i64 0, .string ByteArray.empty, .string ByteArray.empty, .int .u64 0, .int .i64 0, .int .i64 0, .int .i64 0, .string ByteArray.empty, .int .i64 0, .int .i64 0, .int .i64 0, .int .u32 0], .int .i64 0, .int .i64 t13.2]) rfl ⟨RV.cellA (us := [.int .i64 0, .int .u64 0, .int .i64 0, .string ByteArray.empty, .string ByteArray.empty, .int .u64 0, .int .i64 0, .int .i64 0, .int .i64 0, .string ByteArray.empty, .int .i64 0, .int .i64 0, .int .i64 0, .int .u32 0]) 0 Try.underlying36 rfl ti36 rfl rfl rfl rfl, RV.tmp rfl, RV.tmp rfl, trivial⟩ (fun w h => ⟨rfl, (St.pick [] [_] h rfl)⟩)
        · refine C.condF (congrArg (fun b => some (Value.bool b)) (decide_eq_false c15)) ?_
          refine C.skip ?_
          refine N.nx ?_
          refine C.rs ?_
          refine J.p rfl rfl rfl rfl (Y.mv rfl) ?_
          refine J.p rfl rfl rfl rfl (Y.bin rfl rfl rfl) ?_
          refine J.p rfl rfl rfl rfl (Y.mv rfl) ?_
          refine J.p rfl rfl rfl rfl (Y.bin rfl rfl rfl) ?_
          refine J.p rfl rfl rfl rfl (Y.mv rfl) ?_
          refine J.p rfl rfl rfl rfl (Y.bin rfl rfl rfl) ?_
          refine J.p rfl rfl rfl rfl (Y.asg rfl) ?_
          refine J.p rfl rfl rfl rfl (Y.asg rfl) ?_
          refine J.nx ?_
          refine C.seq ?_
          refine C.rs ?_
          refine J.p rfl rfl rfl rfl (Y.mv rfl) ?_
          refine J.p rfl rfl rfl rfl (Y.lenS Try.underlying22 rfl) ?_
          refine J.p rfl rfl rfl rfl (Y.mv rfl) ?_
          refine J.p rfl rfl rfl rfl (Y.bin rfl rfl rfl) ?_
          refine J.p rfl rfl rfl rfl (Y.bin rfl rfl rfl) ?_
          refine J.nx ?_
          refine split2 H (fun c16 H => ?_) (fun c16 H => ?_)
          · refine C.condT (congrArg (fun b => some (Value.bool b)) (decide_eq_true c16)) ?_
            refine C.rs ?_
            refine J.p rfl rfl rfl rfl (Y.bld (cs := [.int .i64 0, .int .u64 0, .int .i64 0, .string ByteArray.empty, .string ByteArray.empty, .int .u64 0, .int .i64 0, .int .i64 0, .int .i64 0, .string ByteArray.empty, .int .i64 0, .int .i64 0, .int .i64 0, .int .u32 0]) rfl pl36 ti36 rfl (by kernel_rfl)) ?_
            refine J.stA (us := [.int .i64 0, .int .u64 0, .int .i64 0, .string ByteArray.empty, .string ByteArray.empty, .int .u64 0, .int .i64 0, .int .i64 0, .int .i64 0, .string ByteArray.empty, .int .i64 0, .int .i64 0, .int .i64 0, .int .u32 0]) (L' := [.int .i64 0, .int .u64 0, .int .i64 0, .string ByteArray.empty, .string ByteArray.empty, .int .u64 0, .int .i64 0, .int .i64 0, .int .i64 0, .string ByteArray.empty, .int .i64 0, .int .i64 0, .int .i64 0, .int .u32 0]) ti36 rfl rfl rfl rfl rfl rfl ?_
            refine J.p rfl rfl rfl rfl (Y.asg rfl) ?_
            refine J.p rfl rfl rfl rfl (Y.asg rfl) ?_
            refine J.nx ?_
            refine C.ret ?_
            obtain rfl := Option.some.inj H
            refine T.th ?_
            exact ret_okG (rvs := [.cell 4 36, .tmp 5, .tmp 6]) (vs := [.agg #[.int .i64 0, .int .u64 0, .int .i64 0, .string ByteArray.empty, .string ByteArray.empty, .int .u64 0, .int .i64 0, .int .i64 0, .int .i64 0, .string ByteArray.empty, .int .i64 0, .int .i64 0, .int .i64 0, .int .u32 0], .int .i64 0, .int .i64 43]) rfl ⟨RV.cellA (us := [.int .i64 0, .int .u64 0, .int .i64 0, .string ByteArray.empty, .string ByteArray.empty, .int .u64 0, .int .i64 0, .int .i64 0, .int .i64 0, .string ByteArray.empty, .int .i64 0, .int .i64 0, .int .i64 0, .int .u32 0]) 0 Try.underlying36 rfl ti36 rfl rfl rfl rfl, RV.tmp rfl, RV.tmp rfl, trivial⟩ (fun w h => ⟨rfl, (St.pick [] [_] h rfl)⟩)
          · refine C.condF (congrArg (fun b => some (Value.bool b)) (decide_eq_false c16)) ?_
            refine C.skip ?_
            refine N.nx ?_
            refine C.rs ?_
            refine J.p rfl rfl rfl rfl (Y.mv rfl) ?_
            refine J.p rfl rfl rfl rfl (Y.mv rfl) ?_
            refine J.p rfl rfl rfl rfl (Y.mv rfl) ?_
            obtain ⟨p17, H⟩ := gd_some H
            refine J.p rfl rfl rfl rfl (Y.slcL Try.underlying22 ti5 rfl (bnd.yes rfl p17.1) (bnd.yes rfl p17.2.1) p17.2.2 ka0) ?_
            refine J.p rfl rfl rfl rfl (Y.asg rfl) ?_
            refine J.nx ?_
            refine C.seq ?_
            refine C.rs ?_
            refine J.p rfl rfl rfl rfl (Y.mv rfl) ?_
            obtain ⟨t18, hC19, H⟩ := bind_some H
            refine J.call (us := []) (cap := []) rfl rfl rfl go33 (fun w hw => by have hcc := Next.calls ((a0.take (Int.toNat (IntKind.wrap .i64 ((IntKind.wrap .i64 (a1 + 4)) + t13.1)))).drop (Int.toNat (IntKind.wrap .i64 (a1 + 4)))) 0 (subA 1 Aa0 ca0 (Int.toNat (IntKind.wrap .i64 (a1 + 4)))) (ca0 - (Int.toNat (IntKind.wrap .i64 (a1 + 4)))) (RdG.subL (l := (Int.toNat (IntKind.wrap .i64 (a1 + 4)))) (h := (Int.toNat (IntKind.wrap .i64 ((IntKind.wrap .i64 (a1 + 4)) + t13.1)))) (ha0.suf [_] rfl) ka0) (hc_sub ka0) t18 hC19 w hw; exact hcc) (fun e w1 h1 => ?_)
            obtain ⟨rfl, hw59⟩ := h1
            refine ⟨_, _, rfl, hw59, ?_⟩
            refine J.p rfl rfl rfl rfl (Y.mv rfl) ?_
            refine J.p rfl rfl rfl rfl (Y.bin rfl rfl rfl) ?_
            refine J.nx ?_
            refine split2 H (fun c20 H => ?_) (fun c20 H => ?_)
            · refine C.condT (congrArg (fun b => some (Value.bool b)) (decide_eq_true c20)) ?_
              refine C.rs ?_
              refine J.p rfl rfl rfl rfl (Y.bld (cs := [.int .i64 0, .int .u64 0, .int .i64 0, .string ByteArray.empty, .string ByteArray.empty, .int .u64 0, .int .i64 0, .int .i64 0, .int .i64 0, .string ByteArray.empty, .int .i64 0, .int .i64 0, .int .i64 0, .int .u32 0]) rfl pl36 ti36 rfl (by kernel_rfl)) ?_
              refine J.stA (us := [.int .i64 0, .int .u64 0, .int .i64 0, .string ByteArray.empty, .string ByteArray.empty, .int .u64 0, .int .i64 0, .int .i64 0, .int .i64 0, .string ByteArray.empty, .int .i64 0, .int .i64 0, .int .i64 0, .int .u32 0]) (L' := [.int .i64 0, .int .u64 0, .int .i64 0, .string ByteArray.empty, .string ByteArray.empty, .int .u64 0, .int .i64 0, .int .i64 0, .int .i64 0, .string ByteArray.empty, .int .i64 0, .int .i64 0, .int .i64 0, .int .u32 0]) ti36 rfl rfl rfl rfl rfl rfl ?_
              refine J.p rfl rfl rfl rfl (Y.asg rfl) ?_
              refine J.p rfl rfl rfl rfl (Y.asg rfl) ?_
              refine J.nx ?_
              refine C.ret ?_
              obtain rfl := Option.some.inj H
              refine T.th ?_
              exact ret_okG (rvs := [.cell 4 36, .tmp 5, .tmp 6]) (vs := [.agg #[.int .i64 0, .int .u64 0, .int .i64 0, .string ByteArray.empty, .string ByteArray.empty, .int .u64 0, .int .i64 0, .int .i64 0, .int .i64 0, .string ByteArray.empty, .int .i64 0, .int .i64 0, .int .i64 0, .int .u32 0], .int .i64 0, .int .i64 45]) rfl ⟨RV.cellA (us := [.int .i64 0, .int .u64 0, .int .i64 0, .string ByteArray.empty, .string ByteArray.empty, .int .u64 0, .int .i64 0, .int .i64 0, .int .i64 0, .string ByteArray.empty, .int .i64 0, .int .i64 0, .int .i64 0, .int .u32 0]) 0 Try.underlying36 rfl ti36 rfl rfl rfl rfl, RV.tmp rfl, RV.tmp rfl, trivial⟩ (fun w h => ⟨rfl, (St.pick [] [_] h rfl)⟩)
            · refine C.condF (congrArg (fun b => some (Value.bool b)) (decide_eq_false c20)) ?_
              refine C.skip ?_
              refine N.nx ?_
              refine C.rs ?_
              refine J.p rfl rfl rfl rfl (Y.mv rfl) ?_
              refine J.p rfl rfl rfl rfl (Y.mv rfl) ?_
              refine J.p rfl rfl rfl rfl (Y.mv rfl) ?_
              refine J.p rfl rfl rfl rfl (Y.bin rfl rfl rfl) ?_
              obtain ⟨p21, H⟩ := gd_some H
              refine J.p rfl rfl rfl rfl (Y.slcL Try.underlying22 ti5 rfl (bnd.yes rfl p21.1) (bnd.yes rfl p21.2.1) p21.2.2 ka0) ?_
              obtain ⟨t22, hC23, H⟩ := bind_some H
              refine J.call (us := []) (cap := []) rfl rfl rfl go32 (fun w hw => by have hcc := Number.calls K ((a0.take (Int.toNat (IntKind.wrap .i64 ((IntKind.wrap .i64 ((IntKind.wrap .i64 (a1 + 4)) + t13.1)) + 5)))).drop (Int.toNat (IntKind.wrap .i64 ((IntKind.wrap .i64 (a1 + 4)) + t13.1)))) 5 (subA 1 Aa0 ca0 (Int.toNat (IntKind.wrap .i64 ((IntKind.wrap .i64 (a1 + 4)) + t13.1)))) (ca0 - (Int.toNat (IntKind.wrap .i64 ((IntKind.wrap .i64 (a1 + 4)) + t13.1)))) (RdG.subL (l := (Int.toNat (IntKind.wrap .i64 ((IntKind.wrap .i64 (a1 + 4)) + t13.1)))) (h := (Int.toNat (IntKind.wrap .i64 ((IntKind.wrap .i64 ((IntKind.wrap .i64 (a1 + 4)) + t13.1)) + 5)))) (ha0.suf [_] rfl) ka0) (hc_sub ka0) t22 hC23 w hw; exact hcc) (fun e w1 h1 => ?_)
              obtain ⟨rfl, hw58⟩ := h1
              refine ⟨_, _, rfl, hw58, ?_⟩
              refine J.p rfl rfl rfl rfl (Y.mv rfl) ?_
              refine J.p rfl rfl rfl rfl (Y.ext rfl rfl) ?_
              refine J.p rfl rfl rfl rfl (Y.ext rfl rfl) ?_
              refine J.p rfl rfl rfl rfl (Y.asg rfl) ?_
              refine J.p rfl rfl rfl rfl (Y.asg rfl) ?_
              refine J.nx ?_
              refine C.seq ?_
              refine C.rs ?_
              refine J.joinB H (fun (o31 : (List Int) × Bool) (j32 : (Option Addr) × Nat) => [(4, .pointer (some ⟨g1, 0, none⟩)), (7, .int .i64 t13.1), (11, .slice j32.1 o31.1.length j32.2), (89, .bool o31.2)]) (fun (o31 : (List Int) × Bool) (j32 : (Option Addr) × Nat) => cells g1 36 [.int .i64 0, .int .u64 0, .int .i64 0, .string ByteArray.empty, .string ByteArray.empty, .int .u64 0, .int .i64 0, .int .i64 0, .int .i64 0, .string ByteArray.empty, .int .i64 0, .int .i64 0, .int .i64 0, .int .u32 0] :: G) (fun (o31 : (List Int) × Bool) (j32 : (Option Addr) × Nat) => (RdG B w0 G j32.1 (o31.1.map (Value.int .u8)) ∧ o31.1.length ≤ j32.2)) (fun o34 H HK35 => ?_) (fun o31 j32 H hx33 => ?_)
              · refine J.p rfl rfl rfl rfl (Y.mv rfl) ?_
                refine J.p rfl rfl rfl rfl (Y.bin rfl rfl rfl) ?_
                refine J.p rfl rfl rfl rfl (Y.mv rfl) ?_
                refine split2 H (fun c36 H => ?_) (fun c36 H => ?_)
                · refine J.as (k := 78) rfl (congrArg Value.bool (decide_eq_true c36)) ?_
                  refine J.skip rfl rfl ?_
                  refine J.skip rfl rfl ?_
                  refine J.skip rfl rfl ?_
                  refine J.skip rfl rfl ?_
                  refine J.skip rfl rfl ?_
                  refine J.skip rfl rfl ?_
                  refine J.skip rfl rfl ?_
                  refine J.skip rfl rfl ?_
                  refine J.skip rfl rfl ?_
                  refine J.skip rfl rfl ?_
                  refine J.p rfl rfl rfl rfl (Y.pickT rfl rfl) ?_
                  refine J.nil ?_
                  obtain rfl := Option.some.inj H
                  exact N.meet ((((a0.take (Int.toNat (IntKind.wrap .i64 ((IntKind.wrap .i64 (a1 + 4)) + t13.1)))).drop (Int.toNat (IntKind.wrap .i64 (a1 + 4)))), true), (subA 1 Aa0 ca0 (Int.toNat (IntKind.wrap .i64 (a1 + 4))), ca0 - (Int.toNat (IntKind.wrap .i64 (a1 + 4))))) ⟨HK35, ⟨(RdG.subL (l := (Int.toNat (IntKind.wrap .i64 (a1 + 4)))) (h := (Int.toNat (IntKind.wrap .i64 ((IntKind.wrap .i64 (a1 + 4)) + t13.1)))) ha0 ka0), (hc_sub ka0)⟩⟩ (by exact ⟨rfl, rfl, rfl, rfl, trivial⟩) (by exact fun w h => h)
                · refine J.as (k := 78) rfl (congrArg Value.bool (decide_eq_false c36)) ?_
                  refine J.p rfl rfl rfl rfl (Y.mv rfl) ?_
                  refine J.p rfl rfl rfl rfl (Y.mv rfl) ?_
                  refine J.p rfl rfl rfl rfl (Y.mv rfl) ?_
                  refine J.p rfl rfl rfl rfl (Y.bin rfl rfl rfl) ?_
                  refine J.p rfl rfl rfl rfl (Y.mv rfl) ?_
                  obtain ⟨p37, H⟩ := gd_some H
                  refine J.p rfl rfl rfl rfl (Y.slcL Try.underlying22 ti5 rfl (bnd.yes rfl p37.1) (bnd.yes rfl p37.2.1) p37.2.2 ka0) ?_
                  refine J.want rfl ?_
                  refine J.bsV (L := [.slice (subA 1 Aa0 ca0 (Int.toNat (IntKind.wrap .i64 (a1 + 1)))) ((a0.take (Int.toNat (IntKind.wrap .i64 ((IntKind.wrap .i64 (a1 + 4)) + t13.1)))).drop (Int.toNat (IntKind.wrap .i64 (a1 + 1)))).length (ca0 - (Int.toNat (IntKind.wrap .i64 (a1 + 1))))]) rfl Try.underlying56 ti22 rfl rfl rfl rfl rfl (fun A38 => ?_)
                  refine J.want rfl ?_
                  obtain ⟨t40, hC41, H⟩ := bind_some H
                  refine J.call (us := []) (cap := []) rfl rfl rfl go19 (fun w hw => by have hcc := Sum.calls K [((a0.take (Int.toNat (IntKind.wrap .i64 ((IntKind.wrap .i64 (a1 + 4)) + t13.1)))).drop (Int.toNat (IntKind.wrap .i64 (a1 + 1))))] A38 1 [.slice (subA 1 Aa0 ca0 (Int.toNat (IntKind.wrap .i64 (a1 + 1)))) ((a0.take (Int.toNat (IntKind.wrap .i64 ((IntKind.wrap .i64 (a1 + 4)) + t13.1)))).drop (Int.toNat (IntKind.wrap .i64 (a1 + 1)))).length (ca0 - (Int.toNat (IntKind.wrap .i64 (a1 + 1))))] (RdG.own 0 rfl) (VV.cons (RdG.subL (l := (Int.toNat (IntKind.wrap .i64 (a1 + 1)))) (h := (Int.toNat (IntKind.wrap .i64 ((IntKind.wrap .i64 (a1 + 4)) + t13.1)))) (ha0.suf [_, _] rfl) ka0) (hc_sub ka0) VV.nil) (Nat.le_refl _) t40 hC41 w hw; exact hcc) (fun e w1 h1 => ?_)
                  obtain ⟨rfl, hw42⟩ := h1
                  refine ⟨_, _, rfl, hw42, ?_⟩
                  refine J.p rfl rfl rfl rfl (Y.conv Try.underlying30 Try.underlying25 rfl) ?_
                  refine J.p rfl rfl rfl rfl (Y.bin rfl rfl rfl) ?_
                  refine J.p rfl rfl rfl rfl (Y.pickF rfl rfl) ?_
                  refine J.nil ?_
                  obtain rfl := Option.some.inj H
                  exact N.meet ((((a0.take (Int.toNat (IntKind.wrap .i64 ((IntKind.wrap .i64 (a1 + 4)) + t13.1)))).drop (Int.toNat (IntKind.wrap .i64 (a1 + 4)))), decide (t22.1 ≠ (IntKind.wrap .u64 t40))), (subA 1 Aa0 ca0 (Int.toNat (IntKind.wrap .i64 (a1 + 4))), ca0 - (Int.toNat (IntKind.wrap .i64 (a1 + 4))))) ⟨HK35, ⟨(RdG.subL (l := (Int.toNat (IntKind.wrap .i64 (a1 + 4)))) (h := (Int.toNat (IntKind.wrap .i64 ((IntKind.wrap .i64 (a1 + 4)) + t13.1)))) ha0 ka0), (hc_sub ka0)⟩⟩ (by exact ⟨rfl, rfl, rfl, rfl, trivial⟩) (by exact fun w h => (St.pick [1] [_, _] h rfl))
              · refine C.at (s' := [(4, .pointer (some ⟨g1, 0, none⟩)), (7, .int .i64 t13.1), (11, .slice j32.1 o31.1.length j32.2), (89, .bool o31.2)]) (G' := cells g1 36 [.int .i64 0, .int .u64 0, .int .i64 0, .string ByteArray.empty, .string ByteArray.empty, .int .u64 0, .int .i64 0, .int .i64 0, .int .i64 0, .string ByteArray.empty, .int .i64 0, .int .i64 0, .int .i64 0, .int .u32 0] :: G) rfl rfl ?_
                refine split2 H (fun c43 H => ?_) (fun c43 H => ?_)
                · refine C.condT (congrArg (fun b => some (Value.bool b)) (c43)) ?_
                  refine C.rs ?_
                  refine J.p rfl rfl rfl rfl (Y.bld (cs := [.int .i64 0, .int .u64 0, .int .i64 0, .string ByteArray.empty, .string ByteArray.empty, .int .u64 0, .int .i64 0, .int .i64 0, .int .i64 0, .string ByteArray.empty, .int .i64 0, .int .i64 0, .int .i64 0, .int .u32 0]) rfl pl36 ti36 rfl (by kernel_rfl)) ?_
                  refine J.stA (us := [.int .i64 0, .int .u64 0, .int .i64 0, .string ByteArray.empty, .string ByteArray.empty, .int .u64 0, .int .i64 0, .int .i64 0, .int .i64 0, .string ByteArray.empty, .int .i64 0, .int .i64 0, .int .i64 0, .int .u32 0]) (L' := [.int .i64 0, .int .u64 0, .int .i64 0, .string ByteArray.empty, .string ByteArray.empty, .int .u64 0, .int .i64 0, .int .i64 0, .int .i64 0, .string ByteArray.empty, .int .i64 0, .int .i64 0, .int .i64 0, .int .u32 0]) ti36 rfl rfl rfl rfl rfl rfl ?_
                  refine J.p rfl rfl rfl rfl (Y.asg rfl) ?_
                  refine J.p rfl rfl rfl rfl (Y.asg rfl) ?_
                  refine J.nx ?_
                  refine C.ret ?_
                  obtain rfl := Option.some.inj H
                  refine T.th ?_
                  exact ret_okG (rvs := [.cell 4 36, .tmp 5, .tmp 6]) (vs := [.agg #[.int .i64 0, .int .u64 0, .int .i64 0, .string ByteArray.empty, .string ByteArray.empty, .int .u64 0, .int .i64 0, .int .i64 0, .int .i64 0, .string ByteArray.empty, .int .i64 0, .int .i64 0, .int .i64 0, .int .u32 0], .int .i64 0, .int .i64 44]) rfl ⟨RV.cellA (us := [.int .i64 0, .int .u64 0, .int .i64 0, .string ByteArray.empty, .string ByteArray.empty, .int .u64 0, .int .i64 0, .int .i64 0, .int .i64 0, .string ByteArray.empty, .int .i64 0, .int .i64 0, .int .i64 0, .int .u32 0]) 0 Try.underlying36 rfl ti36 rfl rfl rfl rfl, RV.tmp rfl, RV.tmp rfl, trivial⟩ (fun w h => ⟨rfl, (St.pick [] [_] h rfl)⟩)
                · refine C.condF (congrArg (fun b => some (Value.bool b)) (nt c43)) ?_
                  refine C.skip ?_
                  refine N.nx ?_
                  refine C.rs ?_
                  refine J.p rfl rfl rfl rfl (Y.mv rfl) ?_
                  obtain ⟨t44, hC45, H⟩ := bind_some H
                  refine J.call (us := []) (cap := []) rfl rfl rfl go37 (fun w hw => by have hcc := Open.calls K o31.1 j32.1 j32.2 (hx33.1.suf [_] rfl) hx33.2 t44 hC45 w hw; exact hcc) (fun e w1 h1 => ?_)
                  obtain ⟨A46, c47, rfl, hw57⟩ := h1
                  refine ⟨_, _, rfl, hw57, ?_⟩
                  refine J.p rfl rfl rfl rfl (Y.mv rfl) ?_
                  refine J.p rfl rfl rfl rfl (Y.ext rfl rfl) ?_
                  refine J.p rfl rfl rfl rfl (Y.ext rfl rfl) ?_
                  refine J.p rfl rfl rfl rfl (Y.ext rfl rfl) ?_
                  refine J.p rfl rfl rfl rfl (Y.asg rfl) ?_
                  refine J.p rfl rfl rfl rfl (Y.asg rfl) ?_
                  refine J.p rfl rfl rfl rfl (Y.asg rfl) ?_
                  refine J.nx ?_
                  refine C.seq ?_
                  refine C.rs ?_
                  refine J.p rfl rfl rfl rfl (Y.mv rfl) ?_
                  refine J.p rfl rfl rfl rfl (Y.bin rfl rfl rfl) ?_
                  refine J.nx ?_
                  refine split2 H (fun c49 H => ?_) (fun c49 H => ?_)
                  · refine C.condT (congrArg (fun b => some (Value.bool b)) (decide_eq_true c49)) ?_
                    refine C.rs ?_
                    refine J.p rfl rfl rfl rfl (Y.bld (cs := [.int .i64 0, .int .u64 0, .int .i64 0, .string ByteArray.empty, .string ByteArray.empty, .int .u64 0, .int .i64 0, .int .i64 0, .int .i64 0, .string ByteArray.empty, .int .i64 0, .int .i64 0, .int .i64 0, .int .u32 0]) rfl pl36 ti36 rfl (by kernel_rfl)) ?_
                    refine J.pull 1 rfl rfl ?_
                    refine J.stA (us := [.int .i64 0, .int .u64 0, .int .i64 0, .string ByteArray.empty, .string ByteArray.empty, .int .u64 0, .int .i64 0, .int .i64 0, .int .i64 0, .string ByteArray.empty, .int .i64 0, .int .i64 0, .int .i64 0, .int .u32 0]) (L' := [.int .i64 0, .int .u64 0, .int .i64 0, .string ByteArray.empty, .string ByteArray.empty, .int .u64 0, .int .i64 0, .int .i64 0, .int .i64 0, .string ByteArray.empty, .int .i64 0, .int .i64 0, .int .i64 0, .int .u32 0]) ti36 rfl rfl rfl rfl rfl rfl ?_
                    refine J.p rfl rfl rfl rfl (Y.asg rfl) ?_
                    refine J.p rfl rfl rfl rfl (Y.asg rfl) ?_
                    refine J.nx ?_
                    refine C.ret ?_
                    obtain rfl := Option.some.inj H
                    refine T.th ?_
                    exact ret_okG (rvs := [.cell 4 36, .tmp 5, .tmp 6]) (vs := [.agg #[.int .i64 0, .int .u64 0, .int .i64 0, .string ByteArray.empty, .string ByteArray.empty, .int .u64 0, .int .i64 0, .int .i64 0, .int .i64 0, .string ByteArray.empty, .int .i64 0, .int .i64 0, .int .i64 0, .int .u32 0], .int .i64 0, .int .i64 45]) rfl ⟨RV.cellA (us := [.int .i64 0, .int .u64 0, .int .i64 0, .string ByteArray.empty, .string ByteArray.empty, .int .u64 0, .int .i64 0, .int .i64 0, .int .i64 0, .string ByteArray.empty, .int .i64 0, .int .i64 0, .int .i64 0, .int .u32 0]) 0 Try.underlying36 rfl ti36 rfl rfl rfl rfl, RV.tmp rfl, RV.tmp rfl, trivial⟩ (fun w h => ⟨rfl, (St.pick [] [_, _] h rfl)⟩)
                  · refine C.condF (congrArg (fun b => some (Value.bool b)) (decide_eq_false c49)) ?_
                    refine C.skip ?_
                    refine N.nx ?_
                    refine C.rs ?_
                    refine J.p rfl rfl rfl rfl (Y.mv rfl) ?_
                    refine J.know (own_leL 0 rfl) (fun hc50 => ?_)
                    obtain ⟨t51, hC52, H⟩ := bind_some H
                    refine J.call (us := []) (cap := []) rfl rfl rfl go38 (fun w hw => by have hcc := parse.calls K t44.1 A46 c47 (RdG.own 0 rfl) hc50 t51 hC52 w hw; exact hcc) (fun e w1 h1 => ?_)
                    obtain ⟨rfl, hw56⟩ := h1
                    refine ⟨_, _, rfl, hw56, ?_⟩
                    refine J.p rfl rfl rfl rfl (Y.mv rfl) ?_
                    refine J.p rfl rfl rfl rfl (Y.ext rfl rfl) ?_
                    refine J.p rfl rfl rfl rfl (Y.ext rfl rfl) ?_
                    refine J.alloc (L := [.int .i64 0, .int .u64 0, .int .i64 0, .string ByteArray.empty, .string ByteArray.empty, .int .u64 0, .int .i64 0, .int .i64 0, .int .i64 0, .string ByteArray.empty, .int .i64 0, .int .i64 0, .int .i64 0, .int .u32 0]) rfl ti36 rfl (fun g53 => ?_)
                    refine J.stA (us := [.int .i64 t51.1, .int .u64 t51.2.1, .int .i64 t51.2.2.1, .string t51.2.2.2.1, .string t51.2.2.2.2.1, .int .u64 t51.2.2.2.2.2.1, .int .i64 t51.2.2.2.2.2.2.1, .int .i64 t51.2.2.2.2.2.2.2.1, .int .i64 t51.2.2.2.2.2.2.2.2.1, .string t51.2.2.2.2.2.2.2.2.2.1, .int .i64 t51.2.2.2.2.2.2.2.2.2.2.1, .int .i64 t51.2.2.2.2.2.2.2.2.2.2.2.1, .int .i64 t51.2.2.2.2.2.2.2.2.2.2.2.2.1, .int .u32 t51.2.2.2.2.2.2.2.2.2.2.2.2.2.1]) (L' := [.int .i64 t51.1, .int .u64 t51.2.1, .int .i64 t51.2.2.1, .string t51.2.2.2.1, .string t51.2.2.2.2.1, .int .u64 t51.2.2.2.2.2.1, .int .i64 t51.2.2.2.2.2.2.1, .int .i64 t51.2.2.2.2.2.2.2.1, .int .i64 t51.2.2.2.2.2.2.2.2.1, .string t51.2.2.2.2.2.2.2.2.2.1, .int .i64 t51.2.2.2.2.2.2.2.2.2.2.1, .int .i64 t51.2.2.2.2.2.2.2.2.2.2.2.1, .int .i64 t51.2.2.2.2.2.2.2.2.2.2.2.2.1, .int .u32 t51.2.2.2.2.2.2.2.2.2.2.2.2.2.1]) ti36 rfl rfl rfl rfl rfl rfl ?_
                    refine J.p rfl rfl rfl rfl (Y.asg rfl) ?_
                    refine J.nx ?_
                    refine C.seq ?_
                    refine C.rs ?_
                    refine J.p rfl rfl rfl rfl (Y.mv rfl) ?_
                    refine J.p rfl rfl rfl rfl (Y.notb rfl) ?_
                    refine J.nx ?_
                    refine split2 H (fun c55 H => ?_) (fun c55 H => ?_)
                    · refine C.condF (congrArg (fun b => some (Value.bool b)) (congrArg Bool.not (c55))) ?_
                      refine C.skip ?_
                      refine N.nx ?_
                      refine C.rs ?_
                      refine J.r rfl rfl rfl rfl (Y.ldCA (us := [.int .i64 t51.1, .int .u64 t51.2.1, .int .i64 t51.2.2.1, .string t51.2.2.2.1, .string t51.2.2.2.2.1, .int .u64 t51.2.2.2.2.2.1, .int .i64 t51.2.2.2.2.2.2.1, .int .i64 t51.2.2.2.2.2.2.2.1, .int .i64 t51.2.2.2.2.2.2.2.2.1, .string t51.2.2.2.2.2.2.2.2.2.1, .int .i64 t51.2.2.2.2.2.2.2.2.2.2.1, .int .i64 t51.2.2.2.2.2.2.2.2.2.2.2.1, .int .i64 t51.2.2.2.2.2.2.2.2.2.2.2.2.1, .int .u32 t51.2.2.2.2.2.2.2.2.2.2.2.2.2.1]) 0 Try.underlying36 rfl ti36 rfl rfl rfl rfl) ?_
                      refine J.p rfl rfl rfl rfl (Y.mv rfl) ?_
                      refine J.p rfl rfl rfl rfl (Y.bin rfl rfl rfl) ?_
                      refine J.p rfl rfl rfl rfl (Y.bin rfl rfl rfl) ?_
                      refine J.pull 2 rfl rfl ?_
                      refine J.stA (us := [.int .i64 t51.1, .int .u64 t51.2.1, .int .i64 t51.2.2.1, .string t51.2.2.2.1, .string t51.2.2.2.2.1, .int .u64 t51.2.2.2.2.2.1, .int .i64 t51.2.2.2.2.2.2.1, .int .i64 t51.2.2.2.2.2.2.2.1, .int .i64 t51.2.2.2.2.2.2.2.2.1, .string t51.2.2.2.2.2.2.2.2.2.1, .int .i64 t51.2.2.2.2.2.2.2.2.2.2.1, .int .i64 t51.2.2.2.2.2.2.2.2.2.2.2.1, .int .i64 t51.2.2.2.2.2.2.2.2.2.2.2.2.1, .int .u32 t51.2.2.2.2.2.2.2.2.2.2.2.2.2.1]) (L' := [.int .i64 t51.1, .int .u64 t51.2.1, .int .i64 t51.2.2.1, .string t51.2.2.2.1, .string t51.2.2.2.2.1, .int .u64 t51.2.2.2.2.2.1, .int .i64 t51.2.2.2.2.2.2.1, .int .i64 t51.2.2.2.2.2.2.2.1, .int .i64 t51.2.2.2.2.2.2.2.2.1, .string t51.2.2.2.2.2.2.2.2.2.1, .int .i64 t51.2.2.2.2.2.2.2.2.2.2.1, .int .i64 t51.2.2.2.2.2.2.2.2.2.2.2.1, .int .i64 t51.2.2.2.2.2.2.2.2.2.2.2.2.1, .int .u32 t51.2.2.2.2.2.2.2.2.2.2.2.2.2.1]) ti36 rfl rfl rfl rfl rfl rfl ?_
                      refine J.p rfl rfl rfl rfl (Y.asg rfl) ?_
                      refine J.p rfl rfl rfl rfl (Y.asg rfl) ?_
                      refine J.nx ?_
                      refine C.ret ?_
                      obtain rfl := Option.some.inj H
                      exact ret_okG (rvs := [.cell 4 36, .tmp 5, .tmp 6]) (vs := [.agg #[.int .i64 t51.1, .int .u64 t51.2.1, .int .i64 t51.2.2.1, .string t51.2.2.2.1, .string t51.2.2.2.2.1, .int .u64 t51.2.2.2.2.2.1, .int .i64 t51.2.2.2.2.2.2.1, .int .i64 t51.2.2.2.2.2.2.2.1, .int .i64 t51.2.2.2.2.2.2.2.2.1, .string t51.2.2.2.2.2.2.2.2.2.1, .int .i64 t51.2.2.2.2.2.2.2.2.2.2.1, .int .i64 t51.2.2.2.2.2.2.2.2.2.2.2.1, .int .i64 t51.2.2.2.2.2.2.2.2.2.2.2.2.1, .int .u32 t51.2.2.2.2.2.2.2.2.2.2.2.2.2.1], .int .i64 (IntKind.wrap .i64 ((IntKind.wrap .i64 (4 + t13.1)) + 5)), .int .i64 0]) rfl ⟨RV.cellA (us := [.int .i64 t51.1, .int .u64 t51.2.1, .int .i64 t51.2.2.1, .string t51.2.2.2.1, .string t51.2.2.2.2.1, .int .u64 t51.2.2.2.2.2.1, .int .i64 t51.2.2.2.2.2.2.1, .int .i64 t51.2.2.2.2.2.2.2.1, .int .i64 t51.2.2.2.2.2.2.2.2.1, .string t51.2.2.2.2.2.2.2.2.2.1, .int .i64 t51.2.2.2.2.2.2.2.2.2.2.1, .int .i64 t51.2.2.2.2.2.2.2.2.2.2.2.1, .int .i64 t51.2.2.2.2.2.2.2.2.2.2.2.2.1, .int .u32 t51.2.2.2.2.2.2.2.2.2.2.2.2.2.1]) 0 Try.underlying36 rfl ti36 rfl rfl rfl rfl, RV.tmp rfl, RV.tmp rfl, trivial⟩ (fun w h => ⟨rfl, (St.pick [] [_, _, _] h rfl)⟩)
                    · refine C.condT (congrArg (fun b => some (Value.bool b)) (congrArg Bool.not (nt c55))) ?_
                      refine C.rs ?_
                      refine J.p rfl rfl rfl rfl (Y.bld (cs := [.int .i64 0, .int .u64 0, .int .i64 0, .string ByteArray.empty, .string ByteArray.empty, .int .u64 0, .int .i64 0, .int .i64 0, .int .i64 0, .string ByteArray.empty, .int .i64 0, .int .i64 0, .int .i64 0, .int .u32 0]) rfl pl36 ti36 rfl (by kernel_rfl)) ?_
                      refine J.pull 2 rfl rfl ?_
                      refine J.stA (us := [.int .i64 0, .int .u64 0, .int .i64 0, .string ByteArray.empty, .string ByteArray.empty, .int .u64 0, .int .i64 0, .int .i64 0, .int .i64 0, .string ByteArray.empty, .int .i64 0, .int .i64 0, .int .i64 0, .int .u32 0]) (L' := [.int .i64 0, .int .u64 0, .int .i64 0, .string ByteArray.empty, .string ByteArray.empty, .int .u64 0, .int .i64 0, .int .i64 0, .int .i64 0, .string ByteArray.empty, .int .i64 0, .int .i64 0, .int .i64 0, .int .u32 0]) ti36 rfl rfl rfl rfl rfl rfl ?_
                      refine J.p rfl rfl rfl rfl (Y.asg rfl) ?_
                      refine J.p rfl rfl rfl rfl (Y.asg rfl) ?_
                      refine J.nx ?_
                      refine C.ret ?_
                      obtain rfl := Option.some.inj H
                      refine T.th ?_
                      exact ret_okG (rvs := [.cell 4 36, .tmp 5, .tmp 6]) (vs := [.agg #[.int .i64 0, .int .u64 0, .int .i64 0, .string ByteArray.empty, .string ByteArray.empty, .int .u64 0, .int .i64 0, .int .i64 0, .int .i64 0, .string ByteArray.empty, .int .i64 0, .int .i64 0, .int .i64 0, .int .u32 0], .int .i64 0, .int .i64 45]) rfl ⟨RV.cellA (us := [.int .i64 0, .int .u64 0, .int .i64 0, .string ByteArray.empty, .string ByteArray.empty, .int .u64 0, .int .i64 0, .int .i64 0, .int .i64 0, .string ByteArray.empty, .int .i64 0, .int .i64 0, .int .i64 0, .int .u32 0]) 0 Try.underlying36 rfl ti36 rfl rfl rfl rfl, RV.tmp rfl, RV.tmp rfl, trivial⟩ (fun w h => ⟨rfl, (St.pick [] [_, _, _] h rfl)⟩)
/-! ### salvor/salvorlaw4.known: function 14 -/
def known.f (K : Nat) : Option (Bool) := (first.f).bind fun t1 => (fEncode.f K t1.1 t1.2.1 t1.2.2.1 t1.2.2.2.1 t1.2.2.2.2.1 t1.2.2.2.2.2.1 t1.2.2.2.2.2.2.1 t1.2.2.2.2.2.2.2.1 t1.2.2.2.2.2.2.2.2.1 t1.2.2.2.2.2.2.2.2.2.1 t1.2.2.2.2.2.2.2.2.2.2.1 t1.2.2.2.2.2.2.2.2.2.2.2.1 t1.2.2.2.2.2.2.2.2.2.2.2.2.1 t1.2.2.2.2.2.2.2.2.2.2.2.2.2).bind fun t3 => (if t3.2 ≠ 0 then (some true) else (some (decide ((t3.1.length : Int) ≠ 14)))).bind fun o9 => if o9 = true then (some false) else ((fDecode.f K t3.1 0).bind fun t16 => (gd ((0 : Int) ≤ 0 ∧ 0 < (t3.1.length : Int)) (if (rd t3.1 0) = 167 then (gd ((0 : Int) ≤ 3 ∧ 3 < (t3.1.length : Int)) (gd ((0 : Int) ≤ 3 ∧ 3 < (t3.1.length : Int)) (if (rd t3.1 3) = 5 then (gd ((0 : Int) ≤ 4 ∧ 4 < (t3.1.length : Int)) (gd ((0 : Int) ≤ 4 ∧ 4 < (t3.1.length : Int)) (if (rd t3.1 4) = 1 then (gd ((0 : Int) ≤ 8 ∧ 8 < (t3.1.length : Int)) (gd ((0 : Int) ≤ 8 ∧ 8 < (t3.1.length : Int)) (some (decide ((rd t3.1 8) = 118))))) else (some false)))) else (some false)))) else (some false))).bind fun o36 => if o36 = true then ((first.f).bind fun t57 => if t16.1 = t57.1 ∧ (t16.2.1 = t57.2.1 ∧ t16.2.2.1 = t57.2.2.1 ∧ t16.2.2.2.1 = t57.2.2.2.1 ∧ t16.2.2.2.2.1 = t57.2.2.2.2.1 ∧ True) ∧ (t16.2.2.2.2.2.1 = t57.2.2.2.2.2.1 ∧ t16.2.2.2.2.2.2.1 = t57.2.2.2.2.2.2.1 ∧ t16.2.2.2.2.2.2.2.1 = t57.2.2.2.2.2.2.2.1 ∧ t16.2.2.2.2.2.2.2.2.1 = t57.2.2.2.2.2.2.2.2.1 ∧ t16.2.2.2.2.2.2.2.2.2.1 = t57.2.2.2.2.2.2.2.2.2.1 ∧ True) ∧ (t16.2.2.2.2.2.2.2.2.2.2.1 = t57.2.2.2.2.2.2.2.2.2.2.1 ∧ (t16.2.2.2.2.2.2.2.2.2.2.2.1 = t57.2.2.2.2.2.2.2.2.2.2.2.1 ∧ t16.2.2.2.2.2.2.2.2.2.2.2.2.1 = t57.2.2.2.2.2.2.2.2.2.2.2.2.1 ∧ t16.2.2.2.2.2.2.2.2.2.2.2.2.2.1 = t57.2.2.2.2.2.2.2.2.2.2.2.2.2 ∧ True) ∧ True) ∧ True then (if t16.2.2.2.2.2.2.2.2.2.2.2.2.2.2.1 = 14 then (some (decide (t16.2.2.2.2.2.2.2.2.2.2.2.2.2.2.2 = 0))) else (some false)) else (some false)) else (some false))
theorem known.calls {B : Nat} {w0 : World} {G : List HP} (K : Nat) (r : Bool) (H : known.f K = some r) (w : World) (hw : St B w0 (G) w) :
    Calls Try.prog 14 [].toArray w (fun e w' => e = .returned (.bool r) ∧ St B w0 (G) w') := by
  unfold known.f at H
  refine calls_of (n := 61) (s := []) Try.func14 rfl rfl rfl rfl ?_ hw
  refine C.rs ?_
  refine J.p rfl rfl rfl rfl (Y.asg rfl) ?_
  refine J.nx ?_
  refine C.rs ?_
  obtain ⟨t1, hC2, H⟩ := bind_some H
  refine J.call (us := []) (cap := []) rfl rfl rfl go35 (fun w hw => by have hcc := first.calls t1 hC2 w hw; exact hcc) (fun e w1 h1 => ?_)
  obtain ⟨rfl, hw64⟩ := h1
  refine ⟨_, _, rfl, hw64, ?_⟩
  obtain ⟨t3, hC4, H⟩ := bind_some H
  refine J.call (us := []) (cap := []) rfl rfl rfl go18 (fun w hw => by have hcc := fEncode.calls K t1.1 t1.2.1 t1.2.2.1 t1.2.2.2.1 t1.2.2.2.2.1 t1.2.2.2.2.2.1 t1.2.2.2.2.2.2.1 t1.2.2.2.2.2.2.2.1 t1.2.2.2.2.2.2.2.2.1 t1.2.2.2.2.2.2.2.2.2.1 t1.2.2.2.2.2.2.2.2.2.2.1 t1.2.2.2.2.2.2.2.2.2.2.2.1 t1.2.2.2.2.2.2.2.2.2.2.2.2.1 t1.2.2.2.2.2.2.2.2.2.2.2.2.2 t3 hC4 w hw; exact hcc) (fun e w1 h1 => ?_)
  obtain ⟨A5, c6, rfl, hw63⟩ := h1
  refine ⟨_, _, rfl, hw63, ?_⟩
  refine J.p rfl rfl rfl rfl (Y.mv rfl) ?_
  refine J.p rfl rfl rfl rfl (Y.ext rfl rfl) ?_
  refine J.p rfl rfl rfl rfl (Y.ext rfl rfl) ?_
  refine J.p rfl rfl rfl rfl (Y.asg rfl) ?_
  refine J.p rfl rfl rfl rfl (Y.asg rfl) ?_
  refine J.nx ?_
  refine C.seq ?_
  refine C.rs ?_
  refine J.joinB H (fun (o9 : Bool) (j10 : Unit) => [(1, .slice A5 t3.1.length c6), (18, .bool o9)]) (fun (o9 : Bool) (j10 : Unit) => own 5 1 A5 c6 (t3.1.map (Value.int .u8)) :: G) (fun (o9 : Bool) (j10 : Unit) => True) (fun o11 H HK12 => ?_) (fun o9 j10 H _ => ?_)
  · refine J.p rfl rfl rfl rfl (Y.mv rfl) ?_
    refine J.p rfl rfl rfl rfl (Y.bin rfl rfl rfl) ?_
    refine J.p rfl rfl rfl rfl (Y.mv rfl) ?_
    refine split2 H (fun c13 H => ?_) (fun c13 H => ?_)
    · refine J.as (k := 14) rfl (congrArg Value.bool (decide_eq_true c13)) ?_
      refine J.skip rfl rfl ?_
      refine J.skip rfl rfl ?_
      refine J.skip rfl rfl ?_
      refine J.p rfl rfl rfl rfl (Y.pickT rfl rfl) ?_
      refine J.nil ?_
      obtain rfl := Option.some.inj H
      exact N.meet (true, ()) ⟨HK12, trivial⟩ (by exact ⟨rfl, rfl, trivial⟩) (by exact fun w h => h)
    · refine J.as (k := 14) rfl (congrArg Value.bool (decide_eq_false c13)) ?_
      refine J.p rfl rfl rfl rfl (Y.mv rfl) ?_
      refine J.p rfl rfl rfl rfl (Y.lenS Try.underlying22 rfl) ?_
      refine J.p rfl rfl rfl rfl (Y.bin rfl rfl rfl) ?_
      refine J.p rfl rfl rfl rfl (Y.pickF rfl rfl) ?_
      refine J.nil ?_
      obtain rfl := Option.some.inj H
      exact N.meet (decide ((t3.1.length : Int) ≠ 14), ()) ⟨HK12, trivial⟩ (by exact ⟨rfl, rfl, trivial⟩) (by exact fun w h => h)
  · refine C.at (s' := [(1, .slice A5 t3.1.length c6), (18, .bool o9)]) (G' := own 5 1 A5 c6 (t3.1.map (Value.int .u8)) :: G) rfl rfl ?_
    refine split2 H (fun c14 H => ?_) (fun c14 H => ?_)
    · refine C.condT (congrArg (fun b => some (Value.bool b)) (c14)) ?_
      refine C.rs ?_
      refine J.p rfl rfl rfl rfl (Y.asg rfl) ?_
      refine J.nx ?_
      refine C.ret ?_
      obtain rfl := Option.some.inj H
      refine T.th ?_
      exact ret_ok (ks := [0]) rfl rfl (fun w h => ⟨rfl, (St.pick [] [_] h rfl)⟩)
    · refine C.condF (congrArg (fun b => some (Value.bool b)) (nt c14)) ?_
      refine C.skip ?_
      refine N.nx ?_
      refine C.rs ?_
      refine J.p rfl rfl rfl rfl (Y.mv rfl) ?_
      refine J.know (own_leL 0 rfl) (fun hc15 => ?_)
      obtain ⟨t16, hC17, H⟩ := bind_some H
      refine J.call (us := []) (cap := []) rfl rfl rfl go15 (fun w hw => by have hcc := fDecode.calls K t3.1 0 A5 c6 (RdG.own 0 rfl) hc15 t16 hC17 w hw; exact hcc) (fun e w1 h1 => ?_)
      obtain ⟨rfl, hw62⟩ := h1
      refine ⟨_, _, rfl, hw62, ?_⟩
      refine J.p rfl rfl rfl rfl (Y.mv rfl) ?_
      refine J.p rfl rfl rfl rfl (Y.ext rfl rfl) ?_
      refine J.p rfl rfl rfl rfl (Y.ext rfl rfl) ?_
      refine J.p rfl rfl rfl rfl (Y.ext rfl rfl) ?_
      refine J.alloc (L := [.int .i64 0, .int .u64 0, .int .i64 0, .string ByteArray.empty, .string ByteArray.empty, .int .u64 0, .int .i64 0, .int .i64 0, .int .i64 0, .string ByteArray.empty, .int .i64 0, .int .i64 0, .int .i64 0, .int .u32 0]) rfl ti36 rfl (fun g18 => ?_)
      refine J.stA (us := [.int .i64 t16.1, .int .u64 t16.2.1, .int .i64 t16.2.2.1, .string t16.2.2.2.1, .string t16.2.2.2.2.1, .int .u64 t16.2.2.2.2.2.1, .int .i64 t16.2.2.2.2.2.2.1, .int .i64 t16.2.2.2.2.2.2.2.1, .int .i64 t16.2.2.2.2.2.2.2.2.1, .string t16.2.2.2.2.2.2.2.2.2.1, .int .i64 t16.2.2.2.2.2.2.2.2.2.2.1, .int .i64 t16.2.2.2.2.2.2.2.2.2.2.2.1, .int .i64 t16.2.2.2.2.2.2.2.2.2.2.2.2.1, .int .u32 t16.2.2.2.2.2.2.2.2.2.2.2.2.2.1]) (L' := [.int .i64 t16.1, .int .u64 t16.2.1, .int .i64 t16.2.2.1, .string t16.2.2.2.1, .string t16.2.2.2.2.1, .int .u64 t16.2.2.2.2.2.1, .int .i64 t16.2.2.2.2.2.2.1, .int .i64 t16.2.2.2.2.2.2.2.1, .int .i64 t16.2.2.2.2.2.2.2.2.1, .string t16.2.2.2.2.2.2.2.2.2.1, .int .i64 t16.2.2.2.2.2.2.2.2.2.2.1, .int .i64 t16.2.2.2.2.2.2.2.2.2.2.2.1, .int .i64 t16.2.2.2.2.2.2.2.2.2.2.2.2.1, .int .u32 t16.2.2.2.2.2.2.2.2.2.2.2.2.2.1]) ti36 rfl rfl rfl rfl rfl rfl ?_
      refine J.p rfl rfl rfl rfl (Y.asg rfl) ?_
      refine J.p rfl rfl rfl rfl (Y.asg rfl) ?_
      refine J.nx ?_
      refine C.rs ?_
      refine J.joinB H (fun (o36 : Bool) (j37 : Unit) => [(3, .pointer (some ⟨g18, 0, none⟩)), (4, .int .i64 t16.2.2.2.2.2.2.2.2.2.2.2.2.2.2.1), (5, .int .i64 t16.2.2.2.2.2.2.2.2.2.2.2.2.2.2.2), (6, .bool o36)]) (fun (o36 : Bool) (j37 : Unit) => cells g18 36 [.int .i64 t16.1, .int .u64 t16.2.1, .int .i64 t16.2.2.1, .string t16.2.2.2.1, .string t16.2.2.2.2.1, .int .u64 t16.2.2.2.2.2.1, .int .i64 t16.2.2.2.2.2.2.1, .int .i64 t16.2.2.2.2.2.2.2.1, .int .i64 t16.2.2.2.2.2.2.2.2.1, .string t16.2.2.2.2.2.2.2.2.2.1, .int .i64 t16.2.2.2.2.2.2.2.2.2.2.1, .int .i64 t16.2.2.2.2.2.2.2.2.2.2.2.1, .int .i64 t16.2.2.2.2.2.2.2.2.2.2.2.2.1, .int .u32 t16.2.2.2.2.2.2.2.2.2.2.2.2.2.1] :: G) (fun (o36 : Bool) (j37 : Unit) => True) (fun o38 H HK39 => ?_) (fun o36 j37 H _ => ?_)
      · refine J.p rfl rfl rfl rfl (Y.mv rfl) ?_
        obtain ⟨p40, H⟩ := gd_some H
        refine J.el rfl rfl rfl Try.underlying22 ti5 Try.underlying5 rfl rfl rfl p40 (RdG.own 1 rfl) ?_
        refine J.p rfl rfl rfl rfl (Y.bin rfl rfl rfl) ?_
        refine J.p rfl rfl rfl rfl (Y.mv rfl) ?_
        refine split2 H (fun c41 H => ?_) (fun c41 H => ?_)
        · refine J.as (k := 29) rfl (congrArg Value.bool (decide_eq_true c41)) ?_
          refine J.p rfl rfl rfl rfl (Y.mv rfl) ?_
          obtain ⟨p44, H⟩ := gd_some H
          refine J.know ((RdG.own 1 rfl).some_ (j := Int.toNat 3) (by rw [List.length_map]; exact idx_lt p44)) (fun hh => ?_)
          obtain ⟨a42, ha43⟩ := hh
          refine J.p rfl rfl rfl rfl (Y.ixa Try.underlying22 ti5 rfl rfl p44 ha43) ?_
          obtain ⟨p45, H⟩ := gd_some H
          refine J.r rfl rfl rfl rfl (Y.ldE Try.underlying5 rfl rfl ha43 p45 (RdG.own 1 rfl)) ?_
          refine J.p rfl rfl rfl rfl (Y.bin rfl rfl rfl) ?_
          refine J.p rfl rfl rfl rfl (Y.pickT rfl rfl) ?_
          refine J.p rfl rfl rfl rfl (Y.mv rfl) ?_
          refine split2 H (fun c46 H => ?_) (fun c46 H => ?_)
          · refine J.as (k := 35) rfl (congrArg Value.bool (decide_eq_true c46)) ?_
            refine J.p rfl rfl rfl rfl (Y.mv rfl) ?_
            obtain ⟨p49, H⟩ := gd_some H
            refine J.know ((RdG.own 1 rfl).some_ (j := Int.toNat 4) (by rw [List.length_map]; exact idx_lt p49)) (fun hh => ?_)
            obtain ⟨a47, ha48⟩ := hh
            refine J.p rfl rfl rfl rfl (Y.ixa Try.underlying22 ti5 rfl rfl p49 ha48) ?_
            obtain ⟨p50, H⟩ := gd_some H
            refine J.r rfl rfl rfl rfl (Y.ldE Try.underlying5 rfl rfl ha48 p50 (RdG.own 1 rfl)) ?_
            refine J.p rfl rfl rfl rfl (Y.bin rfl rfl rfl) ?_
            refine J.p rfl rfl rfl rfl (Y.pickT rfl rfl) ?_
            refine J.p rfl rfl rfl rfl (Y.mv rfl) ?_
            refine split2 H (fun c51 H => ?_) (fun c51 H => ?_)
            · refine J.as (k := 41) rfl (congrArg Value.bool (decide_eq_true c51)) ?_
              refine J.p rfl rfl rfl rfl (Y.mv rfl) ?_
              obtain ⟨p54, H⟩ := gd_some H
              refine J.know ((RdG.own 1 rfl).some_ (j := Int.toNat 8) (by rw [List.length_map]; exact idx_lt p54)) (fun hh => ?_)
              obtain ⟨a52, ha53⟩ := hh
              refine J.p rfl rfl rfl rfl (Y.ixa Try.underlying22 ti5 rfl rfl p54 ha53) ?_
              obtain ⟨p55, H⟩ := gd_some H
              refine J.r rfl rfl rfl rfl (Y.ldE Try.underlying5 rfl rfl ha53 p55 (RdG.own 1 rfl)) ?_
              refine J.p rfl rfl rfl rfl (Y.bin rfl rfl rfl) ?_
              refine J.p rfl rfl rfl rfl (Y.pickT rfl rfl) ?_
              refine J.p rfl rfl rfl rfl (Y.asg rfl) ?_
              refine J.nil ?_
              obtain rfl := Option.some.inj H
              exact N.meet (decide ((rd t3.1 8) = 118), ()) ⟨HK39, trivial⟩ (by exact ⟨rfl, rfl, rfl, rfl, trivial⟩) (by exact fun w h => (St.pick [0] [_, _] h rfl))
            · refine J.as (k := 41) rfl (congrArg Value.bool (decide_eq_false c51)) ?_
              refine J.skip rfl rfl ?_
              refine J.skip rfl rfl ?_
              refine J.skip rfl rfl ?_
              refine J.skip rfl rfl ?_
              refine J.p rfl rfl rfl rfl (Y.pickF rfl rfl) ?_
              refine J.p rfl rfl rfl rfl (Y.asg rfl) ?_
              refine J.nil ?_
              obtain rfl := Option.some.inj H
              exact N.meet (false, ()) ⟨HK39, trivial⟩ (by exact ⟨rfl, rfl, rfl, rfl, trivial⟩) (by exact fun w h => (St.pick [0] [_, _] h rfl))
          · refine J.as (k := 35) rfl (congrArg Value.bool (decide_eq_false c46)) ?_
            refine J.skip rfl rfl ?_
            refine J.skip rfl rfl ?_
            refine J.skip rfl rfl ?_
            refine J.skip rfl rfl ?_
            refine J.p rfl rfl rfl rfl (Y.pickF rfl rfl) ?_
            refine J.p rfl rfl rfl rfl (Y.mv rfl) ?_
            refine J.skip rfl rfl ?_
            refine J.skip rfl rfl ?_
            refine J.skip rfl rfl ?_
            refine J.skip rfl rfl ?_
            refine J.p rfl rfl rfl rfl (Y.pickF rfl rfl) ?_
            refine J.p rfl rfl rfl rfl (Y.asg rfl) ?_
            refine J.nil ?_
            obtain rfl := Option.some.inj H
            exact N.meet (false, ()) ⟨HK39, trivial⟩ (by exact ⟨rfl, rfl, rfl, rfl, trivial⟩) (by exact fun w h => (St.pick [0] [_, _] h rfl))
        · refine J.as (k := 29) rfl (congrArg Value.bool (decide_eq_false c41)) ?_
          refine J.skip rfl rfl ?_
          refine J.skip rfl rfl ?_
          refine J.skip rfl rfl ?_
          refine J.skip rfl rfl ?_
          refine J.p rfl rfl rfl rfl (Y.pickF rfl rfl) ?_
          refine J.p rfl rfl rfl rfl (Y.mv rfl) ?_
          refine J.skip rfl rfl ?_
          refine J.skip rfl rfl ?_
          refine J.skip rfl rfl ?_
          refine J.skip rfl rfl ?_
          refine J.p rfl rfl rfl rfl (Y.pickF rfl rfl) ?_
          refine J.p rfl rfl rfl rfl (Y.mv rfl) ?_
          refine J.skip rfl rfl ?_
          refine J.skip rfl rfl ?_
          refine J.skip rfl rfl ?_
          refine J.skip rfl rfl ?_
          refine J.p rfl rfl rfl rfl (Y.pickF rfl rfl) ?_
          refine J.p rfl rfl rfl rfl (Y.asg rfl) ?_
          refine J.nil ?_
          obtain rfl := Option.some.inj H
          exact N.meet (false, ()) ⟨HK39, trivial⟩ (by exact ⟨rfl, rfl, rfl, rfl, trivial⟩) (by exact fun w h => (St.pick [0] [_, _] h rfl))
      · refine C.at (s' := [(3, .pointer (some ⟨g18, 0, none⟩)), (4, .int .i64 t16.2.2.2.2.2.2.2.2.2.2.2.2.2.2.1), (5, .int .i64 t16.2.2.2.2.2.2.2.2.2.2.2.2.2.2.2), (6, .bool o36)]) (G' := cells g18 36 [.int .i64 t16.1, .int .u64 t16.2.1, .int .i64 t16.2.2.1, .string t16.2.2.2.1, .string t16.2.2.2.2.1, .int .u64 t16.2.2.2.2.2.1, .int .i64 t16.2.2.2.2.2.2.1, .int .i64 t16.2.2.2.2.2.2.2.1, .int .i64 t16.2.2.2.2.2.2.2.2.1, .string t16.2.2.2.2.2.2.2.2.2.1, .int .i64 t16.2.2.2.2.2.2.2.2.2.2.1, .int .i64 t16.2.2.2.2.2.2.2.2.2.2.2.1, .int .i64 t16.2.2.2.2.2.2.2.2.2.2.2.2.1, .int .u32 t16.2.2.2.2.2.2.2.2.2.2.2.2.2.1] :: G) rfl rfl ?_
        refine C.seq ?_
        refine C.drawn (fuel := 15) (ls := [false, false, false, false, false, false, false, false, false, false, false, false, false, false, false]) [] (cells g18 36 [.int .i64 t16.1, .int .u64 t16.2.1, .int .i64 t16.2.2.1, .string t16.2.2.2.1, .string t16.2.2.2.2.1, .int .u64 t16.2.2.2.2.2.1, .int .i64 t16.2.2.2.2.2.2.1, .int .i64 t16.2.2.2.2.2.2.2.1, .int .i64 t16.2.2.2.2.2.2.2.2.1, .string t16.2.2.2.2.2.2.2.2.2.1, .int .i64 t16.2.2.2.2.2.2.2.2.2.2.1, .int .i64 t16.2.2.2.2.2.2.2.2.2.2.2.1, .int .i64 t16.2.2.2.2.2.2.2.2.2.2.2.2.1, .int .u32 t16.2.2.2.2.2.2.2.2.2.2.2.2.2.1] :: G) mx rfl rfl ?_
        refine D.p (ls' := [true, false, false, false, false, false, false, false, false, false, false, false, false, false, false]) 0 rfl rfl rfl rfl (by kernel_rfl) rfl (Y.mv rfl) ?_
        refine D.p (ls' := [true, true, false, false, false, false, false, false, false, false, false, false, false, false, false]) 1 rfl rfl rfl rfl (by kernel_rfl) rfl (Y.mv rfl) ?_
        refine split2 H (fun c56 H => ?_) (fun c56 H => ?_)
        · refine D.as (k := 48) rfl (congrArg Value.bool (c56)) ?_
          refine D.r (ls' := [true, true, true, false, false, false, false, false, false, false, false, false, false, false, false]) 2 1 0 rfl rfl rfl rfl (by kernel_rfl) (by kernel_rfl) rfl rfl (Y.ldCA (us := [.int .i64 t16.1, .int .u64 t16.2.1, .int .i64 t16.2.2.1, .string t16.2.2.2.1, .string t16.2.2.2.2.1, .int .u64 t16.2.2.2.2.2.1, .int .i64 t16.2.2.2.2.2.2.1, .int .i64 t16.2.2.2.2.2.2.2.1, .int .i64 t16.2.2.2.2.2.2.2.2.1, .string t16.2.2.2.2.2.2.2.2.2.1, .int .i64 t16.2.2.2.2.2.2.2.2.2.2.1, .int .i64 t16.2.2.2.2.2.2.2.2.2.2.2.1, .int .i64 t16.2.2.2.2.2.2.2.2.2.2.2.2.1, .int .u32 t16.2.2.2.2.2.2.2.2.2.2.2.2.2.1]) 0 Try.underlying36 rfl ti36 rfl rfl rfl rfl) ?_
          refine D.any [3] (by kernel_rfl) rfl ⟨?_, trivial⟩
          refine DW.j (ls' := [true, true, true, true, false, false, false, false, false, false, false, false, false, false, false]) rfl rfl ?_
          refine J.want rfl ?_
          obtain ⟨t57, hC58, H⟩ := bind_some H
          refine J.call (us := []) (cap := []) rfl rfl rfl go35 (fun w hw => by have hcc := first.calls t57 hC58 w hw; exact hcc) (fun e w1 h1 => ?_)
          obtain ⟨rfl, hw61⟩ := h1
          refine ⟨_, _, rfl, hw61, ?_⟩
          refine J.nil ?_
          refine D.backK 0 rfl ?_
          refine D.p (ls' := [true, true, true, true, true, false, false, false, false, false, false, false, false, false, false]) 4 rfl rfl rfl rfl (by kernel_rfl) rfl (Y.eqst Try.eqGuardType36 rfl (EqV.struct Try.underlying36 Try.stoodInHeld36 (EqFs.cons rfl (part_one (v := .int .i64 t16.1) Try.underlying24 rfl (by kernel_rfl)) (part_one (v := .int .i64 t57.1) Try.underlying24 rfl (by kernel_rfl)) (EqV.int 2 Try.underlying24) (EqFs.cons rfl (part_agg (us := #[.int .u64 t16.2.1, .int .i64 t16.2.2.1, .string t16.2.2.2.1, .string t16.2.2.2.2.1]) Try.underlying27 rfl ti27 (by kernel_rfl)) (part_agg (us := #[.int .u64 t57.2.1, .int .i64 t57.2.2.1, .string t57.2.2.2.1, .string t57.2.2.2.2.1]) Try.underlying27 rfl ti27 (by kernel_rfl)) (EqV.struct Try.underlying27 Try.stoodInHeld27 (EqFs.cons rfl (part_one (v := .int .u64 t16.2.1) Try.underlying25 rfl (by kernel_rfl)) (part_one (v := .int .u64 t57.2.1) Try.underlying25 rfl (by kernel_rfl)) (EqV.int 1 Try.underlying25) (EqFs.cons rfl (part_one (v := .int .i64 t16.2.2.1) Try.underlying24 rfl (by kernel_rfl)) (part_one (v := .int .i64 t57.2.2.1) Try.underlying24 rfl (by kernel_rfl)) (EqV.int 1 Try.underlying24) (EqFs.cons rfl (part_one (v := .string t16.2.2.2.1) Try.underlying9 rfl (by kernel_rfl)) (part_one (v := .string t57.2.2.2.1) Try.underlying9 rfl (by kernel_rfl)) (EqV.str 1 Try.underlying9) (EqFs.cons rfl (part_one (v := .string t16.2.2.2.2.1) Try.underlying9 rfl (by kernel_rfl)) (part_one (v := .string t57.2.2.2.2.1) Try.underlying9 rfl (by kernel_rfl)) (EqV.str 1 Try.underlying9) EqFs.nil))))) (EqFs.cons rfl (part_agg (us := #[.int .u64 t16.2.2.2.2.2.1, .int .i64 t16.2.2.2.2.2.2.1, .int .i64 t16.2.2.2.2.2.2.2.1, .int .i64 t16.2.2.2.2.2.2.2.2.1, .string t16.2.2.2.2.2.2.2.2.2.1]) Try.underlying29 rfl ti29 (by kernel_rfl)) (part_agg (us := #[.int .u64 t57.2.2.2.2.2.1, .int .i64 t57.2.2.2.2.2.2.1, .int .i64 t57.2.2.2.2.2.2.2.1, .int .i64 t57.2.2.2.2.2.2.2.2.1, .string t57.2.2.2.2.2.2.2.2.2.1]) Try.underlying29 rfl ti29 (by kernel_rfl)) (EqV.struct Try.underlying29 Try.stoodInHeld29 (EqFs.cons rfl (part_one (v := .int .u64 t16.2.2.2.2.2.1) Try.underlying25 rfl (by kernel_rfl)) (part_one (v := .int .u64 t57.2.2.2.2.2.1) Try.underlying25 rfl (by kernel_rfl)) (EqV.int 1 Try.underlying25) (EqFs.cons rfl (part_one (v := .int .i64 t16.2.2.2.2.2.2.1) Try.underlying24 rfl (by kernel_rfl)) (part_one (v := .int .i64 t57.2.2.2.2.2.2.1) Try.underlying24 rfl (by kernel_rfl)) (EqV.int 1 Try.underlying24) (EqFs.cons rfl (part_one (v := .int .i64 t16.2.2.2.2.2.2.2.1) Try.underlying3 rfl (by kernel_rfl)) (part_one (v := .int .i64 t57.2.2.2.2.2.2.2.1) Try.underlying3 rfl (by kernel_rfl)) (EqV.int 1 Try.underlying3) (EqFs.cons rfl (part_one (v := .int .i64 t16.2.2.2.2.2.2.2.2.1) Try.underlying3 rfl (by kernel_rfl)) (part_one (v := .int .i64 t57.2.2.2.2.2.2.2.2.1) Try.underlying3 rfl (by kernel_rfl)) (EqV.int 1 Try.underlying3) (EqFs.cons rfl (part_one (v := .string t16.2.2.2.2.2.2.2.2.2.1) Try.underlying9 rfl (by kernel_rfl)) (part_one (v := .string t57.2.2.2.2.2.2.2.2.2.1) Try.underlying9 rfl (by kernel_rfl)) (EqV.str 1 Try.underlying9) EqFs.nil)))))) (EqFs.cons rfl (part_agg (us := #[.int .i64 t16.2.2.2.2.2.2.2.2.2.2.1, .int .i64 t16.2.2.2.2.2.2.2.2.2.2.2.1, .int .i64 t16.2.2.2.2.2.2.2.2.2.2.2.2.1, .int .u32 t16.2.2.2.2.2.2.2.2.2.2.2.2.2.1]) Try.underlying34 rfl ti34 (by kernel_rfl)) (part_agg (us := #[.int .i64 t57.2.2.2.2.2.2.2.2.2.2.1, .int .i64 t57.2.2.2.2.2.2.2.2.2.2.2.1, .int .i64 t57.2.2.2.2.2.2.2.2.2.2.2.2.1, .int .u32 t57.2.2.2.2.2.2.2.2.2.2.2.2.2]) Try.underlying34 rfl ti34 (by kernel_rfl)) (EqV.struct Try.underlying34 Try.stoodInHeld34 (EqFs.cons rfl (part_one (v := .int .i64 t16.2.2.2.2.2.2.2.2.2.2.1) Try.underlying3 rfl (by kernel_rfl)) (part_one (v := .int .i64 t57.2.2.2.2.2.2.2.2.2.2.1) Try.underlying3 rfl (by kernel_rfl)) (EqV.int 1 Try.underlying3) (EqFs.cons rfl (part_agg (us := #[.int .i64 t16.2.2.2.2.2.2.2.2.2.2.2.1, .int .i64 t16.2.2.2.2.2.2.2.2.2.2.2.2.1, .int .u32 t16.2.2.2.2.2.2.2.2.2.2.2.2.2.1]) Try.underlying32 rfl ti32 (by kernel_rfl)) (part_agg (us := #[.int .i64 t57.2.2.2.2.2.2.2.2.2.2.2.1, .int .i64 t57.2.2.2.2.2.2.2.2.2.2.2.2.1, .int .u32 t57.2.2.2.2.2.2.2.2.2.2.2.2.2]) Try.underlying32 rfl ti32 (by kernel_rfl)) (EqV.struct Try.underlying32 Try.stoodInHeld32 (EqFs.cons rfl (part_one (v := .int .i64 t16.2.2.2.2.2.2.2.2.2.2.2.1) Try.underlying3 rfl (by kernel_rfl)) (part_one (v := .int .i64 t57.2.2.2.2.2.2.2.2.2.2.2.1) Try.underlying3 rfl (by kernel_rfl)) (EqV.int 0 Try.underlying3) (EqFs.cons rfl (part_one (v := .int .i64 t16.2.2.2.2.2.2.2.2.2.2.2.2.1) Try.underlying3 rfl (by kernel_rfl)) (part_one (v := .int .i64 t57.2.2.2.2.2.2.2.2.2.2.2.2.1) Try.underlying3 rfl (by kernel_rfl)) (EqV.int 0 Try.underlying3) (EqFs.cons rfl (part_one (v := .int .u32 t16.2.2.2.2.2.2.2.2.2.2.2.2.2.1) Try.underlying30 rfl (by kernel_rfl)) (part_one (v := .int .u32 t57.2.2.2.2.2.2.2.2.2.2.2.2.2) Try.underlying30 rfl (by kernel_rfl)) (EqV.int 0 Try.underlying30) EqFs.nil)))) EqFs.nil))) EqFs.nil))))) rfl rfl) ?_
          refine D.p (ls' := [true, true, true, true, true, true, false, false, false, false, false, false, false, false, false]) 5 rfl rfl rfl rfl (by kernel_rfl) rfl (Y.pickT rfl rfl) ?_
          refine D.p (ls' := [true, true, true, true, true, true, true, false, false, false, false, false, false, false, false]) 6 rfl rfl rfl rfl (by kernel_rfl) rfl (Y.mv rfl) ?_
          refine split2 H (fun c59 H => ?_) (fun c59 H => ?_)
          · refine D.as (k := 53) rfl (congrArg Value.bool (decide_eq_true c59)) ?_
            refine D.p (ls' := [true, true, true, true, true, true, true, true, false, false, false, false, false, false, false]) 7 rfl rfl rfl rfl (by kernel_rfl) rfl (Y.mv rfl) ?_
            refine D.p (ls' := [true, true, true, true, true, true, true, true, true, false, false, false, false, false, false]) 8 rfl rfl rfl rfl (by kernel_rfl) rfl (Y.bin rfl rfl rfl) ?_
            refine D.p (ls' := [true, true, true, true, true, true, true, true, true, true, false, false, false, false, false]) 9 rfl rfl rfl rfl (by kernel_rfl) rfl (Y.pickT rfl rfl) ?_
            refine D.p (ls' := [true, true, true, true, true, true, true, true, true, true, true, false, false, false, false]) 10 rfl rfl rfl rfl (by kernel_rfl) rfl (Y.mv rfl) ?_
            refine split2 H (fun c60 H => ?_) (fun c60 H => ?_)
            · refine D.as (k := 57) rfl (congrArg Value.bool (decide_eq_true c60)) ?_
              refine D.p (ls' := [true, true, true, true, true, true, true, true, true, true, true, true, false, false, false]) 11 rfl rfl rfl rfl (by kernel_rfl) rfl (Y.mv rfl) ?_
              refine D.p (ls' := [true, true, true, true, true, true, true, true, true, true, true, true, true, false, false]) 12 rfl rfl rfl rfl (by kernel_rfl) rfl (Y.bin rfl rfl rfl) ?_
              refine D.p (ls' := [true, true, true, true, true, true, true, true, true, true, true, true, true, true, false]) 13 rfl rfl rfl rfl (by kernel_rfl) rfl (Y.pickT rfl rfl) ?_
              refine D.p (ls' := [true, true, true, true, true, true, true, true, true, true, true, true, true, true, true]) 14 rfl rfl rfl rfl (by kernel_rfl) rfl (Y.asg rfl) ?_
              refine D.nil (by kernel_rfl) ?_
              refine N.nx ?_
              refine C.ret ?_
              obtain rfl := Option.some.inj H
              exact ret_ok (ks := [0]) rfl rfl (fun w h => ⟨rfl, (St.pick [] [_] h rfl)⟩)
            · refine D.as (k := 57) rfl (congrArg Value.bool (decide_eq_false c60)) ?_
              refine D.off (ls' := [true, true, true, true, true, true, true, true, true, true, true, true, false, false, false]) 11 rfl rfl rfl rfl (by kernel_rfl) rfl ?_
              refine D.off (ls' := [true, true, true, true, true, true, true, true, true, true, true, true, true, false, false]) 12 rfl rfl rfl rfl (by kernel_rfl) rfl ?_
              refine D.p (ls' := [true, true, true, true, true, true, true, true, true, true, true, true, true, true, false]) 13 rfl rfl rfl rfl (by kernel_rfl) rfl (Y.pickF rfl rfl) ?_
              refine D.p (ls' := [true, true, true, true, true, true, true, true, true, true, true, true, true, true, true]) 14 rfl rfl rfl rfl (by kernel_rfl) rfl (Y.asg rfl) ?_
              refine D.nil (by kernel_rfl) ?_
              refine N.nx ?_
              refine C.ret ?_
              obtain rfl := Option.some.inj H
              exact ret_ok (ks := [0]) rfl rfl (fun w h => ⟨rfl, (St.pick [] [_] h rfl)⟩)
          · refine D.as (k := 53) rfl (congrArg Value.bool (decide_eq_false c59)) ?_
            refine D.off (ls' := [true, true, true, true, true, true, true, true, false, false, false, false, false, false, false]) 7 rfl rfl rfl rfl (by kernel_rfl) rfl ?_
            refine D.off (ls' := [true, true, true, true, true, true, true, true, true, false, false, false, false, false, false]) 8 rfl rfl rfl rfl (by kernel_rfl) rfl ?_
            refine D.p (ls' := [true, true, true, true, true, true, true, true, true, true, false, false, false, false, false]) 9 rfl rfl rfl rfl (by kernel_rfl) rfl (Y.pickF rfl rfl) ?_
            refine D.p (ls' := [true, true, true, true, true, true, true, true, true, true, true, false, false, false, false]) 10 rfl rfl rfl rfl (by kernel_rfl) rfl (Y.mv rfl) ?_
            refine D.off (ls' := [true, true, true, true, true, true, true, true, true, true, true, true, false, false, false]) 11 rfl rfl rfl rfl (by kernel_rfl) rfl ?_
            refine D.off (ls' := [true, true, true, true, true, true, true, true, true, true, true, true, true, false, false]) 12 rfl rfl rfl rfl (by kernel_rfl) rfl ?_
            refine D.p (ls' := [true, true, true, true, true, true, true, true, true, true, true, true, true, true, false]) 13 rfl rfl rfl rfl (by kernel_rfl) rfl (Y.pickF rfl rfl) ?_
            refine D.p (ls' := [true, true, true, true, true, true, true, true, true, true, true, true, true, true, true]) 14 rfl rfl rfl rfl (by kernel_rfl) rfl (Y.asg rfl) ?_
            refine D.nil (by kernel_rfl) ?_
            refine N.nx ?_
            refine C.ret ?_
            obtain rfl := Option.some.inj H
            exact ret_ok (ks := [0]) rfl rfl (fun w h => ⟨rfl, (St.pick [] [_] h rfl)⟩)
        · refine D.as (k := 48) rfl (congrArg Value.bool (nt c56)) ?_
          refine D.off (ls' := [true, true, true, false, false, false, false, false, false, false, false, false, false, false, false]) 2 rfl rfl rfl rfl (by kernel_rfl) rfl ?_
          refine D.off (ls' := [true, true, true, true, false, false, false, false, false, false, false, false, false, false, false]) 3 rfl rfl rfl rfl (by kernel_rfl) rfl ?_
          refine D.off (ls' := [true, true, true, true, true, false, false, false, false, false, false, false, false, false, false]) 4 rfl rfl rfl rfl (by kernel_rfl) rfl ?_
          refine D.p (ls' := [true, true, true, true, true, true, false, false, false, false, false, false, false, false, false]) 5 rfl rfl rfl rfl (by kernel_rfl) rfl (Y.pickF rfl rfl) ?_
          refine D.p (ls' := [true, true, true, true, true, true, true, false, false, false, false, false, false, false, false]) 6 rfl rfl rfl rfl (by kernel_rfl) rfl (Y.mv rfl) ?_
          refine D.off (ls' := [true, true, true, true, true, true, true, true, false, false, false, false, false, false, false]) 7 rfl rfl rfl rfl (by kernel_rfl) rfl ?_
          refine D.off (ls' := [true, true, true, true, true, true, true, true, true, false, false, false, false, false, false]) 8 rfl rfl rfl rfl (by kernel_rfl) rfl ?_
          refine D.p (ls' := [true, true, true, true, true, true, true, true, true, true, false, false, false, false, false]) 9 rfl rfl rfl rfl (by kernel_rfl) rfl (Y.pickF rfl rfl) ?_
          refine D.p (ls' := [true, true, true, true, true, true, true, true, true, true, true, false, false, false, false]) 10 rfl rfl rfl rfl (by kernel_rfl) rfl (Y.mv rfl) ?_
          refine D.off (ls' := [true, true, true, true, true, true, true, true, true, true, true, true, false, false, false]) 11 rfl rfl rfl rfl (by kernel_rfl) rfl ?_
          refine D.off (ls' := [true, true, true, true, true, true, true, true, true, true, true, true, true, false, false]) 12 rfl rfl rfl rfl (by kernel_rfl) rfl ?_
          refine D.p (ls' := [true, true, true, true, true, true, true, true, true, true, true, true, true, true, false]) 13 rfl rfl rfl rfl (by kernel_rfl) rfl (Y.pickF rfl rfl) ?_
          refine D.p (ls' := [true, true, true, true, true, true, true, true, true, true, true, true, true, true, true]) 14 rfl rfl rfl rfl (by kernel_rfl) rfl (Y.asg rfl) ?_
          refine D.nil (by kernel_rfl) ?_
          refine N.nx ?_
          refine C.ret ?_
          obtain rfl := Option.some.inj H
          exact ret_ok (ks := [0]) rfl rfl (fun w h => ⟨rfl, (St.pick [] [_] h rfl)⟩)
end Go.Proofs.Ytakolnamobkkkaa
