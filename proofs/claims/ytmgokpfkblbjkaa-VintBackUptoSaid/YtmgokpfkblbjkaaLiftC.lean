/- Own text, printed by the lifting program: each Go function beside a plain function, and the proof that a call of the one comes to the other. Conditions: what came in can be read. -/
import Derived.Test.YtmgokpfkblbjkaaLiftB
set_option linter.unusedVariables false
set_option linter.unusedSimpArgs false
set_option maxRecDepth 10000
namespace Go.Proofs.Ytmgokpfkblbjkaa
open Go Go.Sx
def str1 : ByteArray := (⟨((List.append (List.append ([0, 1, 2, 2, 3, 3, 3, 3, 4, 4, 4, 4, 4, 4, 4, 4, 5, 5, 5, 5, 5, 5, 5, 5, 5, 5, 5, 5, 5, 5, 5, 5, 6, 6, 6, 6, 6, 6, 6, 6, 6, 6, 6, 6, 6, 6, 6, 6, 6, 6, 6, 6, 6, 6, 6, 6, 6, 6, 6, 6, 6, 6, 6, 6] : List UInt8) ([7, 7, 7, 7, 7, 7, 7, 7, 7, 7, 7, 7, 7, 7, 7, 7, 7, 7, 7, 7, 7, 7, 7, 7, 7, 7, 7, 7, 7, 7, 7, 7, 7, 7, 7, 7, 7, 7, 7, 7, 7, 7, 7, 7, 7, 7, 7, 7, 7, 7, 7, 7, 7, 7, 7, 7, 7, 7, 7, 7, 7, 7, 7, 7] : List UInt8)) (List.append ([8, 8, 8, 8, 8, 8, 8, 8, 8, 8, 8, 8, 8, 8, 8, 8, 8, 8, 8, 8, 8, 8, 8, 8, 8, 8, 8, 8, 8, 8, 8, 8, 8, 8, 8, 8, 8, 8, 8, 8, 8, 8, 8, 8, 8, 8, 8, 8, 8, 8, 8, 8, 8, 8, 8, 8, 8, 8, 8, 8, 8, 8, 8, 8] : List UInt8) ([8, 8, 8, 8, 8, 8, 8, 8, 8, 8, 8, 8, 8, 8, 8, 8, 8, 8, 8, 8, 8, 8, 8, 8, 8, 8, 8, 8, 8, 8, 8, 8, 8, 8, 8, 8, 8, 8, 8, 8, 8, 8, 8, 8, 8, 8, 8, 8, 8, 8, 8, 8, 8, 8, 8, 8, 8, 8, 8, 8, 8, 8, 8, 8] : List UInt8)))).toArray⟩ : ByteArray)
theorem go31 : GoF Try.prog 31 := GoF.of Try.func31 (by kernel_rfl) (by kernel_rfl)
theorem go41 : GoF Try.prog 41 := GoF.of Try.func41 (by kernel_rfl) (by kernel_rfl)
/-! ### math/bits.Len64: function 41 -/
def Len64.f (a0 : Int) : Option (Int) := if 4294967296 ≤ a0 then (if 65536 ≤ (Sx.shr .u64 a0 32) then (if 256 ≤ (Sx.shr .u64 (Sx.shr .u64 a0 32) 16) then (gd ((0 : Int) ≤ (IntKind.wrap .u8 (Sx.shr .u64 (Sx.shr .u64 (Sx.shr .u64 a0 32) 16) 8)) ∧ (IntKind.wrap .u8 (Sx.shr .u64 (Sx.shr .u64 (Sx.shr .u64 a0 32) 16) 8)) < (str1.size : Int)) (some (IntKind.wrap .i64 ((IntKind.wrap .i64 ((IntKind.wrap .i64 (32 + 16)) + 8)) + (IntKind.wrap .i64 (bt str1 (IntKind.wrap .u8 (Sx.shr .u64 (Sx.shr .u64 (Sx.shr .u64 a0 32) 16) 8)))))))) else (gd ((0 : Int) ≤ (IntKind.wrap .u8 (Sx.shr .u64 (Sx.shr .u64 a0 32) 16)) ∧ (IntKind.wrap .u8 (Sx.shr .u64 (Sx.shr .u64 a0 32) 16)) < (str1.size : Int)) (some (IntKind.wrap .i64 ((IntKind.wrap .i64 (32 + 16)) + (IntKind.wrap .i64 (bt str1 (IntKind.wrap .u8 (Sx.shr .u64 (Sx.shr .u64 a0 32) 16))))))))) else (if 256 ≤ (Sx.shr .u64 a0 32) then (gd ((0 : Int) ≤ (IntKind.wrap .u8 (Sx.shr .u64 (Sx.shr .u64 a0 32) 8)) ∧ (IntKind.wrap .u8 (Sx.shr .u64 (Sx.shr .u64 a0 32) 8)) < (str1.size : Int)) (some (IntKind.wrap .i64 ((IntKind.wrap .i64 (32 + 8)) + (IntKind.wrap .i64 (bt str1 (IntKind.wrap .u8 (Sx.shr .u64 (Sx.shr .u64 a0 32) 8)))))))) else (gd ((0 : Int) ≤ (IntKind.wrap .u8 (Sx.shr .u64 a0 32)) ∧ (IntKind.wrap .u8 (Sx.shr .u64 a0 32)) < (str1.size : Int)) (some (IntKind.wrap .i64 (32 + (IntKind.wrap .i64 (bt str1 (IntKind.wrap .u8 (Sx.shr .u64 a0 32)))))))))) else (if 65536 ≤ a0 then (if 256 ≤ (Sx.shr .u64 a0 16) then (gd ((0 : Int) ≤ (IntKind.wrap .u8 (Sx.shr .u64 (Sx.shr .u64 a0 16) 8)) ∧ (IntKind.wrap .u8 (Sx.shr .u64 (Sx.shr .u64 a0 16) 8)) < (str1.size : Int)) (some (IntKind.wrap .i64 ((IntKind.wrap .i64 ((IntKind.wrap .i64 (0 + 16)) + 8)) + (IntKind.wrap .i64 (bt str1 (IntKind.wrap .u8 (Sx.shr .u64 (Sx.shr .u64 a0 16) 8)))))))) else (gd ((0 : Int) ≤ (IntKind.wrap .u8 (Sx.shr .u64 a0 16)) ∧ (IntKind.wrap .u8 (Sx.shr .u64 a0 16)) < (str1.size : Int)) (some (IntKind.wrap .i64 ((IntKind.wrap .i64 (0 + 16)) + (IntKind.wrap .i64 (bt str1 (IntKind.wrap .u8 (Sx.shr .u64 a0 16))))))))) else (if 256 ≤ a0 then (gd ((0 : Int) ≤ (IntKind.wrap .u8 (Sx.shr .u64 a0 8)) ∧ (IntKind.wrap .u8 (Sx.shr .u64 a0 8)) < (str1.size : Int)) (some (IntKind.wrap .i64 ((IntKind.wrap .i64 (0 + 8)) + (IntKind.wrap .i64 (bt str1 (IntKind.wrap .u8 (Sx.shr .u64 a0 8)))))))) else (gd ((0 : Int) ≤ (IntKind.wrap .u8 a0) ∧ (IntKind.wrap .u8 a0) < (str1.size : Int)) (some (IntKind.wrap .i64 (0 + (IntKind.wrap .i64 (bt str1 (IntKind.wrap .u8 a0)))))))))
theorem Len64.calls {B : Nat} {w0 : World} {G : List HP} (a0 : Int) (r : Int) (H : Len64.f a0 = some r) (w : World) (hw : St B w0 (G) w) :
    Calls Try.prog 41 [.int .u64 a0].toArray w (fun e w' => e = .returned (.int .i64 r) ∧ St B w0 (G) w') := by
  unfold Len64.f at H
  refine calls_of (n := 25) (s := [(0, .int .u64 a0)]) Try.func41 rfl rfl rfl rfl ?_ hw
  refine C.rs ?_
  refine J.p rfl rfl rfl rfl (Y.asg rfl) ?_
  refine J.nx ?_
  refine C.seq ?_
  refine C.rs ?_
  refine J.p rfl rfl rfl rfl (Y.mv rfl) ?_
  refine J.p rfl rfl rfl rfl (Y.bin rfl rfl rfl) ?_
  refine J.nx ?_
  refine split2 H (fun c1 H => ?_) (fun c1 H => ?_)
  · refine C.condT (congrArg (fun b => some (Value.bool b)) (decide_eq_true c1)) ?_
    refine C.rs ?_
    refine J.p rfl rfl rfl rfl (Y.mv rfl) ?_
    refine J.p rfl rfl rfl rfl (Y.shr rfl rfl (by decide)) ?_
    refine J.p rfl rfl rfl rfl (Y.asg rfl) ?_
    refine J.nx ?_
    refine C.reg ?_
    refine J.p rfl rfl rfl rfl (Y.asg rfl) ?_
    refine J.nx ?_
    refine C.seq ?_
    refine C.rs ?_
    refine J.p rfl rfl rfl rfl (Y.mv rfl) ?_
    refine J.p rfl rfl rfl rfl (Y.bin rfl rfl rfl) ?_
    refine J.nx ?_
    refine split2 H (fun c2 H => ?_) (fun c2 H => ?_)
    · refine C.condT (congrArg (fun b => some (Value.bool b)) (decide_eq_true c2)) ?_
      refine C.rs ?_
      refine J.p rfl rfl rfl rfl (Y.mv rfl) ?_
      refine J.p rfl rfl rfl rfl (Y.shr rfl rfl (by decide)) ?_
      refine J.p rfl rfl rfl rfl (Y.asg rfl) ?_
      refine J.nx ?_
      refine C.reg ?_
      refine J.p rfl rfl rfl rfl (Y.mv rfl) ?_
      refine J.p rfl rfl rfl rfl (Y.bin rfl rfl rfl) ?_
      refine J.p rfl rfl rfl rfl (Y.asg rfl) ?_
      refine J.nx ?_
      refine C.seq ?_
      refine C.rs ?_
      refine J.p rfl rfl rfl rfl (Y.mv rfl) ?_
      refine J.p rfl rfl rfl rfl (Y.bin rfl rfl rfl) ?_
      refine J.nx ?_
      refine split2 H (fun c3 H => ?_) (fun c3 H => ?_)
      · refine C.condT (congrArg (fun b => some (Value.bool b)) (decide_eq_true c3)) ?_
        refine C.rs ?_
        refine J.p rfl rfl rfl rfl (Y.mv rfl) ?_
        refine J.p rfl rfl rfl rfl (Y.shr rfl rfl (by decide)) ?_
        refine J.p rfl rfl rfl rfl (Y.asg rfl) ?_
        refine J.nx ?_
        refine C.reg ?_
        refine J.p rfl rfl rfl rfl (Y.mv rfl) ?_
        refine J.p rfl rfl rfl rfl (Y.bin rfl rfl rfl) ?_
        refine J.p rfl rfl rfl rfl (Y.asg rfl) ?_
        refine J.nx ?_
        refine C.rs ?_
        refine J.p rfl rfl rfl rfl (Y.mv rfl) ?_
        refine J.p rfl rfl rfl rfl (Y.mv rfl) ?_
        refine J.p rfl rfl rfl rfl (Y.conv Try.underlying24 Try.underlying5 rfl) ?_
        obtain ⟨p4, H⟩ := gd_some H
        refine J.p rfl rfl rfl rfl (Y.ixT Try.underlying9 rfl rfl p4) ?_
        refine J.p rfl rfl rfl rfl (Y.conv Try.underlying5 Try.underlying3 rfl) ?_
        refine J.p rfl rfl rfl rfl (Y.bin rfl rfl rfl) ?_
        refine J.p rfl rfl rfl rfl (Y.asg rfl) ?_
        refine J.nx ?_
        refine C.ret ?_
        obtain rfl := Option.some.inj H
        exact ret_ok (ks := [2]) rfl rfl (fun w h => ⟨rfl, h⟩)
      · refine C.condF (congrArg (fun b => some (Value.bool b)) (decide_eq_false c3)) ?_
        refine C.skip ?_
        refine N.nx ?_
        refine C.rs ?_
        refine J.p rfl rfl rfl rfl (Y.mv rfl) ?_
        refine J.p rfl rfl rfl rfl (Y.mv rfl) ?_
        refine J.p rfl rfl rfl rfl (Y.conv Try.underlying24 Try.underlying5 rfl) ?_
        obtain ⟨p5, H⟩ := gd_some H
        refine J.p rfl rfl rfl rfl (Y.ixT Try.underlying9 rfl rfl p5) ?_
        refine J.p rfl rfl rfl rfl (Y.conv Try.underlying5 Try.underlying3 rfl) ?_
        refine J.p rfl rfl rfl rfl (Y.bin rfl rfl rfl) ?_
        refine J.p rfl rfl rfl rfl (Y.asg rfl) ?_
        refine J.nx ?_
        refine C.ret ?_
        obtain rfl := Option.some.inj H
        exact ret_ok (ks := [2]) rfl rfl (fun w h => ⟨rfl, h⟩)
    · refine C.condF (congrArg (fun b => some (Value.bool b)) (decide_eq_false c2)) ?_
      refine C.skip ?_
      refine N.nx ?_
      refine C.seq ?_
      refine C.rs ?_
      refine J.p rfl rfl rfl rfl (Y.mv rfl) ?_
      refine J.p rfl rfl rfl rfl (Y.bin rfl rfl rfl) ?_
      refine J.nx ?_
      refine split2 H (fun c6 H => ?_) (fun c6 H => ?_)
      · refine C.condT (congrArg (fun b => some (Value.bool b)) (decide_eq_true c6)) ?_
        refine C.rs ?_
        refine J.p rfl rfl rfl rfl (Y.mv rfl) ?_
        refine J.p rfl rfl rfl rfl (Y.shr rfl rfl (by decide)) ?_
        refine J.p rfl rfl rfl rfl (Y.asg rfl) ?_
        refine J.nx ?_
        refine C.reg ?_
        refine J.p rfl rfl rfl rfl (Y.mv rfl) ?_
        refine J.p rfl rfl rfl rfl (Y.bin rfl rfl rfl) ?_
        refine J.p rfl rfl rfl rfl (Y.asg rfl) ?_
        refine J.nx ?_
        refine C.rs ?_
        refine J.p rfl rfl rfl rfl (Y.mv rfl) ?_
        refine J.p rfl rfl rfl rfl (Y.mv rfl) ?_
        refine J.p rfl rfl rfl rfl (Y.conv Try.underlying24 Try.underlying5 rfl) ?_
        obtain ⟨p7, H⟩ := gd_some H
        refine J.p rfl rfl rfl rfl (Y.ixT Try.underlying9 rfl rfl p7) ?_
        refine J.p rfl rfl rfl rfl (Y.conv Try.underlying5 Try.underlying3 rfl) ?_
        refine J.p rfl rfl rfl rfl (Y.bin rfl rfl rfl) ?_
        refine J.p rfl rfl rfl rfl (Y.asg rfl) ?_
        refine J.nx ?_
        refine C.ret ?_
        obtain rfl := Option.some.inj H
        exact ret_ok (ks := [2]) rfl rfl (fun w h => ⟨rfl, h⟩)
      · refine C.condF (congrArg (fun b => some (Value.bool b)) (decide_eq_false c6)) ?_
        refine C.skip ?_
        refine N.nx ?_
        refine C.rs ?_
        refine J.p rfl rfl rfl rfl (Y.mv rfl) ?_
        refine J.p rfl rfl rfl rfl (Y.mv rfl) ?_
        refine J.p rfl rfl rfl rfl (Y.conv Try.underlying24 Try.underlying5 rfl) ?_
        obtain ⟨p8, H⟩ := gd_some H
        refine J.p rfl rfl rfl rfl (Y.ixT Try.underlying9 rfl rfl p8) ?_
        refine J.p rfl rfl rfl rfl (Y.conv Try.underlying5 Try.underlying3 rfl) ?_
        refine J.p rfl rfl rfl rfl (Y.bin rfl rfl rfl) ?_
        refine J.p rfl rfl rfl rfl (Y.asg rfl) ?_
        refine J.nx ?_
        refine C.ret ?_
        obtain rfl := Option.some.inj H
        exact ret_ok (ks := [2]) rfl rfl (fun w h => ⟨rfl, h⟩)
  · refine C.condF (congrArg (fun b => some (Value.bool b)) (decide_eq_false c1)) ?_
    refine C.skip ?_
    refine N.nx ?_
    refine C.seq ?_
    refine C.rs ?_
    refine J.p rfl rfl rfl rfl (Y.mv rfl) ?_
    refine J.p rfl rfl rfl rfl (Y.bin rfl rfl rfl) ?_
    refine J.nx ?_
    refine split2 H (fun c9 H => ?_) (fun c9 H => ?_)
    · refine C.condT (congrArg (fun b => some (Value.bool b)) (decide_eq_true c9)) ?_
      refine C.rs ?_
      refine J.p rfl rfl rfl rfl (Y.mv rfl) ?_
      refine J.p rfl rfl rfl rfl (Y.shr rfl rfl (by decide)) ?_
      refine J.p rfl rfl rfl rfl (Y.asg rfl) ?_
      refine J.nx ?_
      refine C.reg ?_
      refine J.p rfl rfl rfl rfl (Y.mv rfl) ?_
      refine J.p rfl rfl rfl rfl (Y.bin rfl rfl rfl) ?_
      refine J.p rfl rfl rfl rfl (Y.asg rfl) ?_
      refine J.nx ?_
      refine C.seq ?_
      refine C.rs ?_
      refine J.p rfl rfl rfl rfl (Y.mv rfl) ?_
      refine J.p rfl rfl rfl rfl (Y.bin rfl rfl rfl) ?_
      refine J.nx ?_
      refine split2 H (fun c10 H => ?_) (fun c10 H => ?_)
      · refine C.condT (congrArg (fun b => some (Value.bool b)) (decide_eq_true c10)) ?_
        refine C.rs ?_
        refine J.p rfl rfl rfl rfl (Y.mv rfl) ?_
        refine J.p rfl rfl rfl rfl (Y.shr rfl rfl (by decide)) ?_
        refine J.p rfl rfl rfl rfl (Y.asg rfl) ?_
        refine J.nx ?_
        refine C.reg ?_
        refine J.p rfl rfl rfl rfl (Y.mv rfl) ?_
        refine J.p rfl rfl rfl rfl (Y.bin rfl rfl rfl) ?_
        refine J.p rfl rfl rfl rfl (Y.asg rfl) ?_
        refine J.nx ?_
        refine C.rs ?_
        refine J.p rfl rfl rfl rfl (Y.mv rfl) ?_
        refine J.p rfl rfl rfl rfl (Y.mv rfl) ?_
        refine J.p rfl rfl rfl rfl (Y.conv Try.underlying24 Try.underlying5 rfl) ?_
        obtain ⟨p11, H⟩ := gd_some H
        refine J.p rfl rfl rfl rfl (Y.ixT Try.underlying9 rfl rfl p11) ?_
        refine J.p rfl rfl rfl rfl (Y.conv Try.underlying5 Try.underlying3 rfl) ?_
        refine J.p rfl rfl rfl rfl (Y.bin rfl rfl rfl) ?_
        refine J.p rfl rfl rfl rfl (Y.asg rfl) ?_
        refine J.nx ?_
        refine C.ret ?_
        obtain rfl := Option.some.inj H
        exact ret_ok (ks := [2]) rfl rfl (fun w h => ⟨rfl, h⟩)
      · refine C.condF (congrArg (fun b => some (Value.bool b)) (decide_eq_false c10)) ?_
        refine C.skip ?_
        refine N.nx ?_
        refine C.rs ?_
        refine J.p rfl rfl rfl rfl (Y.mv rfl) ?_
        refine J.p rfl rfl rfl rfl (Y.mv rfl) ?_
        refine J.p rfl rfl rfl rfl (Y.conv Try.underlying24 Try.underlying5 rfl) ?_
        obtain ⟨p12, H⟩ := gd_some H
        refine J.p rfl rfl rfl rfl (Y.ixT Try.underlying9 rfl rfl p12) ?_
        refine J.p rfl rfl rfl rfl (Y.conv Try.underlying5 Try.underlying3 rfl) ?_
        refine J.p rfl rfl rfl rfl (Y.bin rfl rfl rfl) ?_
        refine J.p rfl rfl rfl rfl (Y.asg rfl) ?_
        refine J.nx ?_
        refine C.ret ?_
        obtain rfl := Option.some.inj H
        exact ret_ok (ks := [2]) rfl rfl (fun w h => ⟨rfl, h⟩)
    · refine C.condF (congrArg (fun b => some (Value.bool b)) (decide_eq_false c9)) ?_
      refine C.skip ?_
      refine N.nx ?_
      refine C.seq ?_
      refine C.rs ?_
      refine J.p rfl rfl rfl rfl (Y.mv rfl) ?_
      refine J.p rfl rfl rfl rfl (Y.bin rfl rfl rfl) ?_
      refine J.nx ?_
      refine split2 H (fun c13 H => ?_) (fun c13 H => ?_)
      · refine C.condT (congrArg (fun b => some (Value.bool b)) (decide_eq_true c13)) ?_
        refine C.rs ?_
        refine J.p rfl rfl rfl rfl (Y.mv rfl) ?_
        refine J.p rfl rfl rfl rfl (Y.shr rfl rfl (by decide)) ?_
        refine J.p rfl rfl rfl rfl (Y.asg rfl) ?_
        refine J.nx ?_
        refine C.reg ?_
        refine J.p rfl rfl rfl rfl (Y.mv rfl) ?_
        refine J.p rfl rfl rfl rfl (Y.bin rfl rfl rfl) ?_
        refine J.p rfl rfl rfl rfl (Y.asg rfl) ?_
        refine J.nx ?_
        refine C.rs ?_
        refine J.p rfl rfl rfl rfl (Y.mv rfl) ?_
        refine J.p rfl rfl rfl rfl (Y.mv rfl) ?_
        refine J.p rfl rfl rfl rfl (Y.conv Try.underlying24 Try.underlying5 rfl) ?_
        obtain ⟨p14, H⟩ := gd_some H
        refine J.p rfl rfl rfl rfl (Y.ixT Try.underlying9 rfl rfl p14) ?_
        refine J.p rfl rfl rfl rfl (Y.conv Try.underlying5 Try.underlying3 rfl) ?_
        refine J.p rfl rfl rfl rfl (Y.bin rfl rfl rfl) ?_
        refine J.p rfl rfl rfl rfl (Y.asg rfl) ?_
        refine J.nx ?_
        refine C.ret ?_
        obtain rfl := Option.some.inj H
        exact ret_ok (ks := [2]) rfl rfl (fun w h => ⟨rfl, h⟩)
      · refine C.condF (congrArg (fun b => some (Value.bool b)) (decide_eq_false c13)) ?_
        refine C.skip ?_
        refine N.nx ?_
        refine C.rs ?_
        refine J.p rfl rfl rfl rfl (Y.mv rfl) ?_
        refine J.p rfl rfl rfl rfl (Y.mv rfl) ?_
        refine J.p rfl rfl rfl rfl (Y.conv Try.underlying24 Try.underlying5 rfl) ?_
        obtain ⟨p15, H⟩ := gd_some H
        refine J.p rfl rfl rfl rfl (Y.ixT Try.underlying9 rfl rfl p15) ?_
        refine J.p rfl rfl rfl rfl (Y.conv Try.underlying5 Try.underlying3 rfl) ?_
        refine J.p rfl rfl rfl rfl (Y.bin rfl rfl rfl) ?_
        refine J.p rfl rfl rfl rfl (Y.asg rfl) ?_
        refine J.nx ?_
        refine C.ret ?_
        obtain rfl := Option.some.inj H
        exact ret_ok (ks := [2]) rfl rfl (fun w h => ⟨rfl, h⟩)
/-! ### salvor/vint.Size: function 31 -/
def Size.l1 (a0 : List Int) : Nat → (Int × Int) → Option (Int)
  | 0, _ => none
  | k + 1, i35 => if i35.2 < (a0.length : Int) then (gd ((0 : Int) ≤ i35.2 ∧ i35.2 < (a0.length : Int)) ((Len64.f (rd a0 i35.2)).bind fun t39 => Size.l1 a0 k (IntKind.wrap .i64 (i35.1 + (max 1 (IntKind.wrap .i64 (Int.tdiv (IntKind.wrap .i64 (t39 + 6)) 7)))), IntKind.wrap .i64 (i35.2 + 1)))) else (some i35.1)
def Size.f (K : Nat) (a0 : List Int) : Option (Int) := (Size.l1 a0 K (0, 0)).bind fun o18 => some o18
theorem Size.calls {B : Nat} {w0 : World} {G : List HP} (K : Nat) (a0 : List Int) (Aa0 : Option Addr) (ca0 : Nat) (ha0 : RdG B w0 G Aa0 (a0.map (Value.int .u64))) (ka0 : a0.length ≤ ca0) (r : Int) (H : Size.f K a0 = some r) (w : World) (hw : St B w0 (G) w) :
    Calls Try.prog 31 [.slice Aa0 a0.length ca0].toArray w (fun e w' => e = .returned (.int .i64 r) ∧ St B w0 (G) w') := by
  unfold Size.f at H
  refine calls_of (n := 21) (s := [(0, .slice Aa0 a0.length ca0)]) Try.func31 rfl rfl rfl rfl ?_ hw
  refine C.rs ?_
  refine J.p rfl rfl rfl rfl (Y.asg rfl) ?_
  refine J.nx ?_
  refine C.rs ?_
  refine J.p rfl rfl rfl rfl (Y.asg rfl) ?_
  refine J.nx ?_
  refine C.seq ?_
  refine C.rs ?_
  refine J.p rfl rfl rfl rfl (Y.mv rfl) ?_
  refine J.p rfl rfl rfl rfl (Y.lenS Try.underlying52 rfl) ?_
  refine J.p rfl rfl rfl rfl (Y.mv rfl) ?_
  refine J.nx ?_
  refine C.joinN H (fun (o18 : Int) (j19 : Unit) => [(3, .int .i64 o18)]) (fun (o18 : Int) (j19 : Unit) => G) (fun (o18 : Int) (j19 : Unit) => True) (fun o16 H HK17 => ?_) (fun o18 j19 H _ => ?_)
  · refine C.blk ?_
    refine C.loop (fun (i : Nat × (Int × Int) × (Unit)) => [(3, .int .i64 i.2.1.1), (6, .slice Aa0 a0.length ca0), (7, .int .i64 (a0.length : Int)), (8, .int .i64 i.2.1.2)]) (fun (i : Nat × (Int × Int) × (Unit)) => G) (fun (i : Nat × (Int × Int) × (Unit)) => Size.l1 a0 i.1 i.2.1 = some o16 ∧ (True)) (fun i => i.1) (K, (0, 0), ()) ⟨H, trivial⟩ (by exact ⟨rfl, rfl, rfl, rfl, trivial⟩) (by exact fun w h => h) ?_
    rintro ⟨k42, i35, j36⟩ ⟨H, _⟩
    replace H : Size.l1 a0 k42 i35 = some o16 := H
    obtain ⟨k34, rfl⟩ : ∃ m, k42 = m + 1 := by cases k42 with | zero => exact absurd H (by simp [Size.l1]) | succ m => exact ⟨m, rfl⟩
    rw [Size.l1] at H
    refine C.at (s' := [(3, .int .i64 i35.1), (6, .slice Aa0 a0.length ca0), (7, .int .i64 (a0.length : Int)), (8, .int .i64 i35.2)]) (G' := G) rfl rfl ?_
    refine C.rs ?_
    refine J.p rfl rfl rfl rfl (Y.bin rfl rfl rfl) ?_
    refine J.nx ?_
    refine C.seq ?_
    refine split2 H (fun c37 H => ?_) (fun c37 H => ?_)
    · refine C.condT (congrArg (fun b => some (Value.bool b)) (decide_eq_true c37)) ?_
      refine C.skip ?_
      refine N.nx ?_
      refine C.seq ?_
      refine C.blk ?_
      refine C.rs ?_
      obtain ⟨p38, H⟩ := gd_some H
      refine J.el rfl rfl rfl Try.underlying52 ti24 Try.underlying24 rfl rfl rfl p38 ha0 ?_
      refine J.p rfl rfl rfl rfl (Y.asg rfl) ?_
      refine J.nx ?_
      refine C.reg ?_
      refine J.p rfl rfl rfl rfl (Y.mv rfl) ?_
      refine J.p rfl rfl rfl rfl (Y.mv rfl) ?_
      obtain ⟨t39, hC40, H⟩ := bind_some H
      refine J.call (us := []) (cap := []) rfl rfl rfl go41 (fun w hw => Len64.calls (rd a0 i35.2) t39 hC40 w hw) (fun e w1 h1 => ?_)
      obtain ⟨rfl, hw41⟩ := h1
      refine ⟨_, _, rfl, hw41, ?_⟩
      refine J.p rfl rfl rfl rfl (Y.bin rfl rfl rfl) ?_
      refine J.p rfl rfl rfl rfl (Y.quo rfl rfl (by decide)) ?_
      refine J.p rfl rfl rfl rfl (Y.mx rfl rfl) ?_
      refine J.p rfl rfl rfl rfl (Y.bin rfl rfl rfl) ?_
      refine J.p rfl rfl rfl rfl (Y.asg rfl) ?_
      refine J.nil ?_
      refine N.ib ?_
      refine N.nx ?_
      refine C.reg ?_
      refine J.p rfl rfl rfl rfl (Y.bin rfl rfl rfl) ?_
      refine J.p rfl rfl rfl rfl (Y.mv rfl) ?_
      refine J.nil ?_
      exact N.again (k34, (IntKind.wrap .i64 (i35.1 + (max 1 (IntKind.wrap .i64 (Int.tdiv (IntKind.wrap .i64 (t39 + 6)) 7)))), IntKind.wrap .i64 (i35.2 + 1)), ()) ⟨H, trivial⟩ (Nat.lt_succ_self _) (by exact ⟨rfl, rfl, rfl, rfl, trivial⟩) (by exact fun w h => h)
    · refine C.condF (congrArg (fun b => some (Value.bool b)) (decide_eq_false c37)) ?_
      refine C.exit ?_
      refine X.th ?_
      refine X.th ?_
      refine X.hit ?_
      obtain rfl := Option.some.inj H
      exact N.meet (i35.1, ()) ⟨HK17, trivial⟩ (by exact ⟨rfl, trivial⟩) (by exact fun w h => h)
  · refine N.at (s' := [(3, .int .i64 o18)]) (G' := G) rfl rfl ?_
    refine N.nx ?_
    refine C.rs ?_
    refine J.p rfl rfl rfl rfl (Y.mv rfl) ?_
    refine J.p rfl rfl rfl rfl (Y.asg rfl) ?_
    refine J.nx ?_
    refine C.ret ?_
    obtain rfl := Option.some.inj H
    exact ret_ok (ks := [2]) rfl rfl (fun w h => ⟨rfl, h⟩)
/-! ### salvor/salvorlaw2.VintBack: function 12 -/
def VintBack.l1 (K : Nat) (a0 : List Int) : Nat → ((List Int) × Int) → Option ((Bool) ⊕ ((List Int)))
  | 0, _ => none
  | k + 1, i132 => if i132.2 < (a0.length : Int) then ((Decode.f K i132.1).bind fun t137 => (if t137.2.2 ≠ 0 then (some (i132.1, true)) else (gd ((0 : Int) ≤ i132.2 ∧ i132.2 < (a0.length : Int)) (gd ((0 : Int) ≤ i132.2 ∧ i132.2 < (a0.length : Int)) (if t137.1 ≠ (rd a0 i132.2) then (some (i132.1, true)) else (if t137.2.1 < 1 then (some (i132.1, true)) else (if (i132.1.length : Int) < t137.2.1 then (some (i132.1, true)) else (gd ((0 : Int) ≤ i132.2 ∧ i132.2 < (a0.length : Int)) (gd ((0 : Int) ≤ i132.2 ∧ i132.2 < (a0.length : Int)) ((Size.f K [rd a0 i132.2]).bind fun t175 => some (i132.1, decide (t137.2.1 ≠ t175))))))))))).bind fun o156 => if o156.2 = true then (some (.inl (false))) else (gd ((0 : Int) ≤ t137.2.1 ∧ ((Int.toNat t137.2.1) ≤ o156.1.length ∧ o156.1.length ≤ o156.1.length)) (VintBack.l1 K a0 k (((o156.1.take o156.1.length).drop (Int.toNat t137.2.1)), IntKind.wrap .i64 (i132.2 + 1))))) else (some (.inr i132.1))
def VintBack.f (K : Nat) (a0 : List Int) (a1 : List Int) : Option (Bool) := (Encode.f K a0).bind fun t1 => gd ((t1.length + a1.length) * 1 ≤ 140737488355328) (thn (VintBack.l1 K a0 K ((t1 ++ a1), 0)) fun o70 => (same.f K o70 a1).bind fun t182 => if t182 = true then ((works.f K).bind fun t185 => some t185) else (some false))
theorem VintBack.calls {B : Nat} {w0 : World} {G : List HP} (K : Nat) (a0 : List Int) (a1 : List Int) (Aa0 : Option Addr) (ca0 : Nat) (Aa1 : Option Addr) (ca1 : Nat) (ha0 : RdG B w0 G Aa0 (a0.map (Value.int .u64))) (ka0 : a0.length ≤ ca0) (ha1 : RdG B w0 G Aa1 (a1.map (Value.int .u8))) (ka1 : a1.length ≤ ca1) (r : Bool) (H : VintBack.f K a0 a1 = some r) (w : World) (hw : St B w0 (G) w) :
    Calls Try.prog 12 [.slice Aa0 a0.length ca0, .slice Aa1 a1.length ca1].toArray w (fun e w' => e = .returned (.bool r) ∧ St B w0 (G) w') := by
  unfold VintBack.f at H
  refine calls_of (n := 68) (s := [(0, .slice Aa0 a0.length ca0), (1, .slice Aa1 a1.length ca1)]) Try.func12 rfl rfl rfl rfl ?_ hw
  refine C.rs ?_
  refine J.p rfl rfl rfl rfl (Y.asg rfl) ?_
  refine J.nx ?_
  refine C.rs ?_
  refine J.p rfl rfl rfl rfl (Y.mv rfl) ?_
  obtain ⟨t1, hC2, H⟩ := bind_some H
  refine J.call (us := []) (cap := []) rfl rfl rfl go20 (fun w hw => Encode.calls K a0 Aa0 ca0 ha0 ka0 t1 hC2 w hw) (fun e w1 h1 => ?_)
  obtain ⟨A3, c4, rfl, hw189⟩ := h1
  refine ⟨_, _, rfl, hw189, ?_⟩
  refine J.p rfl rfl rfl rfl (Y.asg rfl) ?_
  refine J.nx ?_
  refine C.rs ?_
  refine J.p rfl rfl rfl rfl (Y.mv rfl) ?_
  refine J.p rfl rfl rfl rfl (Y.mv rfl) ?_
  obtain ⟨p8, H⟩ := gd_some H
  refine J.appL (enc := (Value.int .u8)) (xs := t1) (ys := a1) rfl Try.underlying22 ti5 rfl (by decide) rfl rfl (fun _ => rfl) (ha1.suf [_] rfl) p8 (fun A6 c7 => ?_)
  refine J.p rfl rfl rfl rfl (Y.asg rfl) ?_
  refine J.nx ?_
  refine C.seq ?_
  refine C.rs ?_
  refine J.p rfl rfl rfl rfl (Y.asg rfl) ?_
  refine J.nx ?_
  refine C.joinNR H (fun (o70 : (List Int)) (j71 : (Option Addr) × Nat) => [(1, .slice Aa1 a1.length ca1), (5, .slice j71.1 o70.length j71.2)]) (fun (o70 : (List Int)) (j71 : (Option Addr) × Nat) => own 5 1 A6 c7 ((t1 ++ a1).map (Value.int .u8)) :: G) (fun (o70 : (List Int)) (j71 : (Option Addr) × Nat) => (RdG B w0 [own 5 1 A6 c7 ((t1 ++ a1).map (Value.int .u8))] j71.1 (o70.map (Value.int .u8)) ∧ o70.length ≤ j71.2)) (fun o68 H HK69 => ?_) (fun o70 j71 H hx72 => ?_)
  · refine C.blk ?_
    refine C.know (own_leL 0 rfl) (fun hc135 => ?_)
    refine C.loop (fun (i : Nat × ((List Int) × Int) × ((Option Addr) × Nat)) => [(0, .slice Aa0 a0.length ca0), (1, .slice Aa1 a1.length ca1), (5, .slice i.2.2.1 i.2.1.1.length i.2.2.2), (6, .int .i64 i.2.1.2)]) (fun (i : Nat × ((List Int) × Int) × ((Option Addr) × Nat)) => own 5 1 A6 c7 ((t1 ++ a1).map (Value.int .u8)) :: G) (fun (i : Nat × ((List Int) × Int) × ((Option Addr) × Nat)) => VintBack.l1 K a0 i.1 i.2.1 = some o68 ∧ ((RdG B w0 [own 5 1 A6 c7 ((t1 ++ a1).map (Value.int .u8))] i.2.2.1 (i.2.1.1.map (Value.int .u8)) ∧ i.2.1.1.length ≤ i.2.2.2))) (fun i => i.1) (K, ((t1 ++ a1), 0), (A6, c7)) ⟨H, ⟨(RdG.own 0 rfl), hc135⟩⟩ (by exact ⟨rfl, rfl, rfl, rfl, trivial⟩) (by exact fun w h => h) ?_
    rintro ⟨k181, i132, j133⟩ ⟨H, hx134⟩
    replace H : VintBack.l1 K a0 k181 i132 = some o68 := H
    obtain ⟨k131, rfl⟩ : ∃ m, k181 = m + 1 := by cases k181 with | zero => exact absurd H (by simp [VintBack.l1]) | succ m => exact ⟨m, rfl⟩
    rw [VintBack.l1] at H
    refine C.at (s' := [(0, .slice Aa0 a0.length ca0), (1, .slice Aa1 a1.length ca1), (5, .slice j133.1 i132.1.length j133.2), (6, .int .i64 i132.2)]) (G' := own 5 1 A6 c7 ((t1 ++ a1).map (Value.int .u8)) :: G) rfl rfl ?_
    refine C.seq ?_
    refine C.rs ?_
    refine J.p rfl rfl rfl rfl (Y.mv rfl) ?_
    refine J.p rfl rfl rfl rfl (Y.mv rfl) ?_
    refine J.p rfl rfl rfl rfl (Y.lenS Try.underlying52 rfl) ?_
    refine J.p rfl rfl rfl rfl (Y.bin rfl rfl rfl) ?_
    refine J.nx ?_
    refine split2 H (fun c136 H => ?_) (fun c136 H => ?_)
    · refine C.condT (congrArg (fun b => some (Value.bool b)) (decide_eq_true c136)) ?_
      refine C.skip ?_
      refine N.nx ?_
      refine C.seq ?_
      refine C.blk ?_
      refine C.rs ?_
      refine J.p rfl rfl rfl rfl (Y.mv rfl) ?_
      obtain ⟨t137, hC138, H⟩ := bind_some H
      refine J.call (us := []) (cap := []) rfl rfl rfl go15 (fun w hw => Decode.calls K i132.1 j133.1 j133.2 (RdG.at_ hx134.1 0 rfl) hx134.2 t137 hC138 w hw) (fun e w1 h1 => ?_)
      obtain ⟨rfl, hw180⟩ := h1
      refine ⟨_, _, rfl, hw180, ?_⟩
      refine J.p rfl rfl rfl rfl (Y.mv rfl) ?_
      refine J.p rfl rfl rfl rfl (Y.ext rfl rfl) ?_
      refine J.p rfl rfl rfl rfl (Y.ext rfl rfl) ?_
      refine J.p rfl rfl rfl rfl (Y.ext rfl rfl) ?_
      refine J.p rfl rfl rfl rfl (Y.asg rfl) ?_
      refine J.p rfl rfl rfl rfl (Y.asg rfl) ?_
      refine J.p rfl rfl rfl rfl (Y.asg rfl) ?_
      refine J.nx ?_
      refine C.seq ?_
      refine C.rs ?_
      refine J.joinB H (fun (o156 : (List Int) × Bool) (j157 : (Option Addr) × Nat) => [(0, .slice Aa0 a0.length ca0), (1, .slice Aa1 a1.length ca1), (5, .slice j157.1 o156.1.length j157.2), (6, .int .i64 i132.2), (8, .int .i64 t137.2.1), (57, .bool o156.2)]) (fun (o156 : (List Int) × Bool) (j157 : (Option Addr) × Nat) => own 5 1 A6 c7 ((t1 ++ a1).map (Value.int .u8)) :: G) (fun (o156 : (List Int) × Bool) (j157 : (Option Addr) × Nat) => (RdG B w0 [own 5 1 A6 c7 ((t1 ++ a1).map (Value.int .u8))] j157.1 (o156.1.map (Value.int .u8)) ∧ o156.1.length ≤ j157.2)) (fun o159 H HK160 => ?_) (fun o156 j157 H hx158 => ?_)
      · refine J.p rfl rfl rfl rfl (Y.mv rfl) ?_
        refine J.p rfl rfl rfl rfl (Y.bin rfl rfl rfl) ?_
        refine J.p rfl rfl rfl rfl (Y.mv rfl) ?_
        refine split2 H (fun c161 H => ?_) (fun c161 H => ?_)
        · refine J.as (k := 30) rfl (congrArg Value.bool (decide_eq_true c161)) ?_
          refine J.skip rfl rfl ?_
          refine J.skip rfl rfl ?_
          refine J.skip rfl rfl ?_
          refine J.skip rfl rfl ?_
          refine J.skip rfl rfl ?_
          refine J.skip rfl rfl ?_
          refine J.p rfl rfl rfl rfl (Y.pickT rfl rfl) ?_
          refine J.p rfl rfl rfl rfl (Y.mv rfl) ?_
          refine J.skip rfl rfl ?_
          refine J.skip rfl rfl ?_
          refine J.p rfl rfl rfl rfl (Y.pickT rfl rfl) ?_
          refine J.p rfl rfl rfl rfl (Y.mv rfl) ?_
          refine J.skip rfl rfl ?_
          refine J.skip rfl rfl ?_
          refine J.skip rfl rfl ?_
          refine J.skip rfl rfl ?_
          refine J.p rfl rfl rfl rfl (Y.pickT rfl rfl) ?_
          refine J.p rfl rfl rfl rfl (Y.mv rfl) ?_
          refine J.skip rfl rfl ?_
          refine J.skip rfl rfl ?_
          refine J.skip rfl rfl ?_
          refine J.skip rfl rfl ?_
          refine J.skip rfl rfl ?_
          refine J.skip rfl rfl ?_
          refine J.skip rfl rfl ?_
          refine J.skip rfl rfl ?_
          refine J.p rfl rfl rfl rfl (Y.pickT rfl rfl) ?_
          refine J.nil ?_
          obtain rfl := Option.some.inj H
          exact N.meet ((i132.1, true), (j133.1, j133.2)) ⟨HK160, ⟨hx134.1, hx134.2⟩⟩ (by exact ⟨rfl, rfl, rfl, rfl, rfl, rfl, trivial⟩) (by exact fun w h => h)
        · refine J.as (k := 30) rfl (congrArg Value.bool (decide_eq_false c161)) ?_
          refine J.p rfl rfl rfl rfl (Y.mv rfl) ?_
          refine J.p rfl rfl rfl rfl (Y.mv rfl) ?_
          refine J.p rfl rfl rfl rfl (Y.mv rfl) ?_
          obtain ⟨p164, H⟩ := gd_some H
          refine J.know ((ha0.suf [_] rfl).some_ (j := Int.toNat i132.2) (by rw [List.length_map]; exact idx_lt p164)) (fun hh => ?_)
          obtain ⟨a162, ha163⟩ := hh
          refine J.p rfl rfl rfl rfl (Y.ixa Try.underlying52 ti24 rfl rfl p164 ha163) ?_
          obtain ⟨p165, H⟩ := gd_some H
          refine J.r rfl rfl rfl rfl (Y.ldE Try.underlying24 rfl rfl ha163 p165 (ha0.suf [_] rfl)) ?_
          refine J.p rfl rfl rfl rfl (Y.bin rfl rfl rfl) ?_
          refine J.p rfl rfl rfl rfl (Y.pickF rfl rfl) ?_
          refine J.p rfl rfl rfl rfl (Y.mv rfl) ?_
          refine split2 H (fun c166 H => ?_) (fun c166 H => ?_)
          · refine J.as (k := 38) rfl (congrArg Value.bool (decide_eq_true c166)) ?_
            refine J.skip rfl rfl ?_
            refine J.skip rfl rfl ?_
            refine J.p rfl rfl rfl rfl (Y.pickT rfl rfl) ?_
            refine J.p rfl rfl rfl rfl (Y.mv rfl) ?_
            refine J.skip rfl rfl ?_
            refine J.skip rfl rfl ?_
            refine J.skip rfl rfl ?_
            refine J.skip rfl rfl ?_
            refine J.p rfl rfl rfl rfl (Y.pickT rfl rfl) ?_
            refine J.p rfl rfl rfl rfl (Y.mv rfl) ?_
            refine J.skip rfl rfl ?_
            refine J.skip rfl rfl ?_
            refine J.skip rfl rfl ?_
            refine J.skip rfl rfl ?_
            refine J.skip rfl rfl ?_
            refine J.skip rfl rfl ?_
            refine J.skip rfl rfl ?_
            refine J.skip rfl rfl ?_
            refine J.p rfl rfl rfl rfl (Y.pickT rfl rfl) ?_
            refine J.nil ?_
            obtain rfl := Option.some.inj H
            exact N.meet ((i132.1, true), (j133.1, j133.2)) ⟨HK160, ⟨hx134.1, hx134.2⟩⟩ (by exact ⟨rfl, rfl, rfl, rfl, rfl, rfl, trivial⟩) (by exact fun w h => h)
          · refine J.as (k := 38) rfl (congrArg Value.bool (decide_eq_false c166)) ?_
            refine J.p rfl rfl rfl rfl (Y.mv rfl) ?_
            refine J.p rfl rfl rfl rfl (Y.bin rfl rfl rfl) ?_
            refine J.p rfl rfl rfl rfl (Y.pickF rfl rfl) ?_
            refine J.p rfl rfl rfl rfl (Y.mv rfl) ?_
            refine split2 H (fun c167 H => ?_) (fun c167 H => ?_)
            · refine J.as (k := 42) rfl (congrArg Value.bool (decide_eq_true c167)) ?_
              refine J.skip rfl rfl ?_
              refine J.skip rfl rfl ?_
              refine J.skip rfl rfl ?_
              refine J.skip rfl rfl ?_
              refine J.p rfl rfl rfl rfl (Y.pickT rfl rfl) ?_
              refine J.p rfl rfl rfl rfl (Y.mv rfl) ?_
              refine J.skip rfl rfl ?_
              refine J.skip rfl rfl ?_
              refine J.skip rfl rfl ?_
              refine J.skip rfl rfl ?_
              refine J.skip rfl rfl ?_
              refine J.skip rfl rfl ?_
              refine J.skip rfl rfl ?_
              refine J.skip rfl rfl ?_
              refine J.p rfl rfl rfl rfl (Y.pickT rfl rfl) ?_
              refine J.nil ?_
              obtain rfl := Option.some.inj H
              exact N.meet ((i132.1, true), (j133.1, j133.2)) ⟨HK160, ⟨hx134.1, hx134.2⟩⟩ (by exact ⟨rfl, rfl, rfl, rfl, rfl, rfl, trivial⟩) (by exact fun w h => h)
            · refine J.as (k := 42) rfl (congrArg Value.bool (decide_eq_false c167)) ?_
              refine J.p rfl rfl rfl rfl (Y.mv rfl) ?_
              refine J.p rfl rfl rfl rfl (Y.mv rfl) ?_
              refine J.p rfl rfl rfl rfl (Y.lenS Try.underlying22 rfl) ?_
              refine J.p rfl rfl rfl rfl (Y.bin rfl rfl rfl) ?_
              refine J.p rfl rfl rfl rfl (Y.pickF rfl rfl) ?_
              refine J.p rfl rfl rfl rfl (Y.mv rfl) ?_
              refine split2 H (fun c168 H => ?_) (fun c168 H => ?_)
              · refine J.as (k := 48) rfl (congrArg Value.bool (decide_eq_true c168)) ?_
                refine J.skip rfl rfl ?_
                refine J.skip rfl rfl ?_
                refine J.skip rfl rfl ?_
                refine J.skip rfl rfl ?_
                refine J.skip rfl rfl ?_
                refine J.skip rfl rfl ?_
                refine J.skip rfl rfl ?_
                refine J.skip rfl rfl ?_
                refine J.p rfl rfl rfl rfl (Y.pickT rfl rfl) ?_
                refine J.nil ?_
                obtain rfl := Option.some.inj H
                exact N.meet ((i132.1, true), (j133.1, j133.2)) ⟨HK160, ⟨hx134.1, hx134.2⟩⟩ (by exact ⟨rfl, rfl, rfl, rfl, rfl, rfl, trivial⟩) (by exact fun w h => h)
              · refine J.as (k := 48) rfl (congrArg Value.bool (decide_eq_false c168)) ?_
                refine J.p rfl rfl rfl rfl (Y.mv rfl) ?_
                refine J.p rfl rfl rfl rfl (Y.mv rfl) ?_
                refine J.p rfl rfl rfl rfl (Y.mv rfl) ?_
                obtain ⟨p171, H⟩ := gd_some H
                refine J.know ((ha0.suf [_] rfl).some_ (j := Int.toNat i132.2) (by rw [List.length_map]; exact idx_lt p171)) (fun hh => ?_)
                obtain ⟨a169, ha170⟩ := hh
                refine J.p rfl rfl rfl rfl (Y.ixa Try.underlying52 ti24 rfl rfl p171 ha170) ?_
                obtain ⟨p172, H⟩ := gd_some H
                refine J.r rfl rfl rfl rfl (Y.ldE Try.underlying24 rfl rfl ha170 p172 (ha0.suf [_] rfl)) ?_
                refine J.want rfl ?_
                refine J.bsL (enc := (Value.int .u64)) (xs := [rd a0 i132.2]) rfl Try.underlying52 ti24 rfl rfl rfl rfl rfl (fun A173 => ?_)
                refine J.want rfl ?_
                obtain ⟨t175, hC176, H⟩ := bind_some H
                refine J.call (us := []) (cap := []) rfl rfl rfl go31 (fun w hw => Size.calls K [rd a0 i132.2] A173 1 (RdG.own 0 rfl) (Nat.le_refl _) t175 hC176 w hw) (fun e w1 h1 => ?_)
                obtain ⟨rfl, hw177⟩ := h1
                refine ⟨_, _, rfl, hw177, ?_⟩
                refine J.p rfl rfl rfl rfl (Y.bin rfl rfl rfl) ?_
                refine J.p rfl rfl rfl rfl (Y.pickF rfl rfl) ?_
                refine J.nil ?_
                obtain rfl := Option.some.inj H
                exact N.meet ((i132.1, decide (t137.2.1 ≠ t175)), (j133.1, j133.2)) ⟨HK160, ⟨hx134.1, hx134.2⟩⟩ (by exact ⟨rfl, rfl, rfl, rfl, rfl, rfl, trivial⟩) (by exact fun w h => (h.drop))
      · refine C.at (s' := [(0, .slice Aa0 a0.length ca0), (1, .slice Aa1 a1.length ca1), (5, .slice j157.1 o156.1.length j157.2), (6, .int .i64 i132.2), (8, .int .i64 t137.2.1), (57, .bool o156.2)]) (G' := own 5 1 A6 c7 ((t1 ++ a1).map (Value.int .u8)) :: G) rfl rfl ?_
        refine split2 H (fun c178 H => ?_) (fun c178 H => ?_)
        · refine C.condT (congrArg (fun b => some (Value.bool b)) (c178)) ?_
          refine C.rs ?_
          refine J.p rfl rfl rfl rfl (Y.asg rfl) ?_
          refine J.nx ?_
          refine C.ret ?_
          obtain rfl := Option.some.inj H
          obtain rfl := fin_inl HK69
          refine T.th ?_
          refine T.ib ?_
          refine T.th ?_
          refine T.th ?_
          refine T.ib ?_
          refine T.th ?_
          refine T.th ?_
          exact ret_ok (ks := [4]) rfl rfl (fun w h => ⟨rfl, (h.drop)⟩)
        · refine C.condF (congrArg (fun b => some (Value.bool b)) (nt c178)) ?_
          refine C.skip ?_
          refine N.nx ?_
          refine C.reg ?_
          refine J.p rfl rfl rfl rfl (Y.mv rfl) ?_
          refine J.p rfl rfl rfl rfl (Y.mv rfl) ?_
          obtain ⟨p179, H⟩ := gd_some H
          refine J.p rfl rfl rfl rfl (Y.slcL Try.underlying22 ti5 rfl (bnd.yes rfl p179.1) bnd.no p179.2 hx158.2) ?_
          refine J.p rfl rfl rfl rfl (Y.asg rfl) ?_
          refine J.nil ?_
          refine N.ib ?_
          refine N.nx ?_
          refine C.reg ?_
          refine J.p rfl rfl rfl rfl (Y.mv rfl) ?_
          refine J.p rfl rfl rfl rfl (Y.bin rfl rfl rfl) ?_
          refine J.p rfl rfl rfl rfl (Y.asg rfl) ?_
          refine J.nil ?_
          exact N.again (k131, (((o156.1.take o156.1.length).drop (Int.toNat t137.2.1)), IntKind.wrap .i64 (i132.2 + 1)), (subA 1 j157.1 j157.2 (Int.toNat t137.2.1), j157.2 - (Int.toNat t137.2.1))) ⟨H, ⟨(RdG.subL (l := (Int.toNat t137.2.1)) (h := o156.1.length) hx158.1 hx158.2), (by have := hx158.2; simp only [List.length_drop, List.length_take]; omega)⟩⟩ (Nat.lt_succ_self _) (by exact ⟨rfl, rfl, rfl, rfl, trivial⟩) (by exact fun w h => h)
    · refine C.condF (congrArg (fun b => some (Value.bool b)) (decide_eq_false c136)) ?_
      refine C.exit ?_
      refine X.th ?_
      refine X.th ?_
      refine X.hit ?_
      obtain rfl := Option.some.inj H
      exact N.meet (i132.1, (j133.1, j133.2)) ⟨fin_inr HK69, ⟨hx134.1, hx134.2⟩⟩ (by exact ⟨rfl, rfl, trivial⟩) (by exact fun w h => h)
  · refine N.at (s' := [(1, .slice Aa1 a1.length ca1), (5, .slice j71.1 o70.length j71.2)]) (G' := own 5 1 A6 c7 ((t1 ++ a1).map (Value.int .u8)) :: G) rfl rfl ?_
    refine N.nx ?_
    refine C.rs ?_
    refine J.p rfl rfl rfl rfl (Y.mv rfl) ?_
    refine J.p rfl rfl rfl rfl (Y.mv rfl) ?_
    obtain ⟨t182, hC183, H⟩ := bind_some H
    refine J.call (us := []) (cap := []) rfl rfl rfl go21 (fun w hw => same.calls K o70 a1 j71.1 j71.2 Aa1 ca1 (RdG.at_ hx72.1 0 rfl) hx72.2 (ha1.suf [_] rfl) ka1 t182 hC183 w hw) (fun e w1 h1 => ?_)
    obtain ⟨rfl, hw188⟩ := h1
    refine ⟨_, _, rfl, hw188, ?_⟩
    refine J.p rfl rfl rfl rfl (Y.asg rfl) ?_
    refine J.nx ?_
    refine C.rs ?_
    refine J.p rfl rfl rfl rfl (Y.mv rfl) ?_
    refine J.p rfl rfl rfl rfl (Y.mv rfl) ?_
    refine split2 H (fun c184 H => ?_) (fun c184 H => ?_)
    · refine J.as (k := 65) rfl (congrArg Value.bool (c184)) ?_
      refine J.want rfl ?_
      obtain ⟨t185, hC186, H⟩ := bind_some H
      refine J.call (us := []) (cap := []) rfl rfl rfl go19 (fun w hw => works.calls K t185 hC186 w hw) (fun e w1 h1 => ?_)
      obtain ⟨rfl, hw187⟩ := h1
      refine ⟨_, _, rfl, hw187, ?_⟩
      refine J.p rfl rfl rfl rfl (Y.pickT rfl rfl) ?_
      refine J.p rfl rfl rfl rfl (Y.asg rfl) ?_
      refine J.nx ?_
      refine C.ret ?_
      obtain rfl := Option.some.inj H
      exact ret_ok (ks := [4]) rfl rfl (fun w h => ⟨rfl, (h.drop)⟩)
    · refine J.as (k := 65) rfl (congrArg Value.bool (nt c184)) ?_
      refine J.skip rfl rfl ?_
      refine J.p rfl rfl rfl rfl (Y.pickF rfl rfl) ?_
      refine J.p rfl rfl rfl rfl (Y.asg rfl) ?_
      refine J.nx ?_
      refine C.ret ?_
      obtain rfl := Option.some.inj H
      exact ret_ok (ks := [4]) rfl rfl (fun w h => ⟨rfl, (h.drop)⟩)
/-! ### salvor/salvorref2.Number: function 29 -/
def refNumber.l1 (a1 : Int) (a0 : List Int) : Nat → (Int × Int) → Option ((Int × Int) ⊕ (Int))
  | 0, _ => none
  | k + 1, i38 => if i38.2 < a1 then (gd ((0 : Int) ≤ i38.2 ∧ i38.2 < (a0.length : Int)) (if 128 ≤ (rd a0 i38.2) then (some (.inl ((0, 24)))) else (gd ((0 : Int) ≤ i38.2 ∧ i38.2 < (a0.length : Int)) (refNumber.l1 a1 a0 k (IntKind.wrap .u64 ((IntKind.wrap .u64 (i38.1 * 128)) + (IntKind.wrap .u64 (rd a0 i38.2))), IntKind.wrap .i64 (i38.2 + 1)))))) else (some (.inr i38.1))
def refNumber.f (K : Nat) (a0 : List Int) (a1 : Int) : Option (Int × Int) := (if a1 < 1 then (some true) else (some (decide (9 < a1)))).bind fun o2 => if o2 = true then (some (0, 20)) else (if (a0.length : Int) < a1 then (some (0, 21)) else (thn (refNumber.l1 a1 a0 K (0, 0)) fun o23 => some (o23, 0)))
theorem refNumber.calls {B : Nat} {w0 : World} {G : List HP} (K : Nat) (a0 : List Int) (a1 : Int) (Aa0 : Option Addr) (ca0 : Nat) (ha0 : RdG B w0 G Aa0 (a0.map (Value.int .u8))) (ka0 : a0.length ≤ ca0) (r : Int × Int) (H : refNumber.f K a0 a1 = some r) (w : World) (hw : St B w0 (G) w) :
    Calls Try.prog 29 [.slice Aa0 a0.length ca0, .int .i64 a1].toArray w (fun e w' => e = .returned (.tuple #[.int .u64 r.1, .int .i64 r.2]) ∧ St B w0 (G) w') := by
  unfold refNumber.f at H
  refine calls_of (n := 37) (s := [(0, .slice Aa0 a0.length ca0), (1, .int .i64 a1)]) Try.func29 rfl rfl rfl rfl ?_ hw
  refine C.rs ?_
  refine J.p rfl rfl rfl rfl (Y.asg rfl) ?_
  refine J.p rfl rfl rfl rfl (Y.asg rfl) ?_
  refine J.nx ?_
  refine C.seq ?_
  refine C.rs ?_
  refine J.joinB H (fun (o2 : Bool) (j3 : Unit) => [(0, .slice Aa0 a0.length ca0), (1, .int .i64 a1), (13, .bool o2)]) (fun (o2 : Bool) (j3 : Unit) => G) (fun (o2 : Bool) (j3 : Unit) => True) (fun o4 H HK5 => ?_) (fun o2 j3 H _ => ?_)
  · refine J.p rfl rfl rfl rfl (Y.mv rfl) ?_
    refine J.p rfl rfl rfl rfl (Y.bin rfl rfl rfl) ?_
    refine J.p rfl rfl rfl rfl (Y.mv rfl) ?_
    refine split2 H (fun c6 H => ?_) (fun c6 H => ?_)
    · refine J.as (k := 10) rfl (congrArg Value.bool (decide_eq_true c6)) ?_
      refine J.skip rfl rfl ?_
      refine J.skip rfl rfl ?_
      refine J.p rfl rfl rfl rfl (Y.pickT rfl rfl) ?_
      refine J.nil ?_
      obtain rfl := Option.some.inj H
      exact N.meet (true, ()) ⟨HK5, trivial⟩ (by exact ⟨rfl, rfl, rfl, trivial⟩) (by exact fun w h => h)
    · refine J.as (k := 10) rfl (congrArg Value.bool (decide_eq_false c6)) ?_
      refine J.p rfl rfl rfl rfl (Y.mv rfl) ?_
      refine J.p rfl rfl rfl rfl (Y.bin rfl rfl rfl) ?_
      refine J.p rfl rfl rfl rfl (Y.pickF rfl rfl) ?_
      refine J.nil ?_
      obtain rfl := Option.some.inj H
      exact N.meet (decide (9 < a1), ()) ⟨HK5, trivial⟩ (by exact ⟨rfl, rfl, rfl, trivial⟩) (by exact fun w h => h)
  · refine C.at (s' := [(0, .slice Aa0 a0.length ca0), (1, .int .i64 a1), (13, .bool o2)]) (G' := G) rfl rfl ?_
    refine split2 H (fun c7 H => ?_) (fun c7 H => ?_)
    · refine C.condT (congrArg (fun b => some (Value.bool b)) (c7)) ?_
      refine C.rs ?_
      refine J.p rfl rfl rfl rfl (Y.asg rfl) ?_
      refine J.p rfl rfl rfl rfl (Y.asg rfl) ?_
      refine J.nx ?_
      refine C.ret ?_
      obtain rfl := Option.some.inj H
      refine T.th ?_
      exact ret_ok (ks := [4, 5]) rfl rfl (fun w h => ⟨rfl, h⟩)
    · refine C.condF (congrArg (fun b => some (Value.bool b)) (nt c7)) ?_
      refine C.skip ?_
      refine N.nx ?_
      refine C.seq ?_
      refine C.rs ?_
      refine J.p rfl rfl rfl rfl (Y.mv rfl) ?_
      refine J.p rfl rfl rfl rfl (Y.lenS Try.underlying22 rfl) ?_
      refine J.p rfl rfl rfl rfl (Y.mv rfl) ?_
      refine J.p rfl rfl rfl rfl (Y.bin rfl rfl rfl) ?_
      refine J.nx ?_
      refine split2 H (fun c8 H => ?_) (fun c8 H => ?_)
      · refine C.condT (congrArg (fun b => some (Value.bool b)) (decide_eq_true c8)) ?_
        refine C.rs ?_
        refine J.p rfl rfl rfl rfl (Y.asg rfl) ?_
        refine J.p rfl rfl rfl rfl (Y.asg rfl) ?_
        refine J.nx ?_
        refine C.ret ?_
        obtain rfl := Option.some.inj H
        refine T.th ?_
        exact ret_ok (ks := [4, 5]) rfl rfl (fun w h => ⟨rfl, h⟩)
      · refine C.condF (congrArg (fun b => some (Value.bool b)) (decide_eq_false c8)) ?_
        refine C.skip ?_
        refine N.nx ?_
        refine C.rs ?_
        refine J.p rfl rfl rfl rfl (Y.asg rfl) ?_
        refine J.nx ?_
        refine C.seq ?_
        refine C.rs ?_
        refine J.p rfl rfl rfl rfl (Y.asg rfl) ?_
        refine J.nx ?_
        refine C.joinNR H (fun (o23 : Int) (j24 : Unit) => [(6, .int .u64 o23)]) (fun (o23 : Int) (j24 : Unit) => G) (fun (o23 : Int) (j24 : Unit) => True) (fun o21 H HK22 => ?_) (fun o23 j24 H _ => ?_)
        · refine C.blk ?_
          refine C.loop (fun (i : Nat × (Int × Int) × (Unit)) => [(0, .slice Aa0 a0.length ca0), (1, .int .i64 a1), (6, .int .u64 i.2.1.1), (7, .int .i64 i.2.1.2)]) (fun (i : Nat × (Int × Int) × (Unit)) => G) (fun (i : Nat × (Int × Int) × (Unit)) => refNumber.l1 a1 a0 i.1 i.2.1 = some o21 ∧ (True)) (fun i => i.1) (K, (0, 0), ()) ⟨H, trivial⟩ (by exact ⟨rfl, rfl, rfl, rfl, trivial⟩) (by exact fun w h => h) ?_
          rintro ⟨k44, i38, j39⟩ ⟨H, _⟩
          replace H : refNumber.l1 a1 a0 k44 i38 = some o21 := H
          obtain ⟨k37, rfl⟩ : ∃ m, k44 = m + 1 := by cases k44 with | zero => exact absurd H (by simp [refNumber.l1]) | succ m => exact ⟨m, rfl⟩
          rw [refNumber.l1] at H
          refine C.at (s' := [(0, .slice Aa0 a0.length ca0), (1, .int .i64 a1), (6, .int .u64 i38.1), (7, .int .i64 i38.2)]) (G' := G) rfl rfl ?_
          refine C.seq ?_
          refine C.rs ?_
          refine J.p rfl rfl rfl rfl (Y.mv rfl) ?_
          refine J.p rfl rfl rfl rfl (Y.mv rfl) ?_
          refine J.p rfl rfl rfl rfl (Y.bin rfl rfl rfl) ?_
          refine J.nx ?_
          refine split2 H (fun c40 H => ?_) (fun c40 H => ?_)
          · refine C.condT (congrArg (fun b => some (Value.bool b)) (decide_eq_true c40)) ?_
            refine C.skip ?_
            refine N.nx ?_
            refine C.seq ?_
            refine C.blk ?_
            refine C.seq ?_
            refine C.rs ?_
            refine J.p rfl rfl rfl rfl (Y.mv rfl) ?_
            refine J.p rfl rfl rfl rfl (Y.mv rfl) ?_
            obtain ⟨p41, H⟩ := gd_some H
            refine J.el rfl rfl rfl Try.underlying22 ti5 Try.underlying5 rfl rfl rfl p41 ha0 ?_
            refine J.p rfl rfl rfl rfl (Y.bin rfl rfl rfl) ?_
            refine J.nx ?_
            refine split2 H (fun c42 H => ?_) (fun c42 H => ?_)
            · refine C.condT (congrArg (fun b => some (Value.bool b)) (decide_eq_true c42)) ?_
              refine C.rs ?_
              refine J.p rfl rfl rfl rfl (Y.asg rfl) ?_
              refine J.p rfl rfl rfl rfl (Y.asg rfl) ?_
              refine J.nx ?_
              refine C.ret ?_
              obtain rfl := Option.some.inj H
              obtain rfl := fin_inl HK22
              refine T.th ?_
              refine T.ib ?_
              refine T.th ?_
              refine T.th ?_
              refine T.ib ?_
              refine T.th ?_
              refine T.th ?_
              exact ret_ok (ks := [4, 5]) rfl rfl (fun w h => ⟨rfl, h⟩)
            · refine C.condF (congrArg (fun b => some (Value.bool b)) (decide_eq_false c42)) ?_
              refine C.skip ?_
              refine N.nx ?_
              refine C.reg ?_
              refine J.p rfl rfl rfl rfl (Y.mv rfl) ?_
              refine J.p rfl rfl rfl rfl (Y.bin rfl rfl rfl) ?_
              refine J.p rfl rfl rfl rfl (Y.mv rfl) ?_
              refine J.p rfl rfl rfl rfl (Y.mv rfl) ?_
              obtain ⟨p43, H⟩ := gd_some H
              refine J.el rfl rfl rfl Try.underlying22 ti5 Try.underlying5 rfl rfl rfl p43 ha0 ?_
              refine J.p rfl rfl rfl rfl (Y.conv Try.underlying5 Try.underlying24 rfl) ?_
              refine J.p rfl rfl rfl rfl (Y.bin rfl rfl rfl) ?_
              refine J.p rfl rfl rfl rfl (Y.asg rfl) ?_
              refine J.nil ?_
              refine N.ib ?_
              refine N.nx ?_
              refine C.reg ?_
              refine J.p rfl rfl rfl rfl (Y.mv rfl) ?_
              refine J.p rfl rfl rfl rfl (Y.bin rfl rfl rfl) ?_
              refine J.p rfl rfl rfl rfl (Y.asg rfl) ?_
              refine J.nil ?_
              exact N.again (k37, (IntKind.wrap .u64 ((IntKind.wrap .u64 (i38.1 * 128)) + (IntKind.wrap .u64 (rd a0 i38.2))), IntKind.wrap .i64 (i38.2 + 1)), ()) ⟨H, trivial⟩ (Nat.lt_succ_self _) (by exact ⟨rfl, rfl, rfl, rfl, trivial⟩) (by exact fun w h => h)
          · refine C.condF (congrArg (fun b => some (Value.bool b)) (decide_eq_false c40)) ?_
            refine C.exit ?_
            refine X.th ?_
            refine X.th ?_
            refine X.hit ?_
            obtain rfl := Option.some.inj H
            exact N.meet (i38.1, ()) ⟨fin_inr HK22, trivial⟩ (by exact ⟨rfl, trivial⟩) (by exact fun w h => h)
        · refine N.at (s' := [(6, .int .u64 o23)]) (G' := G) rfl rfl ?_
          refine N.nx ?_
          refine C.rs ?_
          refine J.p rfl rfl rfl rfl (Y.mv rfl) ?_
          refine J.p rfl rfl rfl rfl (Y.asg rfl) ?_
          refine J.p rfl rfl rfl rfl (Y.asg rfl) ?_
          refine J.nx ?_
          refine C.ret ?_
          obtain rfl := Option.some.inj H
          exact ret_ok (ks := [4, 5]) rfl rfl (fun w h => ⟨rfl, h⟩)
/-! ### salvor/salvorref2.Digits: function 26 -/
def refDigits.l1 : Nat → (Int × (List Int) × Int) → Option (Int × (List Int))
  | 0, _ => none
  | k + 1, i49 => if 0 ≤ i49.2.2 then (gd ((0 : Int) ≤ i49.2.2 ∧ i49.2.2 < (i49.2.1.length : Int)) (gd ((0 : Int) ≤ i49.2.2 ∧ i49.2.2 < (i49.2.1.length : Int)) (refDigits.l1 k (IntKind.wrap .u64 (Int.tdiv i49.1 128), (i49.2.1.set (Int.toNat i49.2.2) (IntKind.wrap .u8 (Int.tmod i49.1 128))), IntKind.wrap .i64 (i49.2.2 - 1))))) else (some (i49.1, i49.2.1))
def refDigits.f (K : Nat) (a0 : Int) (a1 : Int) : Option ((List Int) × Int) := (if a1 < 1 then (some true) else (some (decide (9 < a1)))).bind fun o2 => if o2 = true then (some (([] : List Int), 20)) else (gd ((0 : Int) ≤ a1 ∧ a1 ≤ a1 ∧ ((1 : Nat) : Int) * a1 ≤ 281474976710656) ((refDigits.l1 K (a0, (List.replicate (Int.toNat a1) (0 : Int)), IntKind.wrap .i64 (a1 - 1))).bind fun o29 => if 0 < o29.1 then (some (([] : List Int), 24)) else (some (o29.2, 0))))
theorem refDigits.calls {B : Nat} {w0 : World} {G : List HP} (K : Nat) (a0 : Int) (a1 : Int) (r : (List Int) × Int) (H : refDigits.f K a0 a1 = some r) (w : World) (hw : St B w0 (G) w) :
    Calls Try.prog 26 [.int .u64 a0, .int .i64 a1].toArray w (fun e w' => ∃ A0 c0, e = .returned (.tuple #[.slice A0 r.1.length c0, .int .i64 r.2]) ∧ St B w0 (own 5 1 A0 c0 (r.1.map (Value.int .u8)) :: G) w') := by
  unfold refDigits.f at H
  refine calls_of (n := 33) (s := [(0, .int .u64 a0), (1, .int .i64 a1)]) Try.func26 rfl rfl rfl rfl ?_ hw
  refine C.rs ?_
  refine J.p rfl rfl rfl rfl (Y.asg rfl) ?_
  refine J.p rfl rfl rfl rfl (Y.asg rfl) ?_
  refine J.nx ?_
  refine C.seq ?_
  refine C.rs ?_
  refine J.joinB H (fun (o2 : Bool) (j3 : Unit) => [(0, .int .u64 a0), (1, .int .i64 a1), (13, .bool o2)]) (fun (o2 : Bool) (j3 : Unit) => G) (fun (o2 : Bool) (j3 : Unit) => True) (fun o4 H HK5 => ?_) (fun o2 j3 H _ => ?_)
  · refine J.p rfl rfl rfl rfl (Y.mv rfl) ?_
    refine J.p rfl rfl rfl rfl (Y.bin rfl rfl rfl) ?_
    refine J.p rfl rfl rfl rfl (Y.mv rfl) ?_
    refine split2 H (fun c6 H => ?_) (fun c6 H => ?_)
    · refine J.as (k := 10) rfl (congrArg Value.bool (decide_eq_true c6)) ?_
      refine J.skip rfl rfl ?_
      refine J.skip rfl rfl ?_
      refine J.p rfl rfl rfl rfl (Y.pickT rfl rfl) ?_
      refine J.nil ?_
      obtain rfl := Option.some.inj H
      exact N.meet (true, ()) ⟨HK5, trivial⟩ (by exact ⟨rfl, rfl, rfl, trivial⟩) (by exact fun w h => h)
    · refine J.as (k := 10) rfl (congrArg Value.bool (decide_eq_false c6)) ?_
      refine J.p rfl rfl rfl rfl (Y.mv rfl) ?_
      refine J.p rfl rfl rfl rfl (Y.bin rfl rfl rfl) ?_
      refine J.p rfl rfl rfl rfl (Y.pickF rfl rfl) ?_
      refine J.nil ?_
      obtain rfl := Option.some.inj H
      exact N.meet (decide (9 < a1), ()) ⟨HK5, trivial⟩ (by exact ⟨rfl, rfl, rfl, trivial⟩) (by exact fun w h => h)
  · refine C.at (s' := [(0, .int .u64 a0), (1, .int .i64 a1), (13, .bool o2)]) (G' := G) rfl rfl ?_
    refine split2 H (fun c7 H => ?_) (fun c7 H => ?_)
    · refine C.condT (congrArg (fun b => some (Value.bool b)) (c7)) ?_
      refine C.rs ?_
      refine J.p rfl rfl rfl rfl (Y.asg rfl) ?_
      refine J.p rfl rfl rfl rfl (Y.asg rfl) ?_
      refine J.nx ?_
      refine C.ret ?_
      obtain rfl := Option.some.inj H
      refine T.th ?_
      exact ret_ok (ks := [4, 5]) rfl rfl (fun w h => ⟨none, 0, rfl, (h.nilOwn 5 1)⟩)
    · refine C.condF (congrArg (fun b => some (Value.bool b)) (nt c7)) ?_
      refine C.skip ?_
      refine N.nx ?_
      refine C.rs ?_
      refine J.p rfl rfl rfl rfl (Y.mv rfl) ?_
      obtain ⟨p10, H⟩ := gd_some H
      refine J.mkL (enc := (Value.int .u8)) (z := 0) rfl Try.underlying22 ti5 rfl rfl rfl p10 (by decide) (fun A9 => ?_)
      refine J.p rfl rfl rfl rfl (Y.asg rfl) ?_
      refine J.nx ?_
      refine C.seq ?_
      refine C.rs ?_
      refine J.p rfl rfl rfl rfl (Y.mv rfl) ?_
      refine J.p rfl rfl rfl rfl (Y.bin rfl rfl rfl) ?_
      refine J.p rfl rfl rfl rfl (Y.asg rfl) ?_
      refine J.nx ?_
      refine C.joinN H (fun (o29 : Int × (List Int)) (j30 : (Option Addr) × Nat) => [(0, .int .u64 o29.1), (6, .slice j30.1 o29.2.length j30.2)]) (fun (o29 : Int × (List Int)) (j30 : (Option Addr) × Nat) => own 5 1 j30.1 j30.2 (o29.2.map (Value.int .u8)) :: G) (fun (o29 : Int × (List Int)) (j30 : (Option Addr) × Nat) => True) (fun o27 H HK28 => ?_) (fun o29 j30 H _ => ?_)
      · refine C.blk ?_
        refine C.loop (fun (i : Nat × (Int × (List Int) × Int) × ((Option Addr) × Nat)) => [(0, .int .u64 i.2.1.1), (6, .slice i.2.2.1 i.2.1.2.1.length i.2.2.2), (7, .int .i64 i.2.1.2.2)]) (fun (i : Nat × (Int × (List Int) × Int) × ((Option Addr) × Nat)) => own 5 1 i.2.2.1 i.2.2.2 (i.2.1.2.1.map (Value.int .u8)) :: G) (fun (i : Nat × (Int × (List Int) × Int) × ((Option Addr) × Nat)) => refDigits.l1 i.1 i.2.1 = some o27 ∧ (True)) (fun i => i.1) (K, (a0, (List.replicate (Int.toNat a1) (0 : Int)), IntKind.wrap .i64 (a1 - 1)), (A9, (Int.toNat a1))) ⟨H, trivial⟩ (by exact ⟨rfl, rfl, rfl, trivial⟩) (by exact fun w h => h) ?_
        rintro ⟨k57, i49, j50⟩ ⟨H, _⟩
        replace H : refDigits.l1 k57 i49 = some o27 := H
        obtain ⟨k48, rfl⟩ : ∃ m, k57 = m + 1 := by cases k57 with | zero => exact absurd H (by simp [refDigits.l1]) | succ m => exact ⟨m, rfl⟩
        rw [refDigits.l1] at H
        refine C.at (s' := [(0, .int .u64 i49.1), (6, .slice j50.1 i49.2.1.length j50.2), (7, .int .i64 i49.2.2)]) (G' := own 5 1 j50.1 j50.2 (i49.2.1.map (Value.int .u8)) :: G) rfl rfl ?_
        refine C.seq ?_
        refine C.rs ?_
        refine J.p rfl rfl rfl rfl (Y.mv rfl) ?_
        refine J.p rfl rfl rfl rfl (Y.bin rfl rfl rfl) ?_
        refine J.nx ?_
        refine split2 H (fun c52 H => ?_) (fun c52 H => ?_)
        · refine C.condT (congrArg (fun b => some (Value.bool b)) (decide_eq_true c52)) ?_
          refine C.skip ?_
          refine N.nx ?_
          refine C.seq ?_
          refine C.blk ?_
          refine C.rs ?_
          refine J.p rfl rfl rfl rfl (Y.mv rfl) ?_
          refine J.p rfl rfl rfl rfl (Y.mv rfl) ?_
          refine J.p rfl rfl rfl rfl (Y.mv rfl) ?_
          refine J.p rfl rfl rfl rfl (Y.rem rfl rfl (by decide)) ?_
          refine J.p rfl rfl rfl rfl (Y.conv Try.underlying24 Try.underlying5 rfl) ?_
          obtain ⟨p55, H⟩ := gd_some H
          refine J.know ((RdG.own 0 rfl).some_ (j := Int.toNat i49.2.2) (by rw [List.length_map]; exact idx_lt p55)) (fun hh => ?_)
          obtain ⟨a53, ha54⟩ := hh
          refine J.p rfl rfl rfl rfl (Y.ixa Try.underlying22 ti5 rfl rfl p55 ha54) ?_
          obtain ⟨p56, H⟩ := gd_some H
          refine J.stoL (enc := (Value.int .u8)) ti5 ha54 rfl rfl rfl p56 ?_
          refine J.as (k := 6) rfl (set_len i49.2.1 (Int.toNat i49.2.2) (IntKind.wrap .u8 (Int.tmod i49.1 128))) ?_
          refine J.nx ?_
          refine C.reg ?_
          refine J.p rfl rfl rfl rfl (Y.mv rfl) ?_
          refine J.p rfl rfl rfl rfl (Y.quo rfl rfl (by decide)) ?_
          refine J.p rfl rfl rfl rfl (Y.asg rfl) ?_
          refine J.nil ?_
          refine N.ib ?_
          refine N.nx ?_
          refine C.reg ?_
          refine J.p rfl rfl rfl rfl (Y.mv rfl) ?_
          refine J.p rfl rfl rfl rfl (Y.bin rfl rfl rfl) ?_
          refine J.p rfl rfl rfl rfl (Y.asg rfl) ?_
          refine J.nil ?_
          exact N.again (k48, (IntKind.wrap .u64 (Int.tdiv i49.1 128), (i49.2.1.set (Int.toNat i49.2.2) (IntKind.wrap .u8 (Int.tmod i49.1 128))), IntKind.wrap .i64 (i49.2.2 - 1)), (j50.1, j50.2)) ⟨H, trivial⟩ (Nat.lt_succ_self _) (by exact ⟨rfl, rfl, rfl, trivial⟩) (by exact fun w h => h)
        · refine C.condF (congrArg (fun b => some (Value.bool b)) (decide_eq_false c52)) ?_
          refine C.exit ?_
          refine X.th ?_
          refine X.th ?_
          refine X.hit ?_
          obtain rfl := Option.some.inj H
          exact N.meet ((i49.1, i49.2.1), (j50.1, j50.2)) ⟨HK28, trivial⟩ (by exact ⟨rfl, rfl, trivial⟩) (by exact fun w h => h)
      · refine N.at (s' := [(0, .int .u64 o29.1), (6, .slice j30.1 o29.2.length j30.2)]) (G' := own 5 1 j30.1 j30.2 (o29.2.map (Value.int .u8)) :: G) rfl rfl ?_
        refine N.nx ?_
        refine C.seq ?_
        refine C.rs ?_
        refine J.p rfl rfl rfl rfl (Y.mv rfl) ?_
        refine J.p rfl rfl rfl rfl (Y.bin rfl rfl rfl) ?_
        refine J.nx ?_
        refine split2 H (fun c58 H => ?_) (fun c58 H => ?_)
        · refine C.condT (congrArg (fun b => some (Value.bool b)) (decide_eq_true c58)) ?_
          refine C.rs ?_
          refine J.p rfl rfl rfl rfl (Y.asg rfl) ?_
          refine J.p rfl rfl rfl rfl (Y.asg rfl) ?_
          refine J.nx ?_
          refine C.ret ?_
          obtain rfl := Option.some.inj H
          refine T.th ?_
          exact ret_ok (ks := [4, 5]) rfl rfl (fun w h => ⟨none, 0, rfl, (((h.nilOwn 5 1).pull 1 rfl rfl).drop)⟩)
        · refine C.condF (congrArg (fun b => some (Value.bool b)) (decide_eq_false c58)) ?_
          refine C.skip ?_
          refine N.nx ?_
          refine C.rs ?_
          refine J.p rfl rfl rfl rfl (Y.mv rfl) ?_
          refine J.p rfl rfl rfl rfl (Y.asg rfl) ?_
          refine J.p rfl rfl rfl rfl (Y.asg rfl) ?_
          refine J.nx ?_
          refine C.ret ?_
          obtain rfl := Option.some.inj H
          exact ret_ok (ks := [4, 5]) rfl rfl (fun w h => ⟨j30.1, j30.2, rfl, h⟩)
/-! ### salvor/salvorlaw2.lentNums: function 34 -/
def lentNums.l1 (a0 : List Int) : Nat → ((List Int) × Int) → Option ((List Int))
  | 0, _ => none
  | k + 1, i76 => if i76.2 < (i76.1.length : Int) then ((gd ((0 : Int) ≤ i76.2 ∧ i76.2 < (i76.1.length : Int)) (gd ((0 : Int) ≤ i76.2 ∧ i76.2 < (i76.1.length : Int)) (if i76.2 < (a0.length : Int) then (gd ((0 : Int) ≤ i76.2 ∧ i76.2 < (a0.length : Int)) (gd ((0 : Int) ≤ i76.2 ∧ i76.2 < ((i76.1.set (Int.toNat i76.2) 77777).length : Int)) (gd ((0 : Int) ≤ i76.2 ∧ i76.2 < ((i76.1.set (Int.toNat i76.2) 77777).length : Int)) (some ((i76.1.set (Int.toNat i76.2) 77777).set (Int.toNat i76.2) (rd a0 i76.2)))))) else (some (i76.1.set (Int.toNat i76.2) 77777))))).bind fun o92 => lentNums.l1 a0 k (o92, IntKind.wrap .i64 (i76.2 + 1))) else (some i76.1)
def lentNums.f (K : Nat) (a0 : List Int) : Option ((List Int) × (List Int)) := gd ((0 : Int) ≤ (IntKind.wrap .i64 ((a0.length : Int) + 8)) ∧ (IntKind.wrap .i64 ((a0.length : Int) + 8)) ≤ (IntKind.wrap .i64 ((a0.length : Int) + 8)) ∧ ((8 : Nat) : Int) * (IntKind.wrap .i64 ((a0.length : Int) + 8)) ≤ 281474976710656) ((lentNums.l1 a0 K ((List.replicate (Int.toNat (IntKind.wrap .i64 ((a0.length : Int) + 8))) (0 : Int)), 0)).bind fun o39 => gd ((0 : Int) ≤ (a0.length : Int) ∧ (0 ≤ (Int.toNat (a0.length : Int)) ∧ (Int.toNat (a0.length : Int)) ≤ o39.length)) (some (o39.take (Int.toNat (a0.length : Int)), o39.drop (Int.toNat (a0.length : Int)))))
theorem lentNums.calls {B : Nat} {w0 : World} {G : List HP} (K : Nat) (a0 : List Int) (Aa0 : Option Addr) (ca0 : Nat) (ha0 : RdG B w0 G Aa0 (a0.map (Value.int .u64))) (ka0 : a0.length ≤ ca0) (r : (List Int) × (List Int)) (H : lentNums.f K a0 = some r) (w : World) (hw : St B w0 (G) w) :
    Calls Try.prog 34 [.slice Aa0 a0.length ca0].toArray w (fun e w' => ∃ A0 c0, e = .returned (.slice A0 r.1.length c0) ∧ St B w0 (own 24 1 A0 c0 ((r.1 ++ r.2).map (Value.int .u64)) :: G) w') := by
  unfold lentNums.f at H
  refine calls_of (n := 33) (s := [(0, .slice Aa0 a0.length ca0)]) Try.func34 rfl rfl rfl rfl ?_ hw
  refine C.rs ?_
  refine J.p rfl rfl rfl rfl (Y.asg rfl) ?_
  refine J.nx ?_
  refine C.rs ?_
  refine J.p rfl rfl rfl rfl (Y.mv rfl) ?_
  refine J.p rfl rfl rfl rfl (Y.lenS Try.underlying52 rfl) ?_
  refine J.p rfl rfl rfl rfl (Y.bin rfl rfl rfl) ?_
  obtain ⟨p2, H⟩ := gd_some H
  refine J.mkL (enc := (Value.int .u64)) (z := 0) rfl Try.underlying52 ti24 rfl rfl rfl p2 (by decide) (fun A1 => ?_)
  refine J.p rfl rfl rfl rfl (Y.asg rfl) ?_
  refine J.nx ?_
  refine C.seq ?_
  refine C.rs ?_
  refine J.p rfl rfl rfl rfl (Y.asg rfl) ?_
  refine J.nx ?_
  refine C.joinN H (fun (o39 : (List Int)) (j40 : (Option Addr) × Nat) => [(0, .slice Aa0 a0.length ca0), (3, .slice j40.1 o39.length j40.2)]) (fun (o39 : (List Int)) (j40 : (Option Addr) × Nat) => own 24 1 j40.1 j40.2 (o39.map (Value.int .u64)) :: G) (fun (o39 : (List Int)) (j40 : (Option Addr) × Nat) => True) (fun o37 H HK38 => ?_) (fun o39 j40 H _ => ?_)
  · refine C.blk ?_
    refine C.loop (fun (i : Nat × ((List Int) × Int) × ((Option Addr) × Nat)) => [(0, .slice Aa0 a0.length ca0), (3, .slice i.2.2.1 i.2.1.1.length i.2.2.2), (4, .int .i64 i.2.1.2)]) (fun (i : Nat × ((List Int) × Int) × ((Option Addr) × Nat)) => own 24 1 i.2.2.1 i.2.2.2 (i.2.1.1.map (Value.int .u64)) :: G) (fun (i : Nat × ((List Int) × Int) × ((Option Addr) × Nat)) => lentNums.l1 a0 i.1 i.2.1 = some o37 ∧ (True)) (fun i => i.1) (K, ((List.replicate (Int.toNat (IntKind.wrap .i64 ((a0.length : Int) + 8))) (0 : Int)), 0), (A1, (Int.toNat (IntKind.wrap .i64 ((a0.length : Int) + 8))))) ⟨H, trivial⟩ (by exact ⟨rfl, rfl, rfl, trivial⟩) (by exact fun w h => h) ?_
    rintro ⟨k105, i76, j77⟩ ⟨H, _⟩
    replace H : lentNums.l1 a0 k105 i76 = some o37 := H
    obtain ⟨k75, rfl⟩ : ∃ m, k105 = m + 1 := by cases k105 with | zero => exact absurd H (by simp [lentNums.l1]) | succ m => exact ⟨m, rfl⟩
    rw [lentNums.l1] at H
    refine C.at (s' := [(0, .slice Aa0 a0.length ca0), (3, .slice j77.1 i76.1.length j77.2), (4, .int .i64 i76.2)]) (G' := own 24 1 j77.1 j77.2 (i76.1.map (Value.int .u64)) :: G) rfl rfl ?_
    refine C.seq ?_
    refine C.rs ?_
    refine J.p rfl rfl rfl rfl (Y.mv rfl) ?_
    refine J.p rfl rfl rfl rfl (Y.mv rfl) ?_
    refine J.p rfl rfl rfl rfl (Y.lenS Try.underlying52 rfl) ?_
    refine J.p rfl rfl rfl rfl (Y.bin rfl rfl rfl) ?_
    refine J.nx ?_
    refine split2 H (fun c79 H => ?_) (fun c79 H => ?_)
    · refine C.condT (congrArg (fun b => some (Value.bool b)) (decide_eq_true c79)) ?_
      refine C.skip ?_
      refine N.nx ?_
      refine C.joinB H (fun (o92 : (List Int)) (j93 : (Option Addr) × Nat) => [(0, .slice Aa0 a0.length ca0), (3, .slice j93.1 o92.length j93.2), (4, .int .i64 i76.2)]) (fun (o92 : (List Int)) (j93 : (Option Addr) × Nat) => own 24 1 j93.1 j93.2 (o92.map (Value.int .u64)) :: G) (fun (o92 : (List Int)) (j93 : (Option Addr) × Nat) => True) (fun o90 H HK91 => ?_) (fun o92 j93 H _ => ?_)
      · refine C.blk ?_
        refine C.rs ?_
        refine J.p rfl rfl rfl rfl (Y.mv rfl) ?_
        refine J.p rfl rfl rfl rfl (Y.mv rfl) ?_
        obtain ⟨p97, H⟩ := gd_some H
        refine J.know ((RdG.own 0 rfl).some_ (j := Int.toNat i76.2) (by rw [List.length_map]; exact idx_lt p97)) (fun hh => ?_)
        obtain ⟨a95, ha96⟩ := hh
        refine J.p rfl rfl rfl rfl (Y.ixa Try.underlying52 ti24 rfl rfl p97 ha96) ?_
        obtain ⟨p98, H⟩ := gd_some H
        refine J.stoL (enc := (Value.int .u64)) ti24 ha96 rfl rfl rfl p98 ?_
        refine J.as (k := 3) rfl (set_len i76.1 (Int.toNat i76.2) 77777) ?_
        refine J.nx ?_
        refine C.rs ?_
        refine J.p rfl rfl rfl rfl (Y.mv rfl) ?_
        refine J.p rfl rfl rfl rfl (Y.mv rfl) ?_
        refine J.p rfl rfl rfl rfl (Y.lenS Try.underlying52 rfl) ?_
        refine J.p rfl rfl rfl rfl (Y.bin rfl rfl rfl) ?_
        refine J.nx ?_
        refine split2 H (fun c99 H => ?_) (fun c99 H => ?_)
        · refine C.condT (congrArg (fun b => some (Value.bool b)) (decide_eq_true c99)) ?_
          refine C.reg ?_
          refine J.p rfl rfl rfl rfl (Y.mv rfl) ?_
          refine J.p rfl rfl rfl rfl (Y.mv rfl) ?_
          refine J.p rfl rfl rfl rfl (Y.mv rfl) ?_
          refine J.p rfl rfl rfl rfl (Y.mv rfl) ?_
          obtain ⟨p100, H⟩ := gd_some H
          refine J.el rfl rfl rfl Try.underlying52 ti24 Try.underlying24 rfl rfl rfl p100 (ha0.suf [_] rfl) ?_
          obtain ⟨p103, H⟩ := gd_some H
          refine J.know ((RdG.own 0 rfl).some_ (j := Int.toNat i76.2) (by rw [List.length_map]; exact idx_lt p103)) (fun hh => ?_)
          obtain ⟨a101, ha102⟩ := hh
          refine J.p rfl rfl rfl rfl (Y.ixa Try.underlying52 ti24 rfl rfl p103 ha102) ?_
          obtain ⟨p104, H⟩ := gd_some H
          refine J.stoL (enc := (Value.int .u64)) ti24 ha102 rfl rfl rfl p104 ?_
          refine J.as (k := 3) rfl (set_len (i76.1.set (Int.toNat i76.2) 77777) (Int.toNat i76.2) (rd a0 i76.2)) ?_
          refine J.nil ?_
          refine N.ib ?_
          obtain rfl := Option.some.inj H
          exact N.meet (((i76.1.set (Int.toNat i76.2) 77777).set (Int.toNat i76.2) (rd a0 i76.2)), (j77.1, j77.2)) ⟨HK91, trivial⟩ (by exact ⟨rfl, rfl, rfl, trivial⟩) (by exact fun w h => h)
        · refine C.condF (congrArg (fun b => some (Value.bool b)) (decide_eq_false c99)) ?_
          refine C.skip ?_
          refine N.ib ?_
          obtain rfl := Option.some.inj H
          exact N.meet ((i76.1.set (Int.toNat i76.2) 77777), (j77.1, j77.2)) ⟨HK91, trivial⟩ (by exact ⟨rfl, rfl, rfl, trivial⟩) (by exact fun w h => h)
      · refine C.at (s' := [(0, .slice Aa0 a0.length ca0), (3, .slice j93.1 o92.length j93.2), (4, .int .i64 i76.2)]) (G' := own 24 1 j93.1 j93.2 (o92.map (Value.int .u64)) :: G) rfl rfl ?_
        refine C.reg ?_
        refine J.p rfl rfl rfl rfl (Y.mv rfl) ?_
        refine J.p rfl rfl rfl rfl (Y.bin rfl rfl rfl) ?_
        refine J.p rfl rfl rfl rfl (Y.asg rfl) ?_
        refine J.nil ?_
        exact N.again (k75, (o92, IntKind.wrap .i64 (i76.2 + 1)), (j93.1, j93.2)) ⟨H, trivial⟩ (Nat.lt_succ_self _) (by exact ⟨rfl, rfl, rfl, trivial⟩) (by exact fun w h => h)
    · refine C.condF (congrArg (fun b => some (Value.bool b)) (decide_eq_false c79)) ?_
      refine C.exit ?_
      refine X.th ?_
      refine X.th ?_
      refine X.hit ?_
      obtain rfl := Option.some.inj H
      exact N.meet (i76.1, (j77.1, j77.2)) ⟨HK38, trivial⟩ (by exact ⟨rfl, rfl, trivial⟩) (by exact fun w h => h)
  · refine N.at (s' := [(0, .slice Aa0 a0.length ca0), (3, .slice j40.1 o39.length j40.2)]) (G' := own 24 1 j40.1 j40.2 (o39.map (Value.int .u64)) :: G) rfl rfl ?_
    refine N.nx ?_
    refine C.rs ?_
    refine J.p rfl rfl rfl rfl (Y.mv rfl) ?_
    refine J.p rfl rfl rfl rfl (Y.mv rfl) ?_
    refine J.p rfl rfl rfl rfl (Y.lenS Try.underlying52 rfl) ?_
    obtain ⟨p107, H⟩ := gd_some H
    refine J.know (own_leL 0 rfl) (fun hc106 => ?_)
    refine J.p rfl rfl rfl rfl (Y.slcL Try.underlying52 ti24 rfl bnd.no (bnd.yes rfl p107.1) p107.2 hc106) ?_
    refine J.p rfl rfl rfl rfl (Y.asg rfl) ?_
    refine J.nx ?_
    refine C.ret ?_
    obtain rfl := Option.some.inj H
    refine T.as (k := 2) rfl (slc0 j40.1 j40.2 o39 (Int.toNat (a0.length : Int))) ?_
    exact ret_ok (ks := [2]) rfl rfl (fun w h => ⟨j40.1, j40.2, rfl, (St.split (n := (Int.toNat (a0.length : Int))) h)⟩)
/-! ### salvor/salvorlaw2.keptNums: function 36 -/
def keptNums.l1 (a1 : List Int) : Nat → ((List Int) × Int) → Option ((Bool) ⊕ (Unit))
  | 0, _ => none
  | k + 1, i115 => if i115.2 < (i115.1.length : Int) then ((if i115.2 < (a1.length : Int) then (gd ((0 : Int) ≤ i115.2 ∧ i115.2 < (i115.1.length : Int)) (gd ((0 : Int) ≤ i115.2 ∧ i115.2 < (i115.1.length : Int)) (gd ((0 : Int) ≤ i115.2 ∧ i115.2 < (a1.length : Int)) (gd ((0 : Int) ≤ i115.2 ∧ i115.2 < (a1.length : Int)) (if (rd i115.1 i115.2) ≠ (rd a1 i115.2) then (some true) else (if (a1.length : Int) ≤ i115.2 then (gd ((0 : Int) ≤ i115.2 ∧ i115.2 < (i115.1.length : Int)) (gd ((0 : Int) ≤ i115.2 ∧ i115.2 < (i115.1.length : Int)) (some (decide ((rd i115.1 i115.2) ≠ 77777))))) else (some false))))))) else (if (a1.length : Int) ≤ i115.2 then (gd ((0 : Int) ≤ i115.2 ∧ i115.2 < (i115.1.length : Int)) (gd ((0 : Int) ≤ i115.2 ∧ i115.2 < (i115.1.length : Int)) (some (decide ((rd i115.1 i115.2) ≠ 77777))))) else (some false))).bind fun o141 => if o141 = true then (some (.inl (false))) else (keptNums.l1 a1 k (i115.1, IntKind.wrap .i64 (i115.2 + 1)))) else (some (.inr ()))
def keptNums.f (K : Nat) (a0 : List Int) (z0 : List Int) (a1 : List Int) : Option (Bool) := gd ((0 : Int) ≤ (IntKind.wrap .i64 ((a1.length : Int) + 8)) ∧ (0 ≤ (Int.toNat (IntKind.wrap .i64 ((a1.length : Int) + 8))) ∧ (Int.toNat (IntKind.wrap .i64 ((a1.length : Int) + 8))) ≤ (a0 ++ z0).length)) (thn (keptNums.l1 a1 K ((((a0 ++ z0).take (Int.toNat (IntKind.wrap .i64 ((a1.length : Int) + 8)))).drop 0), 0)) fun o58 => some true)
theorem keptNums.calls {B : Nat} {w0 : World} {G : List HP} (K : Nat) (a0 : List Int) (z0 : List Int) (a1 : List Int) (Aa0 : Option Addr) (ca0 : Nat) (Aa1 : Option Addr) (ca1 : Nat) (ha0 : RdG B w0 G Aa0 ((a0 ++ z0).map (Value.int .u64))) (ka0 : (a0 ++ z0).length ≤ ca0) (ha1 : RdG B w0 G Aa1 (a1.map (Value.int .u64))) (ka1 : a1.length ≤ ca1) (r : Bool) (H : keptNums.f K a0 z0 a1 = some r) (w : World) (hw : St B w0 (G) w) :
    Calls Try.prog 36 [.slice Aa0 a0.length ca0, .slice Aa1 a1.length ca1].toArray w (fun e w' => e = .returned (.bool r) ∧ St B w0 (G) w') := by
  unfold keptNums.f at H
  refine calls_of (n := 46) (s := [(0, .slice Aa0 a0.length ca0), (1, .slice Aa1 a1.length ca1)]) Try.func36 rfl rfl rfl rfl ?_ hw
  refine C.rs ?_
  refine J.p rfl rfl rfl rfl (Y.asg rfl) ?_
  refine J.nx ?_
  refine C.rs ?_
  refine J.p rfl rfl rfl rfl (Y.mv rfl) ?_
  refine J.p rfl rfl rfl rfl (Y.mv rfl) ?_
  refine J.p rfl rfl rfl rfl (Y.lenS Try.underlying52 rfl) ?_
  refine J.p rfl rfl rfl rfl (Y.bin rfl rfl rfl) ?_
  obtain ⟨p1, H⟩ := gd_some H
  refine J.p rfl rfl rfl rfl (Y.slcW (xs := (a0 ++ z0)) Try.underlying52 ti24 rfl bnd.no (bnd.yes rfl p1.1) p1.2 ka0) ?_
  refine J.p rfl rfl rfl rfl (Y.asg rfl) ?_
  refine J.nx ?_
  refine C.seq ?_
  refine C.rs ?_
  refine J.p rfl rfl rfl rfl (Y.asg rfl) ?_
  refine J.nx ?_
  refine C.joinNR H (fun (o58 : Unit) (j59 : Unit) => []) (fun (o58 : Unit) (j59 : Unit) => G) (fun (o58 : Unit) (j59 : Unit) => True) (fun o56 H HK57 => ?_) (fun o58 j59 H _ => ?_)
  · refine C.blk ?_
    refine C.loop (fun (i : Nat × ((List Int) × Int) × ((Option Addr) × Nat)) => [(1, .slice Aa1 a1.length ca1), (5, .slice i.2.2.1 i.2.1.1.length i.2.2.2), (6, .int .i64 i.2.1.2)]) (fun (i : Nat × ((List Int) × Int) × ((Option Addr) × Nat)) => G) (fun (i : Nat × ((List Int) × Int) × ((Option Addr) × Nat)) => keptNums.l1 a1 i.1 i.2.1 = some o56 ∧ ((RdG B w0 G i.2.2.1 (i.2.1.1.map (Value.int .u64)) ∧ i.2.1.1.length ≤ i.2.2.2))) (fun i => i.1) (K, ((((a0 ++ z0).take (Int.toNat (IntKind.wrap .i64 ((a1.length : Int) + 8)))).drop 0), 0), (subA 1 Aa0 ca0 0, ca0 - 0)) ⟨H, ⟨(RdG.subL (l := 0) (h := (Int.toNat (IntKind.wrap .i64 ((a1.length : Int) + 8)))) ha0 ka0), (by have := ka0; simp only [List.length_drop, List.length_take]; omega)⟩⟩ (by exact ⟨rfl, rfl, rfl, trivial⟩) (by exact fun w h => h) ?_
    rintro ⟨k164, i115, j116⟩ ⟨H, hx117⟩
    replace H : keptNums.l1 a1 k164 i115 = some o56 := H
    obtain ⟨k114, rfl⟩ : ∃ m, k164 = m + 1 := by cases k164 with | zero => exact absurd H (by simp [keptNums.l1]) | succ m => exact ⟨m, rfl⟩
    rw [keptNums.l1] at H
    refine C.at (s' := [(1, .slice Aa1 a1.length ca1), (5, .slice j116.1 i115.1.length j116.2), (6, .int .i64 i115.2)]) (G' := G) rfl rfl ?_
    refine C.seq ?_
    refine C.rs ?_
    refine J.p rfl rfl rfl rfl (Y.mv rfl) ?_
    refine J.p rfl rfl rfl rfl (Y.mv rfl) ?_
    refine J.p rfl rfl rfl rfl (Y.lenS Try.underlying52 rfl) ?_
    refine J.p rfl rfl rfl rfl (Y.bin rfl rfl rfl) ?_
    refine J.nx ?_
    refine split2 H (fun c118 H => ?_) (fun c118 H => ?_)
    · refine C.condT (congrArg (fun b => some (Value.bool b)) (decide_eq_true c118)) ?_
      refine C.skip ?_
      refine N.nx ?_
      refine C.seq ?_
      refine C.blk ?_
      refine C.joinB H (fun (o141 : Bool) (j142 : Unit) => [(1, .slice Aa1 a1.length ca1), (5, .slice j116.1 i115.1.length j116.2), (6, .int .i64 i115.2), (45, .bool o141)]) (fun (o141 : Bool) (j142 : Unit) => G) (fun (o141 : Bool) (j142 : Unit) => True) (fun o139 H HK140 => ?_) (fun o141 j142 H _ => ?_)
      · refine C.drawn (fuel := 28) (ls := [false, false, false, false, false, false, false, false, false, false, false, false, false, false, false, false, false, false, false, false, false, false, false, false, false, false, false, false]) [] (G) mx rfl rfl ?_
        refine D.p (ls' := [true, false, false, false, false, false, false, false, false, false, false, false, false, false, false, false, false, false, false, false, false, false, false, false, false, false, false, false]) 0 rfl rfl rfl rfl (by kernel_rfl) rfl (Y.mv rfl) ?_
        refine D.p (ls' := [true, true, false, false, false, false, false, false, false, false, false, false, false, false, false, false, false, false, false, false, false, false, false, false, false, false, false, false]) 1 rfl rfl rfl rfl (by kernel_rfl) rfl (Y.mv rfl) ?_
        refine D.p (ls' := [true, true, true, false, false, false, false, false, false, false, false, false, false, false, false, false, false, false, false, false, false, false, false, false, false, false, false, false]) 2 rfl rfl rfl rfl (by kernel_rfl) rfl (Y.lenS Try.underlying52 rfl) ?_
        refine D.p (ls' := [true, true, true, true, false, false, false, false, false, false, false, false, false, false, false, false, false, false, false, false, false, false, false, false, false, false, false, false]) 3 rfl rfl rfl rfl (by kernel_rfl) rfl (Y.bin rfl rfl rfl) ?_
        refine D.p (ls' := [true, true, true, true, true, false, false, false, false, false, false, false, false, false, false, false, false, false, false, false, false, false, false, false, false, false, false, false]) 4 rfl rfl rfl rfl (by kernel_rfl) rfl (Y.mv rfl) ?_
        refine split2 H (fun c143 H => ?_) (fun c143 H => ?_)
        · refine D.as (k := 22) rfl (congrArg Value.bool (decide_eq_true c143)) ?_
          refine D.p (ls' := [true, true, true, true, true, true, false, false, false, false, false, false, false, false, false, false, false, false, false, false, false, false, false, false, false, false, false, false]) 5 rfl rfl rfl rfl (by kernel_rfl) rfl (Y.mv rfl) ?_
          refine D.p (ls' := [true, true, true, true, true, true, true, false, false, false, false, false, false, false, false, false, false, false, false, false, false, false, false, false, false, false, false, false]) 6 rfl rfl rfl rfl (by kernel_rfl) rfl (Y.mv rfl) ?_
          obtain ⟨p146, H⟩ := gd_some H
          refine D.know (hx117.1.some_ (j := Int.toNat i115.2) (by rw [List.length_map]; exact idx_lt p146)) (fun hh => ?_)
          obtain ⟨a144, ha145⟩ := hh
          refine D.p (ls' := [true, true, true, true, true, true, true, true, false, false, false, false, false, false, false, false, false, false, false, false, false, false, false, false, false, false, false, false]) 7 rfl rfl rfl rfl (by kernel_rfl) rfl (Y.ixa Try.underlying52 ti24 rfl rfl p146 ha145) ?_
          obtain ⟨p147, H⟩ := gd_some H
          refine D.r (ls' := [true, true, true, true, true, true, true, true, true, false, false, false, false, false, false, false, false, false, false, false, false, false, false, false, false, false, false, false]) 8 1 0 rfl rfl rfl rfl (by kernel_rfl) (by kernel_rfl) rfl rfl (Y.ldE Try.underlying24 rfl rfl ha145 p147 hx117.1) ?_
          refine D.p (ls' := [true, true, true, true, true, true, true, true, true, true, false, false, false, false, false, false, false, false, false, false, false, false, false, false, false, false, false, false]) 9 rfl rfl rfl rfl (by kernel_rfl) rfl (Y.mv rfl) ?_
          refine D.p (ls' := [true, true, true, true, true, true, true, true, true, true, true, false, false, false, false, false, false, false, false, false, false, false, false, false, false, false, false, false]) 10 rfl rfl rfl rfl (by kernel_rfl) rfl (Y.mv rfl) ?_
          obtain ⟨p150, H⟩ := gd_some H
          refine D.know (ha1.some_ (j := Int.toNat i115.2) (by rw [List.length_map]; exact idx_lt p150)) (fun hh => ?_)
          obtain ⟨a148, ha149⟩ := hh
          refine D.p (ls' := [true, true, true, true, true, true, true, true, true, true, true, true, false, false, false, false, false, false, false, false, false, false, false, false, false, false, false, false]) 11 rfl rfl rfl rfl (by kernel_rfl) rfl (Y.ixa Try.underlying52 ti24 rfl rfl p150 ha149) ?_
          obtain ⟨p151, H⟩ := gd_some H
          refine D.r (ls' := [true, true, true, true, true, true, true, true, true, true, true, true, true, false, false, false, false, false, false, false, false, false, false, false, false, false, false, false]) 12 1 0 rfl rfl rfl rfl (by kernel_rfl) (by kernel_rfl) rfl rfl (Y.ldE Try.underlying24 rfl rfl ha149 p151 ha1) ?_
          refine D.p (ls' := [true, true, true, true, true, true, true, true, true, true, true, true, true, true, false, false, false, false, false, false, false, false, false, false, false, false, false, false]) 13 rfl rfl rfl rfl (by kernel_rfl) rfl (Y.bin rfl rfl rfl) ?_
          refine D.p (ls' := [true, true, true, true, true, true, true, true, true, true, true, true, true, true, true, false, false, false, false, false, false, false, false, false, false, false, false, false]) 14 rfl rfl rfl rfl (by kernel_rfl) rfl (Y.pickT rfl rfl) ?_
          refine D.p (ls' := [true, true, true, true, true, true, true, true, true, true, true, true, true, true, true, true, false, false, false, false, false, false, false, false, false, false, false, false]) 15 rfl rfl rfl rfl (by kernel_rfl) rfl (Y.mv rfl) ?_
          refine split2 H (fun c152 H => ?_) (fun c152 H => ?_)
          · refine D.as (k := 33) rfl (congrArg Value.bool (decide_eq_true c152)) ?_
            refine D.off (ls' := [true, true, true, true, true, true, true, true, true, true, true, true, true, true, true, true, true, false, false, false, false, false, false, false, false, false, false, false]) 16 rfl rfl rfl rfl (by kernel_rfl) rfl ?_
            refine D.off (ls' := [true, true, true, true, true, true, true, true, true, true, true, true, true, true, true, true, true, true, false, false, false, false, false, false, false, false, false, false]) 17 rfl rfl rfl rfl (by kernel_rfl) rfl ?_
            refine D.off (ls' := [true, true, true, true, true, true, true, true, true, true, true, true, true, true, true, true, true, true, true, false, false, false, false, false, false, false, false, false]) 18 rfl rfl rfl rfl (by kernel_rfl) rfl ?_
            refine D.off (ls' := [true, true, true, true, true, true, true, true, true, true, true, true, true, true, true, true, true, true, true, true, false, false, false, false, false, false, false, false]) 19 rfl rfl rfl rfl (by kernel_rfl) rfl ?_
            refine D.off (ls' := [true, true, true, true, true, true, true, true, true, true, true, true, true, true, true, true, true, true, true, true, true, false, false, false, false, false, false, false]) 20 rfl rfl rfl rfl (by kernel_rfl) rfl ?_
            refine D.off (ls' := [true, true, true, true, true, true, true, true, true, true, true, true, true, true, true, true, true, true, true, true, true, true, false, false, false, false, false, false]) 21 rfl rfl rfl rfl (by kernel_rfl) rfl ?_
            refine D.off (ls' := [true, true, true, true, true, true, true, true, true, true, true, true, true, true, true, true, true, true, true, true, true, true, true, false, false, false, false, false]) 22 rfl rfl rfl rfl (by kernel_rfl) rfl ?_
            refine D.off (ls' := [true, true, true, true, true, true, true, true, true, true, true, true, true, true, true, true, true, true, true, true, true, true, true, true, false, false, false, false]) 23 rfl rfl rfl rfl (by kernel_rfl) rfl ?_
            refine D.off (ls' := [true, true, true, true, true, true, true, true, true, true, true, true, true, true, true, true, true, true, true, true, true, true, true, true, true, false, false, false]) 24 rfl rfl rfl rfl (by kernel_rfl) rfl ?_
            refine D.off (ls' := [true, true, true, true, true, true, true, true, true, true, true, true, true, true, true, true, true, true, true, true, true, true, true, true, true, true, false, false]) 25 rfl rfl rfl rfl (by kernel_rfl) rfl ?_
            refine D.off (ls' := [true, true, true, true, true, true, true, true, true, true, true, true, true, true, true, true, true, true, true, true, true, true, true, true, true, true, true, false]) 26 rfl rfl rfl rfl (by kernel_rfl) rfl ?_
            refine D.p (ls' := [true, true, true, true, true, true, true, true, true, true, true, true, true, true, true, true, true, true, true, true, true, true, true, true, true, true, true, true]) 27 rfl rfl rfl rfl (by kernel_rfl) rfl (Y.pickT rfl rfl) ?_
            refine D.nil (by kernel_rfl) ?_
            obtain rfl := Option.some.inj H
            exact N.meet (true, ()) ⟨HK140, trivial⟩ (by exact ⟨rfl, rfl, rfl, rfl, trivial⟩) (by exact fun w h => h)
          · refine D.as (k := 33) rfl (congrArg Value.bool (decide_eq_false c152)) ?_
            refine D.p (ls' := [true, true, true, true, true, true, true, true, true, true, true, true, true, true, true, true, true, false, false, false, false, false, false, false, false, false, false, false]) 16 rfl rfl rfl rfl (by kernel_rfl) rfl (Y.mv rfl) ?_
            refine D.p (ls' := [true, true, true, true, true, true, true, true, true, true, true, true, true, true, true, true, true, true, false, false, false, false, false, false, false, false, false, false]) 17 rfl rfl rfl rfl (by kernel_rfl) rfl (Y.mv rfl) ?_
            refine D.p (ls' := [true, true, true, true, true, true, true, true, true, true, true, true, true, true, true, true, true, true, true, false, false, false, false, false, false, false, false, false]) 18 rfl rfl rfl rfl (by kernel_rfl) rfl (Y.lenS Try.underlying52 rfl) ?_
            refine D.p (ls' := [true, true, true, true, true, true, true, true, true, true, true, true, true, true, true, true, true, true, true, true, false, false, false, false, false, false, false, false]) 19 rfl rfl rfl rfl (by kernel_rfl) rfl (Y.bin rfl rfl rfl) ?_
            refine D.p (ls' := [true, true, true, true, true, true, true, true, true, true, true, true, true, true, true, true, true, true, true, true, true, false, false, false, false, false, false, false]) 20 rfl rfl rfl rfl (by kernel_rfl) rfl (Y.mv rfl) ?_
            refine split2 H (fun c153 H => ?_) (fun c153 H => ?_)
            · refine D.as (k := 38) rfl (congrArg Value.bool (decide_eq_true c153)) ?_
              refine D.p (ls' := [true, true, true, true, true, true, true, true, true, true, true, true, true, true, true, true, true, true, true, true, true, true, false, false, false, false, false, false]) 21 rfl rfl rfl rfl (by kernel_rfl) rfl (Y.mv rfl) ?_
              refine D.p (ls' := [true, true, true, true, true, true, true, true, true, true, true, true, true, true, true, true, true, true, true, true, true, true, true, false, false, false, false, false]) 22 rfl rfl rfl rfl (by kernel_rfl) rfl (Y.mv rfl) ?_
              obtain ⟨p156, H⟩ := gd_some H
              refine D.know (hx117.1.some_ (j := Int.toNat i115.2) (by rw [List.length_map]; exact idx_lt p156)) (fun hh => ?_)
              obtain ⟨a154, ha155⟩ := hh
              refine D.p (ls' := [true, true, true, true, true, true, true, true, true, true, true, true, true, true, true, true, true, true, true, true, true, true, true, true, false, false, false, false]) 23 rfl rfl rfl rfl (by kernel_rfl) rfl (Y.ixa Try.underlying52 ti24 rfl rfl p156 ha155) ?_
              obtain ⟨p157, H⟩ := gd_some H
              refine D.r (ls' := [true, true, true, true, true, true, true, true, true, true, true, true, true, true, true, true, true, true, true, true, true, true, true, true, true, false, false, false]) 24 1 0 rfl rfl rfl rfl (by kernel_rfl) (by kernel_rfl) rfl rfl (Y.ldE Try.underlying24 rfl rfl ha155 p157 hx117.1) ?_
              refine D.p (ls' := [true, true, true, true, true, true, true, true, true, true, true, true, true, true, true, true, true, true, true, true, true, true, true, true, true, true, false, false]) 25 rfl rfl rfl rfl (by kernel_rfl) rfl (Y.bin rfl rfl rfl) ?_
              refine D.p (ls' := [true, true, true, true, true, true, true, true, true, true, true, true, true, true, true, true, true, true, true, true, true, true, true, true, true, true, true, false]) 26 rfl rfl rfl rfl (by kernel_rfl) rfl (Y.pickT rfl rfl) ?_
              refine D.p (ls' := [true, true, true, true, true, true, true, true, true, true, true, true, true, true, true, true, true, true, true, true, true, true, true, true, true, true, true, true]) 27 rfl rfl rfl rfl (by kernel_rfl) rfl (Y.pickF rfl rfl) ?_
              refine D.nil (by kernel_rfl) ?_
              obtain rfl := Option.some.inj H
              exact N.meet (decide ((rd i115.1 i115.2) ≠ 77777), ()) ⟨HK140, trivial⟩ (by exact ⟨rfl, rfl, rfl, rfl, trivial⟩) (by exact fun w h => h)
            · refine D.as (k := 38) rfl (congrArg Value.bool (decide_eq_false c153)) ?_
              refine D.off (ls' := [true, true, true, true, true, true, true, true, true, true, true, true, true, true, true, true, true, true, true, true, true, true, false, false, false, false, false, false]) 21 rfl rfl rfl rfl (by kernel_rfl) rfl ?_
              refine D.off (ls' := [true, true, true, true, true, true, true, true, true, true, true, true, true, true, true, true, true, true, true, true, true, true, true, false, false, false, false, false]) 22 rfl rfl rfl rfl (by kernel_rfl) rfl ?_
              refine D.off (ls' := [true, true, true, true, true, true, true, true, true, true, true, true, true, true, true, true, true, true, true, true, true, true, true, true, false, false, false, false]) 23 rfl rfl rfl rfl (by kernel_rfl) rfl ?_
              refine D.off (ls' := [true, true, true, true, true, true, true, true, true, true, true, true, true, true, true, true, true, true, true, true, true, true, true, true, true, false, false, false]) 24 rfl rfl rfl rfl (by kernel_rfl) rfl ?_
              refine D.off (ls' := [true, true, true, true, true, true, true, true, true, true, true, true, true, true, true, true, true, true, true, true, true, true, true, true, true, true, false, false]) 25 rfl rfl rfl rfl (by kernel_rfl) rfl ?_
              refine D.p (ls' := [true, true, true, true, true, true, true, true, true, true, true, true, true, true, true, true, true, true, true, true, true, true, true, true, true, true, true, false]) 26 rfl rfl rfl rfl (by kernel_rfl) rfl (Y.pickF rfl rfl) ?_
              refine D.p (ls' := [true, true, true, true, true, true, true, true, true, true, true, true, true, true, true, true, true, true, true, true, true, true, true, true, true, true, true, true]) 27 rfl rfl rfl rfl (by kernel_rfl) rfl (Y.pickF rfl rfl) ?_
              refine D.nil (by kernel_rfl) ?_
              obtain rfl := Option.some.inj H
              exact N.meet (false, ()) ⟨HK140, trivial⟩ (by exact ⟨rfl, rfl, rfl, rfl, trivial⟩) (by exact fun w h => h)
        · refine D.as (k := 22) rfl (congrArg Value.bool (decide_eq_false c143)) ?_
          refine D.off (ls' := [true, true, true, true, true, true, false, false, false, false, false, false, false, false, false, false, false, false, false, false, false, false, false, false, false, false, false, false]) 5 rfl rfl rfl rfl (by kernel_rfl) rfl ?_
          refine D.off (ls' := [true, true, true, true, true, true, true, false, false, false, false, false, false, false, false, false, false, false, false, false, false, false, false, false, false, false, false, false]) 6 rfl rfl rfl rfl (by kernel_rfl) rfl ?_
          refine D.off (ls' := [true, true, true, true, true, true, true, true, false, false, false, false, false, false, false, false, false, false, false, false, false, false, false, false, false, false, false, false]) 7 rfl rfl rfl rfl (by kernel_rfl) rfl ?_
          refine D.off (ls' := [true, true, true, true, true, true, true, true, true, false, false, false, false, false, false, false, false, false, false, false, false, false, false, false, false, false, false, false]) 8 rfl rfl rfl rfl (by kernel_rfl) rfl ?_
          refine D.off (ls' := [true, true, true, true, true, true, true, true, true, true, false, false, false, false, false, false, false, false, false, false, false, false, false, false, false, false, false, false]) 9 rfl rfl rfl rfl (by kernel_rfl) rfl ?_
          refine D.off (ls' := [true, true, true, true, true, true, true, true, true, true, true, false, false, false, false, false, false, false, false, false, false, false, false, false, false, false, false, false]) 10 rfl rfl rfl rfl (by kernel_rfl) rfl ?_
          refine D.off (ls' := [true, true, true, true, true, true, true, true, true, true, true, true, false, false, false, false, false, false, false, false, false, false, false, false, false, false, false, false]) 11 rfl rfl rfl rfl (by kernel_rfl) rfl ?_
          refine D.off (ls' := [true, true, true, true, true, true, true, true, true, true, true, true, true, false, false, false, false, false, false, false, false, false, false, false, false, false, false, false]) 12 rfl rfl rfl rfl (by kernel_rfl) rfl ?_
          refine D.off (ls' := [true, true, true, true, true, true, true, true, true, true, true, true, true, true, false, false, false, false, false, false, false, false, false, false, false, false, false, false]) 13 rfl rfl rfl rfl (by kernel_rfl) rfl ?_
          refine D.p (ls' := [true, true, true, true, true, true, true, true, true, true, true, true, true, true, true, false, false, false, false, false, false, false, false, false, false, false, false, false]) 14 rfl rfl rfl rfl (by kernel_rfl) rfl (Y.pickF rfl rfl) ?_
          refine D.p (ls' := [true, true, true, true, true, true, true, true, true, true, true, true, true, true, true, true, false, false, false, false, false, false, false, false, false, false, false, false]) 15 rfl rfl rfl rfl (by kernel_rfl) rfl (Y.mv rfl) ?_
          refine D.p (ls' := [true, true, true, true, true, true, true, true, true, true, true, true, true, true, true, true, true, false, false, false, false, false, false, false, false, false, false, false]) 16 rfl rfl rfl rfl (by kernel_rfl) rfl (Y.mv rfl) ?_
          refine D.p (ls' := [true, true, true, true, true, true, true, true, true, true, true, true, true, true, true, true, true, true, false, false, false, false, false, false, false, false, false, false]) 17 rfl rfl rfl rfl (by kernel_rfl) rfl (Y.mv rfl) ?_
          refine D.p (ls' := [true, true, true, true, true, true, true, true, true, true, true, true, true, true, true, true, true, true, true, false, false, false, false, false, false, false, false, false]) 18 rfl rfl rfl rfl (by kernel_rfl) rfl (Y.lenS Try.underlying52 rfl) ?_
          refine D.p (ls' := [true, true, true, true, true, true, true, true, true, true, true, true, true, true, true, true, true, true, true, true, false, false, false, false, false, false, false, false]) 19 rfl rfl rfl rfl (by kernel_rfl) rfl (Y.bin rfl rfl rfl) ?_
          refine D.p (ls' := [true, true, true, true, true, true, true, true, true, true, true, true, true, true, true, true, true, true, true, true, true, false, false, false, false, false, false, false]) 20 rfl rfl rfl rfl (by kernel_rfl) rfl (Y.mv rfl) ?_
          refine split2 H (fun c158 H => ?_) (fun c158 H => ?_)
          · refine D.as (k := 38) rfl (congrArg Value.bool (decide_eq_true c158)) ?_
            refine D.p (ls' := [true, true, true, true, true, true, true, true, true, true, true, true, true, true, true, true, true, true, true, true, true, true, false, false, false, false, false, false]) 21 rfl rfl rfl rfl (by kernel_rfl) rfl (Y.mv rfl) ?_
            refine D.p (ls' := [true, true, true, true, true, true, true, true, true, true, true, true, true, true, true, true, true, true, true, true, true, true, true, false, false, false, false, false]) 22 rfl rfl rfl rfl (by kernel_rfl) rfl (Y.mv rfl) ?_
            obtain ⟨p161, H⟩ := gd_some H
            refine D.know (hx117.1.some_ (j := Int.toNat i115.2) (by rw [List.length_map]; exact idx_lt p161)) (fun hh => ?_)
            obtain ⟨a159, ha160⟩ := hh
            refine D.p (ls' := [true, true, true, true, true, true, true, true, true, true, true, true, true, true, true, true, true, true, true, true, true, true, true, true, false, false, false, false]) 23 rfl rfl rfl rfl (by kernel_rfl) rfl (Y.ixa Try.underlying52 ti24 rfl rfl p161 ha160) ?_
            obtain ⟨p162, H⟩ := gd_some H
            refine D.r (ls' := [true, true, true, true, true, true, true, true, true, true, true, true, true, true, true, true, true, true, true, true, true, true, true, true, true, false, false, false]) 24 1 0 rfl rfl rfl rfl (by kernel_rfl) (by kernel_rfl) rfl rfl (Y.ldE Try.underlying24 rfl rfl ha160 p162 hx117.1) ?_
            refine D.p (ls' := [true, true, true, true, true, true, true, true, true, true, true, true, true, true, true, true, true, true, true, true, true, true, true, true, true, true, false, false]) 25 rfl rfl rfl rfl (by kernel_rfl) rfl (Y.bin rfl rfl rfl) ?_
            refine D.p (ls' := [true, true, true, true, true, true, true, true, true, true, true, true, true, true, true, true, true, true, true, true, true, true, true, true, true, true, true, false]) 26 rfl rfl rfl rfl (by kernel_rfl) rfl (Y.pickT rfl rfl) ?_
            refine D.p (ls' := [true, true, true, true, true, true, true, true, true, true, true, true, true, true, true, true, true, true, true, true, true, true, true, true, true, true, true, true]) 27 rfl rfl rfl rfl (by kernel_rfl) rfl (Y.pickF rfl rfl) ?_
            refine D.nil (by kernel_rfl) ?_
            obtain rfl := Option.some.inj H
            exact N.meet (decide ((rd i115.1 i115.2) ≠ 77777), ()) ⟨HK140, trivial⟩ (by exact ⟨rfl, rfl, rfl, rfl, trivial⟩) (by exact fun w h => h)
          · refine D.as (k := 38) rfl (congrArg Value.bool (decide_eq_false c158)) ?_
            refine D.off (ls' := [true, true, true, true, true, true, true, true, true, true, true, true, true, true, true, true, true, true, true, true, true, true, false, false, false, false, false, false]) 21 rfl rfl rfl rfl (by kernel_rfl) rfl ?_
            refine D.off (ls' := [true, true, true, true, true, true, true, true, true, true, true, true, true, true, true, true, true, true, true, true, true, true, true, false, false, false, false, false]) 22 rfl rfl rfl rfl (by kernel_rfl) rfl ?_
            refine D.off (ls' := [true, true, true, true, true, true, true, true, true, true, true, true, true, true, true, true, true, true, true, true, true, true, true, true, false, false, false, false]) 23 rfl rfl rfl rfl (by kernel_rfl) rfl ?_
            refine D.off (ls' := [true, true, true, true, true, true, true, true, true, true, true, true, true, true, true, true, true, true, true, true, true, true, true, true, true, false, false, false]) 24 rfl rfl rfl rfl (by kernel_rfl) rfl ?_
            refine D.off (ls' := [true, true, true, true, true, true, true, true, true, true, true, true, true, true, true, true, true, true, true, true, true, true, true, true, true, true, false, false]) 25 rfl rfl rfl rfl (by kernel_rfl) rfl ?_
            refine D.p (ls' := [true, true, true, true, true, true, true, true, true, true, true, true, true, true, true, true, true, true, true, true, true, true, true, true, true, true, true, false]) 26 rfl rfl rfl rfl (by kernel_rfl) rfl (Y.pickF rfl rfl) ?_
            refine D.p (ls' := [true, true, true, true, true, true, true, true, true, true, true, true, true, true, true, true, true, true, true, true, true, true, true, true, true, true, true, true]) 27 rfl rfl rfl rfl (by kernel_rfl) rfl (Y.pickF rfl rfl) ?_
            refine D.nil (by kernel_rfl) ?_
            obtain rfl := Option.some.inj H
            exact N.meet (false, ()) ⟨HK140, trivial⟩ (by exact ⟨rfl, rfl, rfl, rfl, trivial⟩) (by exact fun w h => h)
      · refine C.at (s' := [(1, .slice Aa1 a1.length ca1), (5, .slice j116.1 i115.1.length j116.2), (6, .int .i64 i115.2), (45, .bool o141)]) (G' := G) rfl rfl ?_
        refine split2 H (fun c163 H => ?_) (fun c163 H => ?_)
        · refine C.condT (congrArg (fun b => some (Value.bool b)) (c163)) ?_
          refine C.rs ?_
          refine J.p rfl rfl rfl rfl (Y.asg rfl) ?_
          refine J.nx ?_
          refine C.ret ?_
          obtain rfl := Option.some.inj H
          obtain rfl := fin_inl HK57
          refine T.ib ?_
          refine T.th ?_
          refine T.th ?_
          refine T.ib ?_
          refine T.th ?_
          refine T.th ?_
          exact ret_ok (ks := [4]) rfl rfl (fun w h => ⟨rfl, h⟩)
        · refine C.condF (congrArg (fun b => some (Value.bool b)) (nt c163)) ?_
          refine C.skip ?_
          refine N.ib ?_
          refine N.nx ?_
          refine C.reg ?_
          refine J.p rfl rfl rfl rfl (Y.mv rfl) ?_
          refine J.p rfl rfl rfl rfl (Y.bin rfl rfl rfl) ?_
          refine J.p rfl rfl rfl rfl (Y.asg rfl) ?_
          refine J.nil ?_
          exact N.again (k114, (i115.1, IntKind.wrap .i64 (i115.2 + 1)), (j116.1, j116.2)) ⟨H, ⟨hx117.1, hx117.2⟩⟩ (Nat.lt_succ_self _) (by exact ⟨rfl, rfl, rfl, trivial⟩) (by exact fun w h => h)
    · refine C.condF (congrArg (fun b => some (Value.bool b)) (decide_eq_false c118)) ?_
      refine C.exit ?_
      refine X.th ?_
      refine X.th ?_
      refine X.hit ?_
      obtain rfl := Option.some.inj H
      exact N.meet ((), ()) ⟨fin_inr HK57, trivial⟩ (by exact trivial) (by exact fun w h => h)
  · refine N.at (s' := []) (G' := G) rfl rfl ?_
    refine N.nx ?_
    refine C.rs ?_
    refine J.p rfl rfl rfl rfl (Y.asg rfl) ?_
    refine J.nx ?_
    refine C.ret ?_
    obtain rfl := Option.some.inj H
    exact ret_ok (ks := [4]) rfl rfl (fun w h => ⟨rfl, h⟩)
/-! ### salvor/salvortop.joined: function 33 -/
def joined.f (a0 : List Int) (a1 : List Int) : Option ((List Int)) := gd ((([] : List Int).length + a0.length) * 1 ≤ 140737488355328) (gd (((([] : List Int) ++ a0).length + a1.length) * 1 ≤ 140737488355328) (some ((([] : List Int) ++ a0) ++ a1)))
theorem joined.calls {B : Nat} {w0 : World} {G : List HP} (a0 : List Int) (a1 : List Int) (Aa0 : Option Addr) (ca0 : Nat) (Aa1 : Option Addr) (ca1 : Nat) (ha0 : RdG B w0 G Aa0 (a0.map (Value.int .u8))) (ka0 : a0.length ≤ ca0) (ha1 : RdG B w0 G Aa1 (a1.map (Value.int .u8))) (ka1 : a1.length ≤ ca1) (r : (List Int)) (H : joined.f a0 a1 = some r) (w : World) (hw : St B w0 (G) w) :
    Calls Try.prog 33 [.slice Aa0 a0.length ca0, .slice Aa1 a1.length ca1].toArray w (fun e w' => ∃ A0 c0, e = .returned (.slice A0 r.length c0) ∧ St B w0 (own 5 1 A0 c0 (r.map (Value.int .u8)) :: G) w') := by
  unfold joined.f at H
  refine calls_of (n := 12) (s := [(0, .slice Aa0 a0.length ca0), (1, .slice Aa1 a1.length ca1)]) Try.func33 rfl rfl rfl rfl ?_ hw
  refine C.rs ?_
  refine J.p rfl rfl rfl rfl (Y.asg rfl) ?_
  refine J.nx ?_
  refine C.rs ?_
  refine J.p rfl rfl rfl rfl (Y.asg rfl) ?_
  refine J.nx ?_
  refine C.rs ?_
  refine J.p rfl rfl rfl rfl (Y.mv rfl) ?_
  refine J.p rfl rfl rfl rfl (Y.mv rfl) ?_
  refine J.nilOwn 5 1 ?_
  obtain ⟨p4, H⟩ := gd_some H
  refine J.appL (enc := (Value.int .u8)) (xs := ([] : List Int)) (ys := a0) rfl Try.underlying22 ti5 rfl (by decide) rfl rfl (fun _ => rfl) (ha0.suf [_] rfl) p4 (fun A2 c3 => ?_)
  refine J.p rfl rfl rfl rfl (Y.asg rfl) ?_
  refine J.nx ?_
  refine C.rs ?_
  refine J.p rfl rfl rfl rfl (Y.mv rfl) ?_
  refine J.p rfl rfl rfl rfl (Y.mv rfl) ?_
  obtain ⟨p8, H⟩ := gd_some H
  refine J.appL (enc := (Value.int .u8)) (xs := (([] : List Int) ++ a0)) (ys := a1) rfl Try.underlying22 ti5 rfl (by decide) rfl rfl (fun _ => rfl) (ha1.suf [_] rfl) p8 (fun A6 c7 => ?_)
  refine J.p rfl rfl rfl rfl (Y.asg rfl) ?_
  refine J.nx ?_
  refine C.ret ?_
  obtain rfl := Option.some.inj H
  exact ret_ok (ks := [4]) rfl rfl (fun w h => ⟨A6, c7, rfl, h⟩)
/-! ### salvor/crc.Bitwise: function 42 -/
def Bitwise.l2 : Nat → (Int × Int) → Option (Int)
  | 0, _ => none
  | k + 1, i77 => if i77.2 < 8 then (Bitwise.l2 k (Sx.bits .xor .u32 (Sx.shr .u32 i77.1 1) (Sx.bits .and .u32 2197175160 (IntKind.wrap .u32 (0 - (Sx.bits .and .u32 i77.1 1)))), IntKind.wrap .i64 (i77.2 + 1))) else (some i77.1)
def Bitwise.l1 (K : Nat) (a1 : List Int) : Nat → (Int × Int) → Option (Int)
  | 0, _ => none
  | k + 1, i55 => if i55.2 < (a1.length : Int) then ((gd ((0 : Int) ≤ i55.2 ∧ i55.2 < (a1.length : Int)) (Bitwise.l2 K (Sx.bits .xor .u32 i55.1 (IntKind.wrap .u32 (rd a1 i55.2)), 0))).bind fun o67 => Bitwise.l1 K a1 k (o67, IntKind.wrap .i64 (i55.2 + 1))) else (some i55.1)
def Bitwise.f (K : Nat) (a0 : Int) (a1 : List Int) : Option (Int) := (Bitwise.l1 K a1 K (Sx.compl .u32 a0, 0)).bind fun o28 => some (Sx.compl .u32 o28)
theorem Bitwise.calls {B : Nat} {w0 : World} {G : List HP} (K : Nat) (a0 : Int) (a1 : List Int) (Aa1 : Option Addr) (ca1 : Nat) (ha1 : RdG B w0 G Aa1 (a1.map (Value.int .u8))) (ka1 : a1.length ≤ ca1) (r : Int) (H : Bitwise.f K a0 a1 = some r) (w : World) (hw : St B w0 (G) w) :
    Calls Try.prog 42 [.int .u32 a0, .slice Aa1 a1.length ca1].toArray w (fun e w' => e = .returned (.int .u32 r) ∧ St B w0 (G) w') := by
  unfold Bitwise.f at H
  refine calls_of (n := 33) (s := [(0, .int .u32 a0), (1, .slice Aa1 a1.length ca1)]) Try.func42 rfl rfl rfl rfl ?_ hw
  refine C.rs ?_
  refine J.p rfl rfl rfl rfl (Y.asg rfl) ?_
  refine J.nx ?_
  refine C.rs ?_
  refine J.p rfl rfl rfl rfl (Y.mv rfl) ?_
  refine J.p rfl rfl rfl rfl (Y.compl rfl) ?_
  refine J.p rfl rfl rfl rfl (Y.asg rfl) ?_
  refine J.nx ?_
  refine C.seq ?_
  refine C.rs ?_
  refine J.p rfl rfl rfl rfl (Y.mv rfl) ?_
  refine J.p rfl rfl rfl rfl (Y.lenS Try.underlying22 rfl) ?_
  refine J.p rfl rfl rfl rfl (Y.mv rfl) ?_
  refine J.nx ?_
  refine C.joinN H (fun (o28 : Int) (j29 : Unit) => [(5, .int .u32 o28)]) (fun (o28 : Int) (j29 : Unit) => G) (fun (o28 : Int) (j29 : Unit) => True) (fun o26 H HK27 => ?_) (fun o28 j29 H _ => ?_)
  · refine C.blk ?_
    refine C.loop (fun (i : Nat × (Int × Int) × (Unit)) => [(5, .int .u32 i.2.1.1), (10, .slice Aa1 a1.length ca1), (11, .int .i64 (a1.length : Int)), (12, .int .i64 i.2.1.2)]) (fun (i : Nat × (Int × Int) × (Unit)) => G) (fun (i : Nat × (Int × Int) × (Unit)) => Bitwise.l1 K a1 i.1 i.2.1 = some o26 ∧ (True)) (fun i => i.1) (K, (Sx.compl .u32 a0, 0), ()) ⟨H, trivial⟩ (by exact ⟨rfl, rfl, rfl, rfl, trivial⟩) (by exact fun w h => h) ?_
    rintro ⟨k81, i55, j56⟩ ⟨H, _⟩
    replace H : Bitwise.l1 K a1 k81 i55 = some o26 := H
    obtain ⟨k54, rfl⟩ : ∃ m, k81 = m + 1 := by cases k81 with | zero => exact absurd H (by simp [Bitwise.l1]) | succ m => exact ⟨m, rfl⟩
    rw [Bitwise.l1] at H
    refine C.at (s' := [(5, .int .u32 i55.1), (10, .slice Aa1 a1.length ca1), (11, .int .i64 (a1.length : Int)), (12, .int .i64 i55.2)]) (G' := G) rfl rfl ?_
    refine C.rs ?_
    refine J.p rfl rfl rfl rfl (Y.bin rfl rfl rfl) ?_
    refine J.nx ?_
    refine C.seq ?_
    refine split2 H (fun c57 H => ?_) (fun c57 H => ?_)
    · refine C.condT (congrArg (fun b => some (Value.bool b)) (decide_eq_true c57)) ?_
      refine C.skip ?_
      refine N.nx ?_
      refine C.joinB H (fun (o67 : Int) (j68 : Unit) => [(5, .int .u32 o67), (10, .slice Aa1 a1.length ca1), (11, .int .i64 (a1.length : Int)), (12, .int .i64 i55.2)]) (fun (o67 : Int) (j68 : Unit) => G) (fun (o67 : Int) (j68 : Unit) => True) (fun o65 H HK66 => ?_) (fun o67 j68 H _ => ?_)
      · refine C.blk ?_
        refine C.rs ?_
        obtain ⟨p69, H⟩ := gd_some H
        refine J.el rfl rfl rfl Try.underlying22 ti5 Try.underlying5 rfl rfl rfl p69 ha1 ?_
        refine J.p rfl rfl rfl rfl (Y.asg rfl) ?_
        refine J.nx ?_
        refine C.rs ?_
        refine J.p rfl rfl rfl rfl (Y.mv rfl) ?_
        refine J.p rfl rfl rfl rfl (Y.mv rfl) ?_
        refine J.p rfl rfl rfl rfl (Y.conv Try.underlying5 Try.underlying54 rfl) ?_
        refine J.p rfl rfl rfl rfl (Y.bin rfl rfl rfl) ?_
        refine J.p rfl rfl rfl rfl (Y.asg rfl) ?_
        refine J.nx ?_
        refine C.rs ?_
        refine J.p rfl rfl rfl rfl (Y.mv rfl) ?_
        refine J.nx ?_
        refine C.blk ?_
        refine C.loop (fun (i : Nat × (Int × Int) × (Unit)) => [(5, .int .u32 i.2.1.1), (10, .slice Aa1 a1.length ca1), (11, .int .i64 (a1.length : Int)), (12, .int .i64 i55.2), (20, .int .i64 i.2.1.2)]) (fun (i : Nat × (Int × Int) × (Unit)) => G) (fun (i : Nat × (Int × Int) × (Unit)) => Bitwise.l2 i.1 i.2.1 = some o65 ∧ (True)) (fun i => i.1) (K, (Sx.bits .xor .u32 i55.1 (IntKind.wrap .u32 (rd a1 i55.2)), 0), ()) ⟨H, trivial⟩ (by exact ⟨rfl, rfl, rfl, rfl, rfl, trivial⟩) (by exact fun w h => h) ?_
        rintro ⟨k80, i77, j78⟩ ⟨H, _⟩
        replace H : Bitwise.l2 k80 i77 = some o65 := H
        obtain ⟨k76, rfl⟩ : ∃ m, k80 = m + 1 := by cases k80 with | zero => exact absurd H (by simp [Bitwise.l2]) | succ m => exact ⟨m, rfl⟩
        rw [Bitwise.l2] at H
        refine C.at (s' := [(5, .int .u32 i77.1), (10, .slice Aa1 a1.length ca1), (11, .int .i64 (a1.length : Int)), (12, .int .i64 i55.2), (20, .int .i64 i77.2)]) (G' := G) rfl rfl ?_
        refine C.rs ?_
        refine J.p rfl rfl rfl rfl (Y.bin rfl rfl rfl) ?_
        refine J.nx ?_
        refine C.seq ?_
        refine split2 H (fun c79 H => ?_) (fun c79 H => ?_)
        · refine C.condT (congrArg (fun b => some (Value.bool b)) (decide_eq_true c79)) ?_
          refine C.skip ?_
          refine N.nx ?_
          refine C.seq ?_
          refine C.blk ?_
          refine C.reg ?_
          refine J.p rfl rfl rfl rfl (Y.mv rfl) ?_
          refine J.p rfl rfl rfl rfl (Y.shr rfl rfl (by decide)) ?_
          refine J.p rfl rfl rfl rfl (Y.mv rfl) ?_
          refine J.p rfl rfl rfl rfl (Y.bin rfl rfl rfl) ?_
          refine J.p rfl rfl rfl rfl (Y.neg rfl) ?_
          refine J.p rfl rfl rfl rfl (Y.bin rfl rfl rfl) ?_
          refine J.p rfl rfl rfl rfl (Y.bin rfl rfl rfl) ?_
          refine J.p rfl rfl rfl rfl (Y.asg rfl) ?_
          refine J.nil ?_
          refine N.ib ?_
          refine N.nx ?_
          refine C.reg ?_
          refine J.p rfl rfl rfl rfl (Y.bin rfl rfl rfl) ?_
          refine J.p rfl rfl rfl rfl (Y.mv rfl) ?_
          refine J.nil ?_
          exact N.again (k76, (Sx.bits .xor .u32 (Sx.shr .u32 i77.1 1) (Sx.bits .and .u32 2197175160 (IntKind.wrap .u32 (0 - (Sx.bits .and .u32 i77.1 1)))), IntKind.wrap .i64 (i77.2 + 1)), ()) ⟨H, trivial⟩ (Nat.lt_succ_self _) (by exact ⟨rfl, rfl, rfl, rfl, rfl, trivial⟩) (by exact fun w h => h)
        · refine C.condF (congrArg (fun b => some (Value.bool b)) (decide_eq_false c79)) ?_
          refine C.exit ?_
          refine X.th ?_
          refine X.th ?_
          refine X.hit ?_
          refine N.ib ?_
          obtain rfl := Option.some.inj H
          exact N.meet (i77.1, ()) ⟨HK66, trivial⟩ (by exact ⟨rfl, rfl, rfl, rfl, trivial⟩) (by exact fun w h => h)
      · refine C.at (s' := [(5, .int .u32 o67), (10, .slice Aa1 a1.length ca1), (11, .int .i64 (a1.length : Int)), (12, .int .i64 i55.2)]) (G' := G) rfl rfl ?_
        refine C.reg ?_
        refine J.p rfl rfl rfl rfl (Y.bin rfl rfl rfl) ?_
        refine J.p rfl rfl rfl rfl (Y.mv rfl) ?_
        refine J.nil ?_
        exact N.again (k54, (o67, IntKind.wrap .i64 (i55.2 + 1)), ()) ⟨H, trivial⟩ (Nat.lt_succ_self _) (by exact ⟨rfl, rfl, rfl, rfl, trivial⟩) (by exact fun w h => h)
    · refine C.condF (congrArg (fun b => some (Value.bool b)) (decide_eq_false c57)) ?_
      refine C.exit ?_
      refine X.th ?_
      refine X.th ?_
      refine X.hit ?_
      obtain rfl := Option.some.inj H
      exact N.meet (i55.1, ()) ⟨HK27, trivial⟩ (by exact ⟨rfl, trivial⟩) (by exact fun w h => h)
  · refine N.at (s' := [(5, .int .u32 o28)]) (G' := G) rfl rfl ?_
    refine N.nx ?_
    refine C.rs ?_
    refine J.p rfl rfl rfl rfl (Y.mv rfl) ?_
    refine J.p rfl rfl rfl rfl (Y.compl rfl) ?_
    refine J.p rfl rfl rfl rfl (Y.asg rfl) ?_
    refine J.nx ?_
    refine C.ret ?_
    obtain rfl := Option.some.inj H
    exact ret_ok (ks := [4]) rfl rfl (fun w h => ⟨rfl, h⟩)
end Go.Proofs.Ytmgokpfkblbjkaa
