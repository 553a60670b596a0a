/- Own text, printed by the lifting program: each Go function beside a plain function, and the proof that a call of the one comes to the other. Conditions: what came in can be read. -/
import Derived.Test.YtocfkhpfpepcmaaLiftB
set_option linter.unusedVariables false
set_option linter.unusedSimpArgs false
set_option maxRecDepth 10000
set_option maxHeartbeats 4000000
namespace Go.Proofs.Ytocfkhpfpepcmaa
open Go Go.Sx
def str1 : ByteArray := (⟨((List.append (List.append ([0, 1, 2, 2, 3, 3, 3, 3, 4, 4, 4, 4, 4, 4, 4, 4, 5, 5, 5, 5, 5, 5, 5, 5, 5, 5, 5, 5, 5, 5, 5, 5, 6, 6, 6, 6, 6, 6, 6, 6, 6, 6, 6, 6, 6, 6, 6, 6, 6, 6, 6, 6, 6, 6, 6, 6, 6, 6, 6, 6, 6, 6, 6, 6] : List UInt8) ([7, 7, 7, 7, 7, 7, 7, 7, 7, 7, 7, 7, 7, 7, 7, 7, 7, 7, 7, 7, 7, 7, 7, 7, 7, 7, 7, 7, 7, 7, 7, 7, 7, 7, 7, 7, 7, 7, 7, 7, 7, 7, 7, 7, 7, 7, 7, 7, 7, 7, 7, 7, 7, 7, 7, 7, 7, 7, 7, 7, 7, 7, 7, 7] : List UInt8)) (List.append ([8, 8, 8, 8, 8, 8, 8, 8, 8, 8, 8, 8, 8, 8, 8, 8, 8, 8, 8, 8, 8, 8, 8, 8, 8, 8, 8, 8, 8, 8, 8, 8, 8, 8, 8, 8, 8, 8, 8, 8, 8, 8, 8, 8, 8, 8, 8, 8, 8, 8, 8, 8, 8, 8, 8, 8, 8, 8, 8, 8, 8, 8, 8, 8] : List UInt8) ([8, 8, 8, 8, 8, 8, 8, 8, 8, 8, 8, 8, 8, 8, 8, 8, 8, 8, 8, 8, 8, 8, 8, 8, 8, 8, 8, 8, 8, 8, 8, 8, 8, 8, 8, 8, 8, 8, 8, 8, 8, 8, 8, 8, 8, 8, 8, 8, 8, 8, 8, 8, 8, 8, 8, 8, 8, 8, 8, 8, 8, 8, 8, 8] : List UInt8)))).toArray⟩ : ByteArray)
theorem ti22 : TI Try.prog 22 1 24 (.slice none 0 0) := TI.of (by kernel_rfl)
def encY67 (x : Int × Int) : List Value := [Value.int .i64 x.1, Value.int .u64 x.2]
theorem go33 : GoF Try.prog 33 := GoF.of Try.func33 (by kernel_rfl) (by kernel_rfl)
theorem go42 : GoF Try.prog 42 := GoF.of Try.func42 (by kernel_rfl) (by kernel_rfl)
theorem go43 : GoF Try.prog 43 := GoF.of Try.func43 (by kernel_rfl) (by kernel_rfl)
/-! ### math/bits.Len64: function 42 -/
def Len64.f (a0 : Int) : Option (Int) := if 4294967296 ≤ a0 then (if 65536 ≤ (Sx.shr .u64 a0 32) then (if 256 ≤ (Sx.shr .u64 (Sx.shr .u64 a0 32) 16) then (gd ((0 : Int) ≤ (IntKind.wrap .u8 (Sx.shr .u64 (Sx.shr .u64 (Sx.shr .u64 a0 32) 16) 8)) ∧ (IntKind.wrap .u8 (Sx.shr .u64 (Sx.shr .u64 (Sx.shr .u64 a0 32) 16) 8)) < (str1.size : Int)) (some (IntKind.wrap .i64 ((IntKind.wrap .i64 ((IntKind.wrap .i64 (32 + 16)) + 8)) + (IntKind.wrap .i64 (bt str1 (IntKind.wrap .u8 (Sx.shr .u64 (Sx.shr .u64 (Sx.shr .u64 a0 32) 16) 8)))))))) else (gd ((0 : Int) ≤ (IntKind.wrap .u8 (Sx.shr .u64 (Sx.shr .u64 a0 32) 16)) ∧ (IntKind.wrap .u8 (Sx.shr .u64 (Sx.shr .u64 a0 32) 16)) < (str1.size : Int)) (some (IntKind.wrap .i64 ((IntKind.wrap .i64 (32 + 16)) + (IntKind.wrap .i64 (bt str1 (IntKind.wrap .u8 (Sx.shr .u64 (Sx.shr .u64 a0 32) 16))))))))) else (if 256 ≤ (Sx.shr .u64 a0 32) then (gd ((0 : Int) ≤ (IntKind.wrap .u8 (Sx.shr .u64 (Sx.shr .u64 a0 32) 8)) ∧ (IntKind.wrap .u8 (Sx.shr .u64 (Sx.shr .u64 a0 32) 8)) < (str1.size : Int)) (some (IntKind.wrap .i64 ((IntKind.wrap .i64 (32 + 8)) + (IntKind.wrap .i64 (bt str1 (IntKind.wrap .u8 (Sx.shr .u64 (Sx.shr .u64 a0 32) 8)))))))) else (gd ((0 : Int) ≤ (IntKind.wrap .u8 (Sx.shr .u64 a0 32)) ∧ (IntKind.wrap .u8 (Sx.shr .u64 a0 32)) < (str1.size : Int)) (some (IntKind.wrap .i64 (32 + (IntKind.wrap .i64 (bt str1 (IntKind.wrap .u8 (Sx.shr .u64 a0 32)))))))))) else (if 65536 ≤ a0 then (if 256 ≤ (Sx.shr .u64 a0 16) then (gd ((0 : Int) ≤ (IntKind.wrap .u8 (Sx.shr .u64 (Sx.shr .u64 a0 16) 8)) ∧ (IntKind.wrap .u8 (Sx.shr .u64 (Sx.shr .u64 a0 16) 8)) < (str1.size : Int)) (some (IntKind.wrap .i64 ((IntKind.wrap .i64 ((IntKind.wrap .i64 (0 + 16)) + 8)) + (IntKind.wrap .i64 (bt str1 (IntKind.wrap .u8 (Sx.shr .u64 (Sx.shr .u64 a0 16) 8)))))))) else (gd ((0 : Int) ≤ (IntKind.wrap .u8 (Sx.shr .u64 a0 16)) ∧ (IntKind.wrap .u8 (Sx.shr .u64 a0 16)) < (str1.size : Int)) (some (IntKind.wrap .i64 ((IntKind.wrap .i64 (0 + 16)) + (IntKind.wrap .i64 (bt str1 (IntKind.wrap .u8 (Sx.shr .u64 a0 16))))))))) else (if 256 ≤ a0 then (gd ((0 : Int) ≤ (IntKind.wrap .u8 (Sx.shr .u64 a0 8)) ∧ (IntKind.wrap .u8 (Sx.shr .u64 a0 8)) < (str1.size : Int)) (some (IntKind.wrap .i64 ((IntKind.wrap .i64 (0 + 8)) + (IntKind.wrap .i64 (bt str1 (IntKind.wrap .u8 (Sx.shr .u64 a0 8)))))))) else (gd ((0 : Int) ≤ (IntKind.wrap .u8 a0) ∧ (IntKind.wrap .u8 a0) < (str1.size : Int)) (some (IntKind.wrap .i64 (0 + (IntKind.wrap .i64 (bt str1 (IntKind.wrap .u8 a0)))))))))
theorem Len64.calls {B : Nat} {w0 : World} {G : List HP} (a0 : Int) (r : Int) (H : Len64.f a0 = some r) (w : World) (hw : St B w0 (G) w) :
    Calls Try.prog 42 [.int .u64 a0].toArray w (fun e w' => e = .returned (.int .i64 r) ∧ St B w0 (G) w') := by
  unfold Len64.f at H
  refine calls_of (n := 25) (s := [(0, .int .u64 a0)]) Try.func42 rfl rfl rfl rfl ?_ hw
  refine C.rs ?_
  refine J.p rfl rfl rfl rfl (Y.asg rfl) ?_
  refine J.nx ?_
  refine C.seq ?_
  refine C.rs ?_
  refine J.p rfl rfl rfl rfl (Y.mv rfl) ?_
  refine J.p rfl rfl rfl rfl (Y.bin rfl rfl rfl) ?_
  refine J.nx ?_
  refine split2 H (fun c1 H => ?_) (fun c1 H => ?_)
  · refine C.condT (congrArg (fun b => some (Value.bool b)) (decide_eq_true c1)) ?_
    refine C.rs ?_
    refine J.p rfl rfl rfl rfl (Y.mv rfl) ?_
    refine J.p rfl rfl rfl rfl (Y.shr rfl rfl (by decide)) ?_
    refine J.p rfl rfl rfl rfl (Y.asg rfl) ?_
    refine J.nx ?_
    refine C.reg ?_
    refine J.p rfl rfl rfl rfl (Y.asg rfl) ?_
    refine J.nx ?_
    refine C.seq ?_
    refine C.rs ?_
    refine J.p rfl rfl rfl rfl (Y.mv rfl) ?_
    refine J.p rfl rfl rfl rfl (Y.bin rfl rfl rfl) ?_
    refine J.nx ?_
    refine split2 H (fun c2 H => ?_) (fun c2 H => ?_)
    · refine C.condT (congrArg (fun b => some (Value.bool b)) (decide_eq_true c2)) ?_
      refine C.rs ?_
      refine J.p rfl rfl rfl rfl (Y.mv rfl) ?_
      refine J.p rfl rfl rfl rfl (Y.shr rfl rfl (by decide)) ?_
      refine J.p rfl rfl rfl rfl (Y.asg rfl) ?_
      refine J.nx ?_
      refine C.reg ?_
      refine J.p rfl rfl rfl rfl (Y.mv rfl) ?_
      refine J.p rfl rfl rfl rfl (Y.bin rfl rfl rfl) ?_
      refine J.p rfl rfl rfl rfl (Y.asg rfl) ?_
      refine J.nx ?_
      refine C.seq ?_
      refine C.rs ?_
      refine J.p rfl rfl rfl rfl (Y.mv rfl) ?_
      refine J.p rfl rfl rfl rfl (Y.bin rfl rfl rfl) ?_
      refine J.nx ?_
      refine split2 H (fun c3 H => ?_) (fun c3 H => ?_)
      · refine C.condT (congrArg (fun b => some (Value.bool b)) (decide_eq_true c3)) ?_
        refine C.rs ?_
        refine J.p rfl rfl rfl rfl (Y.mv rfl) ?_
        refine J.p rfl rfl rfl rfl (Y.shr rfl rfl (by decide)) ?_
        refine J.p rfl rfl rfl rfl (Y.asg rfl) ?_
        refine J.nx ?_
        refine C.reg ?_
        refine J.p rfl rfl rfl rfl (Y.mv rfl) ?_
        refine J.p rfl rfl rfl rfl (Y.bin rfl rfl rfl) ?_
        refine J.p rfl rfl rfl rfl (Y.asg rfl) ?_
        refine J.nx ?_
        refine C.rs ?_
        refine J.p rfl rfl rfl rfl (Y.mv rfl) ?_
        refine J.p rfl rfl rfl rfl (Y.mv rfl) ?_
        refine J.p rfl rfl rfl rfl (Y.conv Try.underlying24 Try.underlying5 rfl) ?_
        obtain ⟨p4, H⟩ := gd_some H
        refine J.p rfl rfl rfl rfl (Y.ixT Try.underlying9 rfl rfl p4) ?_
        refine J.p rfl rfl rfl rfl (Y.conv Try.underlying5 Try.underlying3 rfl) ?_
        refine J.p rfl rfl rfl rfl (Y.bin rfl rfl rfl) ?_
        refine J.p rfl rfl rfl rfl (Y.asg rfl) ?_
        refine J.nx ?_
        refine C.ret ?_
        obtain rfl := Option.some.inj H
        exact ret_ok (ks := [2]) rfl rfl (fun w h => ⟨rfl, h⟩)
      · refine C.condF (congrArg (fun b => some (Value.bool b)) (decide_eq_false c3)) ?_
        refine C.skip ?_
        refine N.nx ?_
        refine C.rs ?_
        refine J.p rfl rfl rfl rfl (Y.mv rfl) ?_
        refine J.p rfl rfl rfl rfl (Y.mv rfl) ?_
        refine J.p rfl rfl rfl rfl (Y.conv Try.underlying24 Try.underlying5 rfl) ?_
        obtain ⟨p5, H⟩ := gd_some H
        refine J.p rfl rfl rfl rfl (Y.ixT Try.underlying9 rfl rfl p5) ?_
        refine J.p rfl rfl rfl rfl (Y.conv Try.underlying5 Try.underlying3 rfl) ?_
        refine J.p rfl rfl rfl rfl (Y.bin rfl rfl rfl) ?_
        refine J.p rfl rfl rfl rfl (Y.asg rfl) ?_
        refine J.nx ?_
        refine C.ret ?_
        obtain rfl := Option.some.inj H
        exact ret_ok (ks := [2]) rfl rfl (fun w h => ⟨rfl, h⟩)
    · refine C.condF (congrArg (fun b => some (Value.bool b)) (decide_eq_false c2)) ?_
      refine C.skip ?_
      refine N.nx ?_
      refine C.seq ?_
      refine C.rs ?_
      refine J.p rfl rfl rfl rfl (Y.mv rfl) ?_
      refine J.p rfl rfl rfl rfl (Y.bin rfl rfl rfl) ?_
      refine J.nx ?_
      refine split2 H (fun c6 H => ?_) (fun c6 H => ?_)
      · refine C.condT (congrArg (fun b => some (Value.bool b)) (decide_eq_true c6)) ?_
        refine C.rs ?_
        refine J.p rfl rfl rfl rfl (Y.mv rfl) ?_
        refine J.p rfl rfl rfl rfl (Y.shr rfl rfl (by decide)) ?_
        refine J.p rfl rfl rfl rfl (Y.asg rfl) ?_
        refine J.nx ?_
        refine C.reg ?_
        refine J.p rfl rfl rfl rfl (Y.mv rfl) ?_
        refine J.p rfl rfl rfl rfl (Y.bin rfl rfl rfl) ?_
        refine J.p rfl rfl rfl rfl (Y.asg rfl) ?_
        refine J.nx ?_
        refine C.rs ?_
        refine J.p rfl rfl rfl rfl (Y.mv rfl) ?_
        refine J.p rfl rfl rfl rfl (Y.mv rfl) ?_
        refine J.p rfl rfl rfl rfl (Y.conv Try.underlying24 Try.underlying5 rfl) ?_
        obtain ⟨p7, H⟩ := gd_some H
        refine J.p rfl rfl rfl rfl (Y.ixT Try.underlying9 rfl rfl p7) ?_
        refine J.p rfl rfl rfl rfl (Y.conv Try.underlying5 Try.underlying3 rfl) ?_
        refine J.p rfl rfl rfl rfl (Y.bin rfl rfl rfl) ?_
        refine J.p rfl rfl rfl rfl (Y.asg rfl) ?_
        refine J.nx ?_
        refine C.ret ?_
        obtain rfl := Option.some.inj H
        exact ret_ok (ks := [2]) rfl rfl (fun w h => ⟨rfl, h⟩)
      · refine C.condF (congrArg (fun b => some (Value.bool b)) (decide_eq_false c6)) ?_
        refine C.skip ?_
        refine N.nx ?_
        refine C.rs ?_
        refine J.p rfl rfl rfl rfl (Y.mv rfl) ?_
        refine J.p rfl rfl rfl rfl (Y.mv rfl) ?_
        refine J.p rfl rfl rfl rfl (Y.conv Try.underlying24 Try.underlying5 rfl) ?_
        obtain ⟨p8, H⟩ := gd_some H
        refine J.p rfl rfl rfl rfl (Y.ixT Try.underlying9 rfl rfl p8) ?_
        refine J.p rfl rfl rfl rfl (Y.conv Try.underlying5 Try.underlying3 rfl) ?_
        refine J.p rfl rfl rfl rfl (Y.bin rfl rfl rfl) ?_
        refine J.p rfl rfl rfl rfl (Y.asg rfl) ?_
        refine J.nx ?_
        refine C.ret ?_
        obtain rfl := Option.some.inj H
        exact ret_ok (ks := [2]) rfl rfl (fun w h => ⟨rfl, h⟩)
  · refine C.condF (congrArg (fun b => some (Value.bool b)) (decide_eq_false c1)) ?_
    refine C.skip ?_
    refine N.nx ?_
    refine C.seq ?_
    refine C.rs ?_
    refine J.p rfl rfl rfl rfl (Y.mv rfl) ?_
    refine J.p rfl rfl rfl rfl (Y.bin rfl rfl rfl) ?_
    refine J.nx ?_
    refine split2 H (fun c9 H => ?_) (fun c9 H => ?_)
    · refine C.condT (congrArg (fun b => some (Value.bool b)) (decide_eq_true c9)) ?_
      refine C.rs ?_
      refine J.p rfl rfl rfl rfl (Y.mv rfl) ?_
      refine J.p rfl rfl rfl rfl (Y.shr rfl rfl (by decide)) ?_
      refine J.p rfl rfl rfl rfl (Y.asg rfl) ?_
      refine J.nx ?_
      refine C.reg ?_
      refine J.p rfl rfl rfl rfl (Y.mv rfl) ?_
      refine J.p rfl rfl rfl rfl (Y.bin rfl rfl rfl) ?_
      refine J.p rfl rfl rfl rfl (Y.asg rfl) ?_
      refine J.nx ?_
      refine C.seq ?_
      refine C.rs ?_
      refine J.p rfl rfl rfl rfl (Y.mv rfl) ?_
      refine J.p rfl rfl rfl rfl (Y.bin rfl rfl rfl) ?_
      refine J.nx ?_
      refine split2 H (fun c10 H => ?_) (fun c10 H => ?_)
      · refine C.condT (congrArg (fun b => some (Value.bool b)) (decide_eq_true c10)) ?_
        refine C.rs ?_
        refine J.p rfl rfl rfl rfl (Y.mv rfl) ?_
        refine J.p rfl rfl rfl rfl (Y.shr rfl rfl (by decide)) ?_
        refine J.p rfl rfl rfl rfl (Y.asg rfl) ?_
        refine J.nx ?_
        refine C.reg ?_
        refine J.p rfl rfl rfl rfl (Y.mv rfl) ?_
        refine J.p rfl rfl rfl rfl (Y.bin rfl rfl rfl) ?_
        refine J.p rfl rfl rfl rfl (Y.asg rfl) ?_
        refine J.nx ?_
        refine C.rs ?_
        refine J.p rfl rfl rfl rfl (Y.mv rfl) ?_
        refine J.p rfl rfl rfl rfl (Y.mv rfl) ?_
        refine J.p rfl rfl rfl rfl (Y.conv Try.underlying24 Try.underlying5 rfl) ?_
        obtain ⟨p11, H⟩ := gd_some H
        refine J.p rfl rfl rfl rfl (Y.ixT Try.underlying9 rfl rfl p11) ?_
        refine J.p rfl rfl rfl rfl (Y.conv Try.underlying5 Try.underlying3 rfl) ?_
        refine J.p rfl rfl rfl rfl (Y.bin rfl rfl rfl) ?_
        refine J.p rfl rfl rfl rfl (Y.asg rfl) ?_
        refine J.nx ?_
        refine C.ret ?_
        obtain rfl := Option.some.inj H
        exact ret_ok (ks := [2]) rfl rfl (fun w h => ⟨rfl, h⟩)
      · refine C.condF (congrArg (fun b => some (Value.bool b)) (decide_eq_false c10)) ?_
        refine C.skip ?_
        refine N.nx ?_
        refine C.rs ?_
        refine J.p rfl rfl rfl rfl (Y.mv rfl) ?_
        refine J.p rfl rfl rfl rfl (Y.mv rfl) ?_
        refine J.p rfl rfl rfl rfl (Y.conv Try.underlying24 Try.underlying5 rfl) ?_
        obtain ⟨p12, H⟩ := gd_some H
        refine J.p rfl rfl rfl rfl (Y.ixT Try.underlying9 rfl rfl p12) ?_
        refine J.p rfl rfl rfl rfl (Y.conv Try.underlying5 Try.underlying3 rfl) ?_
        refine J.p rfl rfl rfl rfl (Y.bin rfl rfl rfl) ?_
        refine J.p rfl rfl rfl rfl (Y.asg rfl) ?_
        refine J.nx ?_
        refine C.ret ?_
        obtain rfl := Option.some.inj H
        exact ret_ok (ks := [2]) rfl rfl (fun w h => ⟨rfl, h⟩)
    · refine C.condF (congrArg (fun b => some (Value.bool b)) (decide_eq_false c9)) ?_
      refine C.skip ?_
      refine N.nx ?_
      refine C.seq ?_
      refine C.rs ?_
      refine J.p rfl rfl rfl rfl (Y.mv rfl) ?_
      refine J.p rfl rfl rfl rfl (Y.bin rfl rfl rfl) ?_
      refine J.nx ?_
      refine split2 H (fun c13 H => ?_) (fun c13 H => ?_)
      · refine C.condT (congrArg (fun b => some (Value.bool b)) (decide_eq_true c13)) ?_
        refine C.rs ?_
        refine J.p rfl rfl rfl rfl (Y.mv rfl) ?_
        refine J.p rfl rfl rfl rfl (Y.shr rfl rfl (by decide)) ?_
        refine J.p rfl rfl rfl rfl (Y.asg rfl) ?_
        refine J.nx ?_
        refine C.reg ?_
        refine J.p rfl rfl rfl rfl (Y.mv rfl) ?_
        refine J.p rfl rfl rfl rfl (Y.bin rfl rfl rfl) ?_
        refine J.p rfl rfl rfl rfl (Y.asg rfl) ?_
        refine J.nx ?_
        refine C.rs ?_
        refine J.p rfl rfl rfl rfl (Y.mv rfl) ?_
        refine J.p rfl rfl rfl rfl (Y.mv rfl) ?_
        refine J.p rfl rfl rfl rfl (Y.conv Try.underlying24 Try.underlying5 rfl) ?_
        obtain ⟨p14, H⟩ := gd_some H
        refine J.p rfl rfl rfl rfl (Y.ixT Try.underlying9 rfl rfl p14) ?_
        refine J.p rfl rfl rfl rfl (Y.conv Try.underlying5 Try.underlying3 rfl) ?_
        refine J.p rfl rfl rfl rfl (Y.bin rfl rfl rfl) ?_
        refine J.p rfl rfl rfl rfl (Y.asg rfl) ?_
        refine J.nx ?_
        refine C.ret ?_
        obtain rfl := Option.some.inj H
        exact ret_ok (ks := [2]) rfl rfl (fun w h => ⟨rfl, h⟩)
      · refine C.condF (congrArg (fun b => some (Value.bool b)) (decide_eq_false c13)) ?_
        refine C.skip ?_
        refine N.nx ?_
        refine C.rs ?_
        refine J.p rfl rfl rfl rfl (Y.mv rfl) ?_
        refine J.p rfl rfl rfl rfl (Y.mv rfl) ?_
        refine J.p rfl rfl rfl rfl (Y.conv Try.underlying24 Try.underlying5 rfl) ?_
        obtain ⟨p15, H⟩ := gd_some H
        refine J.p rfl rfl rfl rfl (Y.ixT Try.underlying9 rfl rfl p15) ?_
        refine J.p rfl rfl rfl rfl (Y.conv Try.underlying5 Try.underlying3 rfl) ?_
        refine J.p rfl rfl rfl rfl (Y.bin rfl rfl rfl) ?_
        refine J.p rfl rfl rfl rfl (Y.asg rfl) ?_
        refine J.nx ?_
        refine C.ret ?_
        obtain rfl := Option.some.inj H
        exact ret_ok (ks := [2]) rfl rfl (fun w h => ⟨rfl, h⟩)
/-! ### salvor/vint.Size: function 33 -/
def Size.l1 (a0 : List Int) : Nat → (Int × Int) → Option (Int)
  | 0, _ => none
  | k + 1, i35 => if i35.2 < (a0.length : Int) then (gd ((0 : Int) ≤ i35.2 ∧ i35.2 < (a0.length : Int)) ((Len64.f (rd a0 i35.2)).bind fun t39 => Size.l1 a0 k (IntKind.wrap .i64 (i35.1 + (max 1 (IntKind.wrap .i64 (Int.tdiv (IntKind.wrap .i64 (t39 + 6)) 7)))), IntKind.wrap .i64 (i35.2 + 1)))) else (some i35.1)
def Size.f (K : Nat) (a0 : List Int) : Option (Int) := (Size.l1 a0 K (0, 0)).bind fun o18 => some o18
theorem Size.calls {B : Nat} {w0 : World} {G : List HP} (K : Nat) (a0 : List Int) (Aa0 : Option Addr) (ca0 : Nat) (ha0 : RdG B w0 G Aa0 (a0.map (Value.int .u64))) (ka0 : a0.length ≤ ca0) (r : Int) (H : Size.f K a0 = some r) (w : World) (hw : St B w0 (G) w) :
    Calls Try.prog 33 [.slice Aa0 a0.length ca0].toArray w (fun e w' => e = .returned (.int .i64 r) ∧ St B w0 (G) w') := by
  unfold Size.f at H
  refine calls_of (n := 21) (s := [(0, .slice Aa0 a0.length ca0)]) Try.func33 rfl rfl rfl rfl ?_ hw
  refine C.rs ?_
  refine J.p rfl rfl rfl rfl (Y.asg rfl) ?_
  refine J.nx ?_
  refine C.rs ?_
  refine J.p rfl rfl rfl rfl (Y.asg rfl) ?_
  refine J.nx ?_
  refine C.seq ?_
  refine C.rs ?_
  refine J.p rfl rfl rfl rfl (Y.mv rfl) ?_
  refine J.p rfl rfl rfl rfl (Y.lenS Try.underlying52 rfl) ?_
  refine J.p rfl rfl rfl rfl (Y.mv rfl) ?_
  refine J.nx ?_
  refine C.joinN H (fun (o18 : Int) (j19 : Unit) => [(3, .int .i64 o18)]) (fun (o18 : Int) (j19 : Unit) => G) (fun (o18 : Int) (j19 : Unit) => True) (fun o16 H HK17 => ?_) (fun o18 j19 H _ => ?_)
  · refine C.blk ?_
    refine C.loop (fun (i : Nat × (Int × Int) × (Unit)) => [(3, .int .i64 i.2.1.1), (6, .slice Aa0 a0.length ca0), (7, .int .i64 (a0.length : Int)), (8, .int .i64 i.2.1.2)]) (fun (i : Nat × (Int × Int) × (Unit)) => G) (fun (i : Nat × (Int × Int) × (Unit)) => Size.l1 a0 i.1 i.2.1 = some o16 ∧ (True)) (fun i => i.1) (K, (0, 0), ()) ⟨H, trivial⟩ (by exact ⟨rfl, rfl, rfl, rfl, trivial⟩) (by exact fun w h => h) ?_
    rintro ⟨k42, i35, j36⟩ ⟨H, _⟩
    replace H : Size.l1 a0 k42 i35 = some o16 := H
    obtain ⟨k34, rfl⟩ : ∃ m, k42 = m + 1 := by cases k42 with | zero => exact absurd H (by simp [Size.l1]) | succ m => exact ⟨m, rfl⟩
    rw [Size.l1] at H
    refine C.at (s' := [(3, .int .i64 i35.1), (6, .slice Aa0 a0.length ca0), (7, .int .i64 (a0.length : Int)), (8, .int .i64 i35.2)]) (G' := G) rfl rfl ?_
    refine C.rs ?_
    refine J.p rfl rfl rfl rfl (Y.bin rfl rfl rfl) ?_
    refine J.nx ?_
    refine C.seq ?_
    refine split2 H (fun c37 H => ?_) (fun c37 H => ?_)
    · refine C.condT (congrArg (fun b => some (Value.bool b)) (decide_eq_true c37)) ?_
      refine C.skip ?_
      refine N.nx ?_
      refine C.seq ?_
      refine C.blk ?_
      refine C.rs ?_
      obtain ⟨p38, H⟩ := gd_some H
      refine J.el rfl rfl rfl Try.underlying52 ti24 Try.underlying24 rfl rfl rfl p38 ha0 ?_
      refine J.p rfl rfl rfl rfl (Y.asg rfl) ?_
      refine J.nx ?_
      refine C.reg ?_
      refine J.p rfl rfl rfl rfl (Y.mv rfl) ?_
      refine J.p rfl rfl rfl rfl (Y.mv rfl) ?_
      obtain ⟨t39, hC40, H⟩ := bind_some H
      refine J.call (us := []) (cap := []) rfl rfl rfl go42 (fun w hw => by have hcc := Len64.calls (rd a0 i35.2) t39 hC40 w hw; exact hcc) (fun e w1 h1 => ?_)
      obtain ⟨rfl, hw41⟩ := h1
      refine ⟨_, _, rfl, hw41, ?_⟩
      refine J.p rfl rfl rfl rfl (Y.bin rfl rfl rfl) ?_
      refine J.p rfl rfl rfl rfl (Y.quo rfl rfl (by decide)) ?_
      refine J.p rfl rfl rfl rfl (Y.mx rfl rfl) ?_
      refine J.p rfl rfl rfl rfl (Y.bin rfl rfl rfl) ?_
      refine J.p rfl rfl rfl rfl (Y.asg rfl) ?_
      refine J.nil ?_
      refine N.ib ?_
      refine N.nx ?_
      refine C.reg ?_
      refine J.p rfl rfl rfl rfl (Y.bin rfl rfl rfl) ?_
      refine J.p rfl rfl rfl rfl (Y.mv rfl) ?_
      refine J.nil ?_
      exact N.again (k34, (IntKind.wrap .i64 (i35.1 + (max 1 (IntKind.wrap .i64 (Int.tdiv (IntKind.wrap .i64 (t39 + 6)) 7)))), IntKind.wrap .i64 (i35.2 + 1)), ()) ⟨H, trivial⟩ (Nat.lt_succ_self _) (by exact ⟨rfl, rfl, rfl, rfl, trivial⟩) (by exact fun w h => h)
    · refine C.condF (congrArg (fun b => some (Value.bool b)) (decide_eq_false c37)) ?_
      refine C.exit ?_
      refine X.th ?_
      refine X.th ?_
      refine X.hit ?_
      obtain rfl := Option.some.inj H
      exact N.meet (i35.1, ()) ⟨HK17, trivial⟩ (by exact ⟨rfl, trivial⟩) (by exact fun w h => h)
  · refine N.at (s' := [(3, .int .i64 o18)]) (G' := G) rfl rfl ?_
    refine N.nx ?_
    refine C.rs ?_
    refine J.p rfl rfl rfl rfl (Y.mv rfl) ?_
    refine J.p rfl rfl rfl rfl (Y.asg rfl) ?_
    refine J.nx ?_
    refine C.ret ?_
    obtain rfl := Option.some.inj H
    exact ret_ok (ks := [2]) rfl rfl (fun w h => ⟨rfl, h⟩)
/-! ### salvor/salvorlaw2.VintBack: function 11 -/
def VintBack.l1 (K : Nat) (a0 : List Int) : Nat → ((List Int) × Int) → Option ((Bool) ⊕ ((List Int)))
  | 0, _ => none
  | k + 1, i132 => if i132.2 < (a0.length : Int) then ((Decode.f K i132.1).bind fun t137 => (if t137.2.2 ≠ 0 then (some (i132.1, true)) else (gd ((0 : Int) ≤ i132.2 ∧ i132.2 < (a0.length : Int)) (gd ((0 : Int) ≤ i132.2 ∧ i132.2 < (a0.length : Int)) (if t137.1 ≠ (rd a0 i132.2) then (some (i132.1, true)) else (if t137.2.1 < 1 then (some (i132.1, true)) else (if (i132.1.length : Int) < t137.2.1 then (some (i132.1, true)) else (gd ((0 : Int) ≤ i132.2 ∧ i132.2 < (a0.length : Int)) (gd ((0 : Int) ≤ i132.2 ∧ i132.2 < (a0.length : Int)) ((Size.f K [rd a0 i132.2]).bind fun t175 => some (i132.1, decide (t137.2.1 ≠ t175))))))))))).bind fun o156 => if o156.2 = true then (some (.inl (false))) else (gd ((0 : Int) ≤ t137.2.1 ∧ ((Int.toNat t137.2.1) ≤ o156.1.length ∧ o156.1.length ≤ o156.1.length)) (VintBack.l1 K a0 k (((o156.1.take o156.1.length).drop (Int.toNat t137.2.1)), IntKind.wrap .i64 (i132.2 + 1))))) else (some (.inr i132.1))
def VintBack.f (K : Nat) (a0 : List Int) (a1 : List Int) : Option (Bool) := (Encode.f K a0).bind fun t1 => gd ((t1.length + a1.length) * 1 ≤ 140737488355328) (thn (VintBack.l1 K a0 K ((t1 ++ a1), 0)) fun o70 => (same.f K o70 a1).bind fun t182 => if t182 = true then ((works.f K).bind fun t185 => some t185) else (some false))
theorem VintBack.calls {B : Nat} {w0 : World} {G : List HP} (K : Nat) (a0 : List Int) (a1 : List Int) (Aa0 : Option Addr) (ca0 : Nat) (Aa1 : Option Addr) (ca1 : Nat) (ha0 : RdG B w0 G Aa0 (a0.map (Value.int .u64))) (ka0 : a0.length ≤ ca0) (ha1 : RdG B w0 G Aa1 (a1.map (Value.int .u8))) (ka1 : a1.length ≤ ca1) (r : Bool) (H : VintBack.f K a0 a1 = some r) (w : World) (hw : St B w0 (G) w) :
    Calls Try.prog 11 [.slice Aa0 a0.length ca0, .slice Aa1 a1.length ca1].toArray w (fun e w' => e = .returned (.bool r) ∧ St B w0 (G) w') := by
  unfold VintBack.f at H
  refine calls_of (n := 68) (s := [(0, .slice Aa0 a0.length ca0), (1, .slice Aa1 a1.length ca1)]) Try.func11 rfl rfl rfl rfl ?_ hw
  refine C.rs ?_
  refine J.p rfl rfl rfl rfl (Y.asg rfl) ?_
  refine J.nx ?_
  refine C.rs ?_
  refine J.p rfl rfl rfl rfl (Y.mv rfl) ?_
  obtain ⟨t1, hC2, H⟩ := bind_some H
  refine J.call (us := []) (cap := []) rfl rfl rfl go20 (fun w hw => by have hcc := Encode.calls K a0 Aa0 ca0 ha0 ka0 t1 hC2 w hw; exact hcc) (fun e w1 h1 => ?_)
  obtain ⟨A3, c4, rfl, hw189⟩ := h1
  refine ⟨_, _, rfl, hw189, ?_⟩
  refine J.p rfl rfl rfl rfl (Y.asg rfl) ?_
  refine J.nx ?_
  refine C.rs ?_
  refine J.p rfl rfl rfl rfl (Y.mv rfl) ?_
  refine J.p rfl rfl rfl rfl (Y.mv rfl) ?_
  obtain ⟨p8, H⟩ := gd_some H
  refine J.appL (enc := (Value.int .u8)) (xs := t1) (ys := a1) rfl Try.underlying22 ti5 rfl (by decide) rfl rfl (fun _ => rfl) (ha1.suf [_] rfl) p8 (fun A6 c7 => ?_)
  refine J.p rfl rfl rfl rfl (Y.asg rfl) ?_
  refine J.nx ?_
  refine C.seq ?_
  refine C.rs ?_
  refine J.p rfl rfl rfl rfl (Y.asg rfl) ?_
  refine J.nx ?_
  refine C.joinNR H (fun (o70 : (List Int)) (j71 : (Option Addr) × Nat) => [(1, .slice Aa1 a1.length ca1), (5, .slice j71.1 o70.length j71.2)]) (fun (o70 : (List Int)) (j71 : (Option Addr) × Nat) => own 5 1 A6 c7 ((t1 ++ a1).map (Value.int .u8)) :: G) (fun (o70 : (List Int)) (j71 : (Option Addr) × Nat) => (RdG B w0 [own 5 1 A6 c7 ((t1 ++ a1).map (Value.int .u8))] j71.1 (o70.map (Value.int .u8)) ∧ o70.length ≤ j71.2)) (fun o68 H HK69 => ?_) (fun o70 j71 H hx72 => ?_)
  · refine C.blk ?_
    refine C.know (own_leL 0 rfl) (fun hc135 => ?_)
    refine C.loop (fun (i : Nat × ((List Int) × Int) × ((Option Addr) × Nat)) => [(0, .slice Aa0 a0.length ca0), (1, .slice Aa1 a1.length ca1), (5, .slice i.2.2.1 i.2.1.1.length i.2.2.2), (6, .int .i64 i.2.1.2)]) (fun (i : Nat × ((List Int) × Int) × ((Option Addr) × Nat)) => own 5 1 A6 c7 ((t1 ++ a1).map (Value.int .u8)) :: G) (fun (i : Nat × ((List Int) × Int) × ((Option Addr) × Nat)) => VintBack.l1 K a0 i.1 i.2.1 = some o68 ∧ ((RdG B w0 [own 5 1 A6 c7 ((t1 ++ a1).map (Value.int .u8))] i.2.2.1 (i.2.1.1.map (Value.int .u8)) ∧ i.2.1.1.length ≤ i.2.2.2))) (fun i => i.1) (K, ((t1 ++ a1), 0), (A6, c7)) ⟨H, ⟨(RdG.own 0 rfl), hc135⟩⟩ (by exact ⟨rfl, rfl, rfl, rfl, trivial⟩) (by exact fun w h => h) ?_
    rintro ⟨k181, i132, j133⟩ ⟨H, hx134⟩
    replace H : VintBack.l1 K a0 k181 i132 = some o68 := H
    obtain ⟨k131, rfl⟩ : ∃ m, k181 = m + 1 := by cases k181 with | zero => exact absurd H (by simp [VintBack.l1]) | succ m => exact ⟨m, rfl⟩
    rw [VintBack.l1] at H
    refine C.at (s' := [(0, .slice Aa0 a0.length ca0), (1, .slice Aa1 a1.length ca1), (5, .slice j133.1 i132.1.length j133.2), (6, .int .i64 i132.2)]) (G' := own 5 1 A6 c7 ((t1 ++ a1).map (Value.int .u8)) :: G) rfl rfl ?_
    refine C.seq ?_
    refine C.rs ?_
    refine J.p rfl rfl rfl rfl (Y.mv rfl) ?_
    refine J.p rfl rfl rfl rfl (Y.mv rfl) ?_
    refine J.p rfl rfl rfl rfl (Y.lenS Try.underlying52 rfl) ?_
    refine J.p rfl rfl rfl rfl (Y.bin rfl rfl rfl) ?_
    refine J.nx ?_
    refine split2 H (fun c136 H => ?_) (fun c136 H => ?_)
    · refine C.condT (congrArg (fun b => some (Value.bool b)) (decide_eq_true c136)) ?_
      refine C.skip ?_
      refine N.nx ?_
      refine C.seq ?_
      refine C.blk ?_
      refine C.rs ?_
      refine J.p rfl rfl rfl rfl (Y.mv rfl) ?_
      obtain ⟨t137, hC138, H⟩ := bind_some H
      refine J.call (us := []) (cap := []) rfl rfl rfl go15 (fun w hw => by have hcc := Decode.calls K i132.1 j133.1 j133.2 (RdG.at_ hx134.1 0 rfl) hx134.2 t137 hC138 w hw; exact hcc) (fun e w1 h1 => ?_)
      obtain ⟨rfl, hw180⟩ := h1
      refine ⟨_, _, rfl, hw180, ?_⟩
      refine J.p rfl rfl rfl rfl (Y.mv rfl) ?_
      refine J.p rfl rfl rfl rfl (Y.ext rfl rfl) ?_
      refine J.p rfl rfl rfl rfl (Y.ext rfl rfl) ?_
      refine J.p rfl rfl rfl rfl (Y.ext rfl rfl) ?_
      refine J.p rfl rfl rfl rfl (Y.asg rfl) ?_
      refine J.p rfl rfl rfl rfl (Y.asg rfl) ?_
      refine J.p rfl rfl rfl rfl (Y.asg rfl) ?_
      refine J.nx ?_
      refine C.seq ?_
      refine C.rs ?_
      refine J.joinB H (fun (o156 : (List Int) × Bool) (j157 : (Option Addr) × Nat) => [(0, .slice Aa0 a0.length ca0), (1, .slice Aa1 a1.length ca1), (5, .slice j157.1 o156.1.length j157.2), (6, .int .i64 i132.2), (8, .int .i64 t137.2.1), (57, .bool o156.2)]) (fun (o156 : (List Int) × Bool) (j157 : (Option Addr) × Nat) => own 5 1 A6 c7 ((t1 ++ a1).map (Value.int .u8)) :: G) (fun (o156 : (List Int) × Bool) (j157 : (Option Addr) × Nat) => (RdG B w0 [own 5 1 A6 c7 ((t1 ++ a1).map (Value.int .u8))] j157.1 (o156.1.map (Value.int .u8)) ∧ o156.1.length ≤ j157.2)) (fun o159 H HK160 => ?_) (fun o156 j157 H hx158 => ?_)
      · refine J.p rfl rfl rfl rfl (Y.mv rfl) ?_
        refine J.p rfl rfl rfl rfl (Y.bin rfl rfl rfl) ?_
        refine J.p rfl rfl rfl rfl (Y.mv rfl) ?_
        refine split2 H (fun c161 H => ?_) (fun c161 H => ?_)
        · refine J.as (k := 30) rfl (congrArg Value.bool (decide_eq_true c161)) ?_
          refine J.skip rfl rfl ?_
          refine J.skip rfl rfl ?_
          refine J.skip rfl rfl ?_
          refine J.skip rfl rfl ?_
          refine J.skip rfl rfl ?_
          refine J.skip rfl rfl ?_
          refine J.p rfl rfl rfl rfl (Y.pickT rfl rfl) ?_
          refine J.p rfl rfl rfl rfl (Y.mv rfl) ?_
          refine J.skip rfl rfl ?_
          refine J.skip rfl rfl ?_
          refine J.p rfl rfl rfl rfl (Y.pickT rfl rfl) ?_
          refine J.p rfl rfl rfl rfl (Y.mv rfl) ?_
          refine J.skip rfl rfl ?_
          refine J.skip rfl rfl ?_
          refine J.skip rfl rfl ?_
          refine J.skip rfl rfl ?_
          refine J.p rfl rfl rfl rfl (Y.pickT rfl rfl) ?_
          refine J.p rfl rfl rfl rfl (Y.mv rfl) ?_
          refine J.skip rfl rfl ?_
          refine J.skip rfl rfl ?_
          refine J.skip rfl rfl ?_
          refine J.skip rfl rfl ?_
          refine J.skip rfl rfl ?_
          refine J.skip rfl rfl ?_
          refine J.skip rfl rfl ?_
          refine J.skip rfl rfl ?_
          refine J.p rfl rfl rfl rfl (Y.pickT rfl rfl) ?_
          refine J.nil ?_
          obtain rfl := Option.some.inj H
          exact N.meet ((i132.1, true), (j133.1, j133.2)) ⟨HK160, ⟨hx134.1, hx134.2⟩⟩ (by exact ⟨rfl, rfl, rfl, rfl, rfl, rfl, trivial⟩) (by exact fun w h => h)
        · refine J.as (k := 30) rfl (congrArg Value.bool (decide_eq_false c161)) ?_
          refine J.p rfl rfl rfl rfl (Y.mv rfl) ?_
          refine J.p rfl rfl rfl rfl (Y.mv rfl) ?_
          refine J.p rfl rfl rfl rfl (Y.mv rfl) ?_
          obtain ⟨p164, H⟩ := gd_some H
          refine J.know ((ha0.suf [_] rfl).some_ (j := Int.toNat i132.2) (by rw [List.length_map]; exact idx_lt p164)) (fun hh => ?_)
          obtain ⟨a162, ha163⟩ := hh
          refine J.p rfl rfl rfl rfl (Y.ixa Try.underlying52 ti24 rfl rfl p164 ha163) ?_
          obtain ⟨p165, H⟩ := gd_some H
          refine J.r rfl rfl rfl rfl (Y.ldE Try.underlying24 rfl rfl ha163 p165 (ha0.suf [_] rfl)) ?_
          refine J.p rfl rfl rfl rfl (Y.bin rfl rfl rfl) ?_
          refine J.p rfl rfl rfl rfl (Y.pickF rfl rfl) ?_
          refine J.p rfl rfl rfl rfl (Y.mv rfl) ?_
          refine split2 H (fun c166 H => ?_) (fun c166 H => ?_)
          · refine J.as (k := 38) rfl (congrArg Value.bool (decide_eq_true c166)) ?_
            refine J.skip rfl rfl ?_
            refine J.skip rfl rfl ?_
            refine J.p rfl rfl rfl rfl (Y.pickT rfl rfl) ?_
            refine J.p rfl rfl rfl rfl (Y.mv rfl) ?_
            refine J.skip rfl rfl ?_
            refine J.skip rfl rfl ?_
            refine J.skip rfl rfl ?_
            refine J.skip rfl rfl ?_
            refine J.p rfl rfl rfl rfl (Y.pickT rfl rfl) ?_
            refine J.p rfl rfl rfl rfl (Y.mv rfl) ?_
            refine J.skip rfl rfl ?_
            refine J.skip rfl rfl ?_
            refine J.skip rfl rfl ?_
            refine J.skip rfl rfl ?_
            refine J.skip rfl rfl ?_
            refine J.skip rfl rfl ?_
            refine J.skip rfl rfl ?_
            refine J.skip rfl rfl ?_
            refine J.p rfl rfl rfl rfl (Y.pickT rfl rfl) ?_
            refine J.nil ?_
            obtain rfl := Option.some.inj H
            exact N.meet ((i132.1, true), (j133.1, j133.2)) ⟨HK160, ⟨hx134.1, hx134.2⟩⟩ (by exact ⟨rfl, rfl, rfl, rfl, rfl, rfl, trivial⟩) (by exact fun w h => h)
          · refine J.as (k := 38) rfl (congrArg Value.bool (decide_eq_false c166)) ?_
            refine J.p rfl rfl rfl rfl (Y.mv rfl) ?_
            refine J.p rfl rfl rfl rfl (Y.bin rfl rfl rfl) ?_
            refine J.p rfl rfl rfl rfl (Y.pickF rfl rfl) ?_
            refine J.p rfl rfl rfl rfl (Y.mv rfl) ?_
            refine split2 H (fun c167 H => ?_) (fun c167 H => ?_)
            · refine J.as (k := 42) rfl (congrArg Value.bool (decide_eq_true c167)) ?_
              refine J.skip rfl rfl ?_
              refine J.skip rfl rfl ?_
              refine J.skip rfl rfl ?_
              refine J.skip rfl rfl ?_
              refine J.p rfl rfl rfl rfl (Y.pickT rfl rfl) ?_
              refine J.p rfl rfl rfl rfl (Y.mv rfl) ?_
              refine J.skip rfl rfl ?_
              refine J.skip rfl rfl ?_
              refine J.skip rfl rfl ?_
              refine J.skip rfl rfl ?_
              refine J.skip rfl rfl ?_
              refine J.skip rfl rfl ?_
              refine J.skip rfl rfl ?_
              refine J.skip rfl rfl ?_
              refine J.p rfl rfl rfl rfl (Y.pickT rfl rfl) ?_
              refine J.nil ?_
              obtain rfl := Option.some.inj H
              exact N.meet ((i132.1, true), (j133.1, j133.2)) ⟨HK160, ⟨hx134.1, hx134.2⟩⟩ (by exact ⟨rfl, rfl, rfl, rfl, rfl, rfl, trivial⟩) (by exact fun w h => h)
            · refine J.as (k := 42) rfl (congrArg Value.bool (decide_eq_false c167)) ?_
              refine J.p rfl rfl rfl rfl (Y.mv rfl) ?_
              refine J.p rfl rfl rfl rfl (Y.mv rfl) ?_
              refine J.p rfl rfl rfl rfl (Y.lenS Try.underlying22 rfl) ?_
              refine J.p rfl rfl rfl rfl (Y.bin rfl rfl rfl) ?_
              refine J.p rfl rfl rfl rfl (Y.pickF rfl rfl) ?_
              refine J.p rfl rfl rfl rfl (Y.mv rfl) ?_
              refine split2 H (fun c168 H => ?_) (fun c168 H => ?_)
              · refine J.as (k := 48) rfl (congrArg Value.bool (decide_eq_true c168)) ?_
                refine J.skip rfl rfl ?_
                refine J.skip rfl rfl ?_
                refine J.skip rfl rfl ?_
                refine J.skip rfl rfl ?_
                refine J.skip rfl rfl ?_
                refine J.skip rfl rfl ?_
                refine J.skip rfl rfl ?_
                refine J.skip rfl rfl ?_
                refine J.p rfl rfl rfl rfl (Y.pickT rfl rfl) ?_
                refine J.nil ?_
                obtain rfl := Option.some.inj H
                exact N.meet ((i132.1, true), (j133.1, j133.2)) ⟨HK160, ⟨hx134.1, hx134.2⟩⟩ (by exact ⟨rfl, rfl, rfl, rfl, rfl, rfl, trivial⟩) (by exact fun w h => h)
              · refine J.as (k := 48) rfl (congrArg Value.bool (decide_eq_false c168)) ?_
                refine J.p rfl rfl rfl rfl (Y.mv rfl) ?_
                refine J.p rfl rfl rfl rfl (Y.mv rfl) ?_
                refine J.p rfl rfl rfl rfl (Y.mv rfl) ?_
                obtain ⟨p171, H⟩ := gd_some H
                refine J.know ((ha0.suf [_] rfl).some_ (j := Int.toNat i132.2) (by rw [List.length_map]; exact idx_lt p171)) (fun hh => ?_)
                obtain ⟨a169, ha170⟩ := hh
                refine J.p rfl rfl rfl rfl (Y.ixa Try.underlying52 ti24 rfl rfl p171 ha170) ?_
                obtain ⟨p172, H⟩ := gd_some H
                refine J.r rfl rfl rfl rfl (Y.ldE Try.underlying24 rfl rfl ha170 p172 (ha0.suf [_] rfl)) ?_
                refine J.want rfl ?_
                refine J.bsL (enc := (Value.int .u64)) (xs := [rd a0 i132.2]) rfl Try.underlying52 ti24 rfl rfl rfl rfl rfl (fun A173 => ?_)
                refine J.want rfl ?_
                obtain ⟨t175, hC176, H⟩ := bind_some H
                refine J.call (us := []) (cap := []) rfl rfl rfl go33 (fun w hw => by have hcc := Size.calls K [rd a0 i132.2] A173 1 (RdG.own 0 rfl) (show [rd a0 i132.2].length ≤ 1 from Nat.le_refl _) t175 hC176 w hw; exact hcc) (fun e w1 h1 => ?_)
                obtain ⟨rfl, hw177⟩ := h1
                refine ⟨_, _, rfl, hw177, ?_⟩
                refine J.p rfl rfl rfl rfl (Y.bin rfl rfl rfl) ?_
                refine J.p rfl rfl rfl rfl (Y.pickF rfl rfl) ?_
                refine J.nil ?_
                obtain rfl := Option.some.inj H
                exact N.meet ((i132.1, decide (t137.2.1 ≠ t175)), (j133.1, j133.2)) ⟨HK160, ⟨hx134.1, hx134.2⟩⟩ (by exact ⟨rfl, rfl, rfl, rfl, rfl, rfl, trivial⟩) (by exact fun w h => (St.pick [1] [_, _] h rfl))
      · refine C.at (s' := [(0, .slice Aa0 a0.length ca0), (1, .slice Aa1 a1.length ca1), (5, .slice j157.1 o156.1.length j157.2), (6, .int .i64 i132.2), (8, .int .i64 t137.2.1), (57, .bool o156.2)]) (G' := own 5 1 A6 c7 ((t1 ++ a1).map (Value.int .u8)) :: G) rfl rfl ?_
        refine split2 H (fun c178 H => ?_) (fun c178 H => ?_)
        · refine C.condT (congrArg (fun b => some (Value.bool b)) (c178)) ?_
          refine C.rs ?_
          refine J.p rfl rfl rfl rfl (Y.asg rfl) ?_
          refine J.nx ?_
          refine C.ret ?_
          obtain rfl := Option.some.inj H
          obtain rfl := fin_inl HK69
          refine T.th ?_
          refine T.ib ?_
          refine T.th ?_
          refine T.th ?_
          refine T.ib ?_
          refine T.th ?_
          refine T.th ?_
          exact ret_ok (ks := [4]) rfl rfl (fun w h => ⟨rfl, (St.pick [] [_] h rfl)⟩)
        · refine C.condF (congrArg (fun b => some (Value.bool b)) (nt c178)) ?_
          refine C.skip ?_
          refine N.nx ?_
          refine C.reg ?_
          refine J.p rfl rfl rfl rfl (Y.mv rfl) ?_
          refine J.p rfl rfl rfl rfl (Y.mv rfl) ?_
          obtain ⟨p179, H⟩ := gd_some H
          refine J.p rfl rfl rfl rfl (Y.slcL Try.underlying22 ti5 rfl (bnd.yes rfl p179.1) bnd.no p179.2 hx158.2) ?_
          refine J.p rfl rfl rfl rfl (Y.asg rfl) ?_
          refine J.nil ?_
          refine N.ib ?_
          refine N.nx ?_
          refine C.reg ?_
          refine J.p rfl rfl rfl rfl (Y.mv rfl) ?_
          refine J.p rfl rfl rfl rfl (Y.bin rfl rfl rfl) ?_
          refine J.p rfl rfl rfl rfl (Y.asg rfl) ?_
          refine J.nil ?_
          exact N.again (k131, (((o156.1.take o156.1.length).drop (Int.toNat t137.2.1)), IntKind.wrap .i64 (i132.2 + 1)), (subA 1 j157.1 j157.2 (Int.toNat t137.2.1), j157.2 - (Int.toNat t137.2.1))) ⟨H, ⟨(RdG.subL (l := (Int.toNat t137.2.1)) (h := o156.1.length) hx158.1 hx158.2), (hc_sub hx158.2)⟩⟩ (Nat.lt_succ_self _) (by exact ⟨rfl, rfl, rfl, rfl, trivial⟩) (by exact fun w h => h)
    · refine C.condF (congrArg (fun b => some (Value.bool b)) (decide_eq_false c136)) ?_
      refine C.exit ?_
      refine X.th ?_
      refine X.th ?_
      refine X.hit ?_
      obtain rfl := Option.some.inj H
      exact N.meet (i132.1, (j133.1, j133.2)) ⟨fin_inr HK69, ⟨hx134.1, hx134.2⟩⟩ (by exact ⟨rfl, rfl, trivial⟩) (by exact fun w h => h)
  · refine N.at (s' := [(1, .slice Aa1 a1.length ca1), (5, .slice j71.1 o70.length j71.2)]) (G' := own 5 1 A6 c7 ((t1 ++ a1).map (Value.int .u8)) :: G) rfl rfl ?_
    refine N.nx ?_
    refine C.rs ?_
    refine J.p rfl rfl rfl rfl (Y.mv rfl) ?_
    refine J.p rfl rfl rfl rfl (Y.mv rfl) ?_
    obtain ⟨t182, hC183, H⟩ := bind_some H
    refine J.call (us := []) (cap := []) rfl rfl rfl go21 (fun w hw => by have hcc := same.calls K o70 a1 j71.1 j71.2 Aa1 ca1 (RdG.at_ hx72.1 0 rfl) hx72.2 (ha1.suf [_] rfl) ka1 t182 hC183 w hw; exact hcc) (fun e w1 h1 => ?_)
    obtain ⟨rfl, hw188⟩ := h1
    refine ⟨_, _, rfl, hw188, ?_⟩
    refine J.p rfl rfl rfl rfl (Y.asg rfl) ?_
    refine J.nx ?_
    refine C.rs ?_
    refine J.p rfl rfl rfl rfl (Y.mv rfl) ?_
    refine J.p rfl rfl rfl rfl (Y.mv rfl) ?_
    refine split2 H (fun c184 H => ?_) (fun c184 H => ?_)
    · refine J.as (k := 65) rfl (congrArg Value.bool (c184)) ?_
      refine J.want rfl ?_
      obtain ⟨t185, hC186, H⟩ := bind_some H
      refine J.call (us := []) (cap := []) rfl rfl rfl go19 (fun w hw => by have hcc := works.calls K t185 hC186 w hw; exact hcc) (fun e w1 h1 => ?_)
      obtain ⟨rfl, hw187⟩ := h1
      refine ⟨_, _, rfl, hw187, ?_⟩
      refine J.p rfl rfl rfl rfl (Y.pickT rfl rfl) ?_
      refine J.p rfl rfl rfl rfl (Y.asg rfl) ?_
      refine J.nx ?_
      refine C.ret ?_
      obtain rfl := Option.some.inj H
      exact ret_ok (ks := [4]) rfl rfl (fun w h => ⟨rfl, (St.pick [] [_] h rfl)⟩)
    · refine J.as (k := 65) rfl (congrArg Value.bool (nt c184)) ?_
      refine J.skip rfl rfl ?_
      refine J.p rfl rfl rfl rfl (Y.pickF rfl rfl) ?_
      refine J.p rfl rfl rfl rfl (Y.asg rfl) ?_
      refine J.nx ?_
      refine C.ret ?_
      obtain rfl := Option.some.inj H
      exact ret_ok (ks := [4]) rfl rfl (fun w h => ⟨rfl, (St.pick [] [_] h rfl)⟩)
/-! ### salvor/vint.All$1: function 40 -/
def AllF.l1 {S E : Type} (K : Nat) (a1_0 : List Int) (step : S → (Int × Int) → Option (S ⊕ E)) : Nat → (Int × S) → Option ((S ⊕ E))
  | 0, _ => none
  | k + 1, i46 => gd ((0 : Int) ≤ i46.1 ∧ ((Int.toNat i46.1) ≤ a1_0.length ∧ a1_0.length ≤ a1_0.length)) ((Decode.f K ((a1_0.take a1_0.length).drop (Int.toNat i46.1))).bind fun t49 => if t49.2.2 ≠ 0 then (some (.inl i46.2)) else ((step i46.2 (i46.1, t49.1)).bind fun o52 => ysel o52 (fun σ53 => AllF.l1 K a1_0 step k (IntKind.wrap .i64 (i46.1 + t49.2.1), σ53)) (fun e54 => some (.inr e54))))
def AllF.f {S E : Type} (K : Nat) (step : S → (Int × Int) → Option (S ⊕ E)) (σ : S) (a1_0 : List Int) : Option ((S ⊕ E)) := AllF.l1 K a1_0 step K (0, σ)
theorem AllF.calls {S E : Type} {B : Nat} {w0 : World} {G : List HP} (K : Nat) (step : S → (Int × Int) → Option (S ⊕ E)) (σ : S) (a1_0 : List Int) (Yy : S ⊕ E → HP) (a0 : Value) (ga1 : Nat) (Aa1_0 : Option Addr) (ca1_0 : Nat) (hy : YieldOk Try.prog B w0 G a0 encY67 Yy step) (ha1_0 : RdG B w0 G Aa1_0 (a1_0.map (Value.int .u8))) (ka1_0 : a1_0.length ≤ ca1_0) (ha1 : RdG B w0 G (some ⟨ga1, 0, none⟩) [.slice Aa1_0 a1_0.length ca1_0]) (r : (S ⊕ E)) (H : AllF.f K step σ a1_0 = some r) (w : World) (hw : St B w0 (Yy (.inl σ) :: G) w) :
    Calls Try.prog 40 [a0, .pointer (some ⟨ga1, 0, none⟩)].toArray w (fun e w' => e = .returned (.tuple #[]) ∧ St B w0 (Yy r :: G) w') := by
  unfold AllF.f at H
  refine calls_of (n := 27) (s := [(0, a0), (1, .pointer (some ⟨ga1, 0, none⟩))]) Try.func40 rfl rfl rfl rfl ?_ hw
  refine C.rs ?_
  refine J.p rfl rfl rfl rfl (Y.asg rfl) ?_
  refine J.nx ?_
  refine C.blk ?_
  refine C.loop (fun (i : Nat × (Int × S) × (Unit)) => [(0, a0), (1, .pointer (some ⟨ga1, 0, none⟩)), (3, .int .i64 i.2.1.1)]) (fun (i : Nat × (Int × S) × (Unit)) => Yy (.inl i.2.1.2) :: G) (fun (i : Nat × (Int × S) × (Unit)) => AllF.l1 K a1_0 step i.1 i.2.1 = some r ∧ (True)) (fun i => i.1) (K, (0, σ), ()) ⟨H, trivial⟩ (by exact ⟨rfl, rfl, rfl, trivial⟩) (by exact fun w h => h) ?_
  rintro ⟨k57, i46, j47⟩ ⟨H, _⟩
  replace H : AllF.l1 K a1_0 step k57 i46 = some r := H
  obtain ⟨k45, rfl⟩ : ∃ m, k57 = m + 1 := by cases k57 with | zero => exact absurd H (by simp [AllF.l1]) | succ m => exact ⟨m, rfl⟩
  rw [AllF.l1] at H
  refine C.at (s' := [(0, a0), (1, .pointer (some ⟨ga1, 0, none⟩)), (3, .int .i64 i46.1)]) (G' := Yy (.inl i46.2) :: G) rfl rfl ?_
  refine C.blk ?_
  refine C.rs ?_
  refine J.r rfl rfl rfl rfl (Y.ldR Try.underlying22 rfl rfl (ha1.suf [_] rfl) rfl) ?_
  refine J.p rfl rfl rfl rfl (Y.mv rfl) ?_
  obtain ⟨p48, H⟩ := gd_some H
  refine J.p rfl rfl rfl rfl (Y.slcL Try.underlying22 ti5 rfl (bnd.yes rfl p48.1) bnd.no p48.2 ka1_0) ?_
  obtain ⟨t49, hC50, H⟩ := bind_some H
  refine J.call (us := []) (cap := []) rfl rfl rfl go15 (fun w hw => by have hcc := Decode.calls K ((a1_0.take a1_0.length).drop (Int.toNat i46.1)) (subA 1 Aa1_0 ca1_0 (Int.toNat i46.1)) (ca1_0 - (Int.toNat i46.1)) (RdG.subL (l := (Int.toNat i46.1)) (h := a1_0.length) (ha1_0.suf [_] rfl) ka1_0) (hc_sub ka1_0) t49 hC50 w hw; exact hcc) (fun e w1 h1 => ?_)
  obtain ⟨rfl, hw56⟩ := h1
  refine ⟨_, _, rfl, hw56, ?_⟩
  refine J.p rfl rfl rfl rfl (Y.mv rfl) ?_
  refine J.p rfl rfl rfl rfl (Y.ext rfl rfl) ?_
  refine J.p rfl rfl rfl rfl (Y.ext rfl rfl) ?_
  refine J.p rfl rfl rfl rfl (Y.ext rfl rfl) ?_
  refine J.p rfl rfl rfl rfl (Y.asg rfl) ?_
  refine J.p rfl rfl rfl rfl (Y.asg rfl) ?_
  refine J.p rfl rfl rfl rfl (Y.asg rfl) ?_
  refine J.nx ?_
  refine C.seq ?_
  refine C.rs ?_
  refine J.p rfl rfl rfl rfl (Y.mv rfl) ?_
  refine J.p rfl rfl rfl rfl (Y.bin rfl rfl rfl) ?_
  refine J.p rfl rfl rfl rfl (Y.mv rfl) ?_
  refine split2 H (fun c51 H => ?_) (fun c51 H => ?_)
  · refine J.as (k := 17) rfl (congrArg Value.bool (decide_eq_true c51)) ?_
    refine J.skip rfl rfl ?_
    refine J.skip rfl rfl ?_
    refine J.skip rfl rfl ?_
    refine J.skip rfl rfl ?_
    refine J.skip rfl rfl ?_
    refine J.p rfl rfl rfl rfl (Y.pickT rfl rfl) ?_
    refine J.nx ?_
    refine C.condT rfl ?_
    refine C.ret ?_
    obtain rfl := Option.some.inj H
    refine T.th ?_
    refine T.ib ?_
    refine T.th ?_
    refine T.ib ?_
    exact ret_ok (ks := []) rfl rfl (fun w h => ⟨rfl, h⟩)
  · refine J.as (k := 17) rfl (congrArg Value.bool (decide_eq_false c51)) ?_
    refine J.p rfl rfl rfl rfl (Y.mv rfl) ?_
    refine J.p rfl rfl rfl rfl (Y.mv rfl) ?_
    refine J.p rfl rfl rfl rfl (Y.mv rfl) ?_
    refine J.want rfl ?_
    obtain ⟨o52, hC55, H⟩ := bind_some H
    refine J.yield (σ := i46.2) (x := (i46.1, t49.1)) rfl hy hC55 rfl rfl [] rfl (fun σ53 ho => ?_) (fun e54 ho => ?_)
    · subst ho
      replace H := ysel_inl H
      refine J.imp (G' := Yy (.inl σ53) :: G) (fun w h => h) ?_
      refine J.p rfl rfl rfl rfl (Y.notb rfl) ?_
      refine J.p rfl rfl rfl rfl (Y.pickF rfl rfl) ?_
      refine J.nx ?_
      refine C.condF rfl ?_
      refine C.skip ?_
      refine N.nx ?_
      refine C.reg ?_
      refine J.p rfl rfl rfl rfl (Y.mv rfl) ?_
      refine J.p rfl rfl rfl rfl (Y.mv rfl) ?_
      refine J.p rfl rfl rfl rfl (Y.bin rfl rfl rfl) ?_
      refine J.p rfl rfl rfl rfl (Y.asg rfl) ?_
      refine J.nil ?_
      refine N.ib ?_
      exact N.again (k45, (IntKind.wrap .i64 (i46.1 + t49.2.1), σ53), ()) ⟨H, trivial⟩ (Nat.lt_succ_self _) (by exact ⟨rfl, rfl, rfl, trivial⟩) (by exact fun w h => h)
    · subst ho
      replace H := ysel_inr H
      refine J.imp (G' := Yy (.inr e54) :: G) (fun w h => h) ?_
      refine J.p rfl rfl rfl rfl (Y.notb rfl) ?_
      refine J.p rfl rfl rfl rfl (Y.pickF rfl rfl) ?_
      refine J.nx ?_
      refine C.condT rfl ?_
      refine C.ret ?_
      obtain rfl := Option.some.inj H
      refine T.th ?_
      refine T.ib ?_
      refine T.th ?_
      refine T.ib ?_
      exact ret_ok (ks := []) rfl rfl (fun w h => ⟨rfl, h⟩)
/-! ### salvor/vint.All: function 25 -/
def All.f (a0 : List Int) : Option (Unit) := some ()
theorem All.calls {B : Nat} {w0 : World} {G : List HP} (a0 : List Int) (Aa0 : Option Addr) (ca0 : Nat) (ha0 : RdG B w0 G Aa0 (a0.map (Value.int .u8))) (ka0 : a0.length ≤ ca0) (r : Unit) (H : All.f a0 = some r) (w : World) (hw : St B w0 (G) w) :
    Calls Try.prog 25 [.slice Aa0 a0.length ca0].toArray w (fun e w' => ∃ gf0, e = .returned (.func (.func 40) #[] #[.pointer (some ⟨gf0, 0, none⟩)]) ∧ St B w0 (cells gf0 22 [.slice Aa0 a0.length ca0] :: G) w') := by
  unfold All.f at H
  refine calls_of (n := 4) (s := [(0, .slice Aa0 a0.length ca0)]) Try.func25 rfl rfl rfl rfl ?_ hw
  refine C.rs ?_
  refine J.box (L := [.slice Aa0 a0.length ca0]) rfl rfl rfl (fun g1 => ?_)
  refine J.p rfl rfl rfl rfl (Y.asg rfl) ?_
  refine J.nx ?_
  refine C.rs ?_
  refine J.p rfl rfl rfl rfl (Y.mkf rfl rfl) ?_
  refine J.p rfl rfl rfl rfl (Y.asg rfl) ?_
  refine J.nx ?_
  refine C.ret ?_
  obtain rfl := Option.some.inj H
  exact ret_ok (ks := [2]) rfl rfl (fun w h => ⟨g1, rfl, h⟩)
/-! ### salvor/crc.Bitwise: function 43 -/
def Bitwise.l2 : Nat → (Int × Int) → Option (Int)
  | 0, _ => none
  | k + 1, i77 => if i77.2 < 8 then (Bitwise.l2 k (Sx.bits .xor .u32 (Sx.shr .u32 i77.1 1) (Sx.bits .and .u32 2197175160 (IntKind.wrap .u32 (0 - (Sx.bits .and .u32 i77.1 1)))), IntKind.wrap .i64 (i77.2 + 1))) else (some i77.1)
def Bitwise.l1 (K : Nat) (a1 : List Int) : Nat → (Int × Int) → Option (Int)
  | 0, _ => none
  | k + 1, i55 => if i55.2 < (a1.length : Int) then ((gd ((0 : Int) ≤ i55.2 ∧ i55.2 < (a1.length : Int)) (Bitwise.l2 K (Sx.bits .xor .u32 i55.1 (IntKind.wrap .u32 (rd a1 i55.2)), 0))).bind fun o67 => Bitwise.l1 K a1 k (o67, IntKind.wrap .i64 (i55.2 + 1))) else (some i55.1)
def Bitwise.f (K : Nat) (a0 : Int) (a1 : List Int) : Option (Int) := (Bitwise.l1 K a1 K (Sx.compl .u32 a0, 0)).bind fun o28 => some (Sx.compl .u32 o28)
theorem Bitwise.calls {B : Nat} {w0 : World} {G : List HP} (K : Nat) (a0 : Int) (a1 : List Int) (Aa1 : Option Addr) (ca1 : Nat) (ha1 : RdG B w0 G Aa1 (a1.map (Value.int .u8))) (ka1 : a1.length ≤ ca1) (r : Int) (H : Bitwise.f K a0 a1 = some r) (w : World) (hw : St B w0 (G) w) :
    Calls Try.prog 43 [.int .u32 a0, .slice Aa1 a1.length ca1].toArray w (fun e w' => e = .returned (.int .u32 r) ∧ St B w0 (G) w') := by
  unfold Bitwise.f at H
  refine calls_of (n := 33) (s := [(0, .int .u32 a0), (1, .slice Aa1 a1.length ca1)]) Try.func43 rfl rfl rfl rfl ?_ hw
  refine C.rs ?_
  refine J.p rfl rfl rfl rfl (Y.asg rfl) ?_
  refine J.nx ?_
  refine C.rs ?_
  refine J.p rfl rfl rfl rfl (Y.mv rfl) ?_
  refine J.p rfl rfl rfl rfl (Y.compl rfl) ?_
  refine J.p rfl rfl rfl rfl (Y.asg rfl) ?_
  refine J.nx ?_
  refine C.seq ?_
  refine C.rs ?_
  refine J.p rfl rfl rfl rfl (Y.mv rfl) ?_
  refine J.p rfl rfl rfl rfl (Y.lenS Try.underlying22 rfl) ?_
  refine J.p rfl rfl rfl rfl (Y.mv rfl) ?_
  refine J.nx ?_
  refine C.joinN H (fun (o28 : Int) (j29 : Unit) => [(5, .int .u32 o28)]) (fun (o28 : Int) (j29 : Unit) => G) (fun (o28 : Int) (j29 : Unit) => True) (fun o26 H HK27 => ?_) (fun o28 j29 H _ => ?_)
  · refine C.blk ?_
    refine C.loop (fun (i : Nat × (Int × Int) × (Unit)) => [(5, .int .u32 i.2.1.1), (10, .slice Aa1 a1.length ca1), (11, .int .i64 (a1.length : Int)), (12, .int .i64 i.2.1.2)]) (fun (i : Nat × (Int × Int) × (Unit)) => G) (fun (i : Nat × (Int × Int) × (Unit)) => Bitwise.l1 K a1 i.1 i.2.1 = some o26 ∧ (True)) (fun i => i.1) (K, (Sx.compl .u32 a0, 0), ()) ⟨H, trivial⟩ (by exact ⟨rfl, rfl, rfl, rfl, trivial⟩) (by exact fun w h => h) ?_
    rintro ⟨k81, i55, j56⟩ ⟨H, _⟩
    replace H : Bitwise.l1 K a1 k81 i55 = some o26 := H
    obtain ⟨k54, rfl⟩ : ∃ m, k81 = m + 1 := by cases k81 with | zero => exact absurd H (by simp [Bitwise.l1]) | succ m => exact ⟨m, rfl⟩
    rw [Bitwise.l1] at H
    refine C.at (s' := [(5, .int .u32 i55.1), (10, .slice Aa1 a1.length ca1), (11, .int .i64 (a1.length : Int)), (12, .int .i64 i55.2)]) (G' := G) rfl rfl ?_
    refine C.rs ?_
    refine J.p rfl rfl rfl rfl (Y.bin rfl rfl rfl) ?_
    refine J.nx ?_
    refine C.seq ?_
    refine split2 H (fun c57 H => ?_) (fun c57 H => ?_)
    · refine C.condT (congrArg (fun b => some (Value.bool b)) (decide_eq_true c57)) ?_
      refine C.skip ?_
      refine N.nx ?_
      refine C.joinB H (fun (o67 : Int) (j68 : Unit) => [(5, .int .u32 o67), (10, .slice Aa1 a1.length ca1), (11, .int .i64 (a1.length : Int)), (12, .int .i64 i55.2)]) (fun (o67 : Int) (j68 : Unit) => G) (fun (o67 : Int) (j68 : Unit) => True) (fun o65 H HK66 => ?_) (fun o67 j68 H _ => ?_)
      · refine C.blk ?_
        refine C.rs ?_
        obtain ⟨p69, H⟩ := gd_some H
        refine J.el rfl rfl rfl Try.underlying22 ti5 Try.underlying5 rfl rfl rfl p69 ha1 ?_
        refine J.p rfl rfl rfl rfl (Y.asg rfl) ?_
        refine J.nx ?_
        refine C.rs ?_
        refine J.p rfl rfl rfl rfl (Y.mv rfl) ?_
        refine J.p rfl rfl rfl rfl (Y.mv rfl) ?_
        refine J.p rfl rfl rfl rfl (Y.conv Try.underlying5 Try.underlying60 rfl) ?_
        refine J.p rfl rfl rfl rfl (Y.bin rfl rfl rfl) ?_
        refine J.p rfl rfl rfl rfl (Y.asg rfl) ?_
        refine J.nx ?_
        refine C.rs ?_
        refine J.p rfl rfl rfl rfl (Y.mv rfl) ?_
        refine J.nx ?_
        refine C.blk ?_
        refine C.loop (fun (i : Nat × (Int × Int) × (Unit)) => [(5, .int .u32 i.2.1.1), (10, .slice Aa1 a1.length ca1), (11, .int .i64 (a1.length : Int)), (12, .int .i64 i55.2), (20, .int .i64 i.2.1.2)]) (fun (i : Nat × (Int × Int) × (Unit)) => G) (fun (i : Nat × (Int × Int) × (Unit)) => Bitwise.l2 i.1 i.2.1 = some o65 ∧ (True)) (fun i => i.1) (K, (Sx.bits .xor .u32 i55.1 (IntKind.wrap .u32 (rd a1 i55.2)), 0), ()) ⟨H, trivial⟩ (by exact ⟨rfl, rfl, rfl, rfl, rfl, trivial⟩) (by exact fun w h => h) ?_
        rintro ⟨k80, i77, j78⟩ ⟨H, _⟩
        replace H : Bitwise.l2 k80 i77 = some o65 := H
        obtain ⟨k76, rfl⟩ : ∃ m, k80 = m + 1 := by cases k80 with | zero => exact absurd H (by simp [Bitwise.l2]) | succ m => exact ⟨m, rfl⟩
        rw [Bitwise.l2] at H
        refine C.at (s' := [(5, .int .u32 i77.1), (10, .slice Aa1 a1.length ca1), (11, .int .i64 (a1.length : Int)), (12, .int .i64 i55.2), (20, .int .i64 i77.2)]) (G' := G) rfl rfl ?_
        refine C.rs ?_
        refine J.p rfl rfl rfl rfl (Y.bin rfl rfl rfl) ?_
        refine J.nx ?_
        refine C.seq ?_
        refine split2 H (fun c79 H => ?_) (fun c79 H => ?_)
        · refine C.condT (congrArg (fun b => some (Value.bool b)) (decide_eq_true c79)) ?_
          refine C.skip ?_
          refine N.nx ?_
          refine C.seq ?_
          refine C.blk ?_
          refine C.reg ?_
          refine J.p rfl rfl rfl rfl (Y.mv rfl) ?_
          refine J.p rfl rfl rfl rfl (Y.shr rfl rfl (by decide)) ?_
          refine J.p rfl rfl rfl rfl (Y.mv rfl) ?_
          refine J.p rfl rfl rfl rfl (Y.bin rfl rfl rfl) ?_
          refine J.p rfl rfl rfl rfl (Y.neg rfl) ?_
          refine J.p rfl rfl rfl rfl (Y.bin rfl rfl rfl) ?_
          refine J.p rfl rfl rfl rfl (Y.bin rfl rfl rfl) ?_
          refine J.p rfl rfl rfl rfl (Y.asg rfl) ?_
          refine J.nil ?_
          refine N.ib ?_
          refine N.nx ?_
          refine C.reg ?_
          refine J.p rfl rfl rfl rfl (Y.bin rfl rfl rfl) ?_
          refine J.p rfl rfl rfl rfl (Y.mv rfl) ?_
          refine J.nil ?_
          exact N.again (k76, (Sx.bits .xor .u32 (Sx.shr .u32 i77.1 1) (Sx.bits .and .u32 2197175160 (IntKind.wrap .u32 (0 - (Sx.bits .and .u32 i77.1 1)))), IntKind.wrap .i64 (i77.2 + 1)), ()) ⟨H, trivial⟩ (Nat.lt_succ_self _) (by exact ⟨rfl, rfl, rfl, rfl, rfl, trivial⟩) (by exact fun w h => h)
        · refine C.condF (congrArg (fun b => some (Value.bool b)) (decide_eq_false c79)) ?_
          refine C.exit ?_
          refine X.th ?_
          refine X.th ?_
          refine X.hit ?_
          refine N.ib ?_
          obtain rfl := Option.some.inj H
          exact N.meet (i77.1, ()) ⟨HK66, trivial⟩ (by exact ⟨rfl, rfl, rfl, rfl, trivial⟩) (by exact fun w h => h)
      · refine C.at (s' := [(5, .int .u32 o67), (10, .slice Aa1 a1.length ca1), (11, .int .i64 (a1.length : Int)), (12, .int .i64 i55.2)]) (G' := G) rfl rfl ?_
        refine C.reg ?_
        refine J.p rfl rfl rfl rfl (Y.bin rfl rfl rfl) ?_
        refine J.p rfl rfl rfl rfl (Y.mv rfl) ?_
        refine J.nil ?_
        exact N.again (k54, (o67, IntKind.wrap .i64 (i55.2 + 1)), ()) ⟨H, trivial⟩ (Nat.lt_succ_self _) (by exact ⟨rfl, rfl, rfl, rfl, trivial⟩) (by exact fun w h => h)
    · refine C.condF (congrArg (fun b => some (Value.bool b)) (decide_eq_false c57)) ?_
      refine C.exit ?_
      refine X.th ?_
      refine X.th ?_
      refine X.hit ?_
      obtain rfl := Option.some.inj H
      exact N.meet (i55.1, ()) ⟨HK27, trivial⟩ (by exact ⟨rfl, trivial⟩) (by exact fun w h => h)
  · refine N.at (s' := [(5, .int .u32 o28)]) (G' := G) rfl rfl ?_
    refine N.nx ?_
    refine C.rs ?_
    refine J.p rfl rfl rfl rfl (Y.mv rfl) ?_
    refine J.p rfl rfl rfl rfl (Y.compl rfl) ?_
    refine J.p rfl rfl rfl rfl (Y.asg rfl) ?_
    refine J.nx ?_
    refine C.ret ?_
    obtain rfl := Option.some.inj H
    exact ret_ok (ks := [4]) rfl rfl (fun w h => ⟨rfl, h⟩)
/-! ### salvor/crc.Sum: function 36 -/
def Sum.l1 (K : Nat) (a0 : List (List Int)) : Nat → (Int × Int) → Option (Int)
  | 0, _ => none
  | k + 1, i62 => if i62.2 < (a0.length : Int) then (gd ((0 : Int) ≤ i62.2 ∧ i62.2 < (a0.length : Int)) ((Bitwise.f K i62.1 (rd a0 i62.2)).bind fun t73 => Sum.l1 K a0 k (t73, IntKind.wrap .i64 (i62.2 + 1)))) else (some i62.1)
def Sum.f (K : Nat) (a0 : List (List Int)) : Option (Int) := (Sum.l1 K a0 K (0, 0)).bind fun o31 => some o31
theorem Sum.calls {B : Nat} {w0 : World} {G : List HP} (K : Nat) (a0 : List (List Int)) (Aa0 : Option Addr) (ca0 : Nat) (va0 : List Value) (ha0 : RdG B w0 G Aa0 va0) (hva0 : VV B w0 G (Value.int .u8) va0 a0) (ka0 : a0.length ≤ ca0) (r : Int) (H : Sum.f K a0 = some r) (w : World) (hw : St B w0 (G) w) :
    Calls Try.prog 36 [.slice Aa0 a0.length ca0].toArray w (fun e w' => e = .returned (.int .u32 r) ∧ St B w0 (G) w') := by
  unfold Sum.f at H
  refine calls_of (n := 17) (s := [(0, .slice Aa0 a0.length ca0)]) Try.func36 rfl rfl rfl rfl ?_ hw
  refine C.rs ?_
  refine J.p rfl rfl rfl rfl (Y.asg rfl) ?_
  refine J.nx ?_
  refine C.rs ?_
  refine J.p rfl rfl rfl rfl (Y.asg rfl) ?_
  refine J.nx ?_
  refine C.seq ?_
  refine C.rs ?_
  refine J.p rfl rfl rfl rfl (Y.mv rfl) ?_
  refine J.p rfl rfl rfl rfl (Y.lenS Try.underlying45 rfl) ?_
  refine J.p rfl rfl rfl rfl (Y.mv rfl) ?_
  refine J.nx ?_
  refine C.joinN H (fun (o31 : Int) (j32 : Unit) => [(3, .int .u32 o31)]) (fun (o31 : Int) (j32 : Unit) => G) (fun (o31 : Int) (j32 : Unit) => True) (fun o29 H HK30 => ?_) (fun o31 j32 H _ => ?_)
  · refine C.blk ?_
    refine C.loop (fun (i : Nat × (Int × Int) × (Unit)) => [(3, .int .u32 i.2.1.1), (6, .slice Aa0 a0.length ca0), (7, .int .i64 (a0.length : Int)), (8, .int .i64 i.2.1.2)]) (fun (i : Nat × (Int × Int) × (Unit)) => G) (fun (i : Nat × (Int × Int) × (Unit)) => Sum.l1 K a0 i.1 i.2.1 = some o29 ∧ (True)) (fun i => i.1) (K, (0, 0), ()) ⟨H, trivial⟩ (by exact ⟨rfl, rfl, rfl, rfl, trivial⟩) (by exact fun w h => h) ?_
    rintro ⟨k76, i62, j63⟩ ⟨H, _⟩
    replace H : Sum.l1 K a0 k76 i62 = some o29 := H
    obtain ⟨k61, rfl⟩ : ∃ m, k76 = m + 1 := by cases k76 with | zero => exact absurd H (by simp [Sum.l1]) | succ m => exact ⟨m, rfl⟩
    rw [Sum.l1] at H
    refine C.at (s' := [(3, .int .u32 i62.1), (6, .slice Aa0 a0.length ca0), (7, .int .i64 (a0.length : Int)), (8, .int .i64 i62.2)]) (G' := G) rfl rfl ?_
    refine C.rs ?_
    refine J.p rfl rfl rfl rfl (Y.bin rfl rfl rfl) ?_
    refine J.nx ?_
    refine C.seq ?_
    refine split2 H (fun c64 H => ?_) (fun c64 H => ?_)
    · refine C.condT (congrArg (fun b => some (Value.bool b)) (decide_eq_true c64)) ?_
      refine C.skip ?_
      refine N.nx ?_
      refine C.seq ?_
      refine C.blk ?_
      refine C.rs ?_
      obtain ⟨p67, H⟩ := gd_some H
      refine J.know (VV.some_ (ha0.suf [] rfl) (hva0.suf [] rfl) (idx_lt p67)) (fun hh => ?_)
      obtain ⟨a65, ha66⟩ := hh
      refine J.p rfl rfl rfl rfl (Y.ixa Try.underlying45 ti22 rfl rfl p67 ha66) ?_
      obtain ⟨A68, c69, hv70, hr71, hc72⟩ := VV.get hva0 p67
      refine J.r rfl rfl rfl rfl (Y.ld Try.underlying22 rfl rfl ha0 ha66 hv70) ?_
      refine J.p rfl rfl rfl rfl (Y.asg rfl) ?_
      refine J.nx ?_
      refine C.reg ?_
      refine J.p rfl rfl rfl rfl (Y.mv rfl) ?_
      refine J.p rfl rfl rfl rfl (Y.mv rfl) ?_
      obtain ⟨t73, hC74, H⟩ := bind_some H
      refine J.call (us := []) (cap := []) rfl rfl rfl go43 (fun w hw => by have hcc := Bitwise.calls K i62.1 (rd a0 i62.2) A68 c69 hr71 hc72 t73 hC74 w hw; exact hcc) (fun e w1 h1 => ?_)
      obtain ⟨rfl, hw75⟩ := h1
      refine ⟨_, _, rfl, hw75, ?_⟩
      refine J.p rfl rfl rfl rfl (Y.asg rfl) ?_
      refine J.nil ?_
      refine N.ib ?_
      refine N.nx ?_
      refine C.reg ?_
      refine J.p rfl rfl rfl rfl (Y.bin rfl rfl rfl) ?_
      refine J.p rfl rfl rfl rfl (Y.mv rfl) ?_
      refine J.nil ?_
      exact N.again (k61, (t73, IntKind.wrap .i64 (i62.2 + 1)), ()) ⟨H, trivial⟩ (Nat.lt_succ_self _) (by exact ⟨rfl, rfl, rfl, rfl, trivial⟩) (by exact fun w h => h)
    · refine C.condF (congrArg (fun b => some (Value.bool b)) (decide_eq_false c64)) ?_
      refine C.exit ?_
      refine X.th ?_
      refine X.th ?_
      refine X.hit ?_
      obtain rfl := Option.some.inj H
      exact N.meet (i62.1, ()) ⟨HK30, trivial⟩ (by exact ⟨rfl, trivial⟩) (by exact fun w h => h)
  · refine N.at (s' := [(3, .int .u32 o31)]) (G' := G) rfl rfl ?_
    refine N.nx ?_
    refine C.rs ?_
    refine J.p rfl rfl rfl rfl (Y.mv rfl) ?_
    refine J.p rfl rfl rfl rfl (Y.asg rfl) ?_
    refine J.nx ?_
    refine C.ret ?_
    obtain rfl := Option.some.inj H
    exact ret_ok (ks := [2]) rfl rfl (fun w h => ⟨rfl, h⟩)
/-! ### salvor/salvortop.joined: function 37 -/
def joined.f (a0 : List Int) (a1 : List Int) : Option ((List Int)) := gd ((([] : List Int).length + a0.length) * 1 ≤ 140737488355328) (gd (((([] : List Int) ++ a0).length + a1.length) * 1 ≤ 140737488355328) (some ((([] : List Int) ++ a0) ++ a1)))
theorem joined.calls {B : Nat} {w0 : World} {G : List HP} (a0 : List Int) (a1 : List Int) (Aa0 : Option Addr) (ca0 : Nat) (Aa1 : Option Addr) (ca1 : Nat) (ha0 : RdG B w0 G Aa0 (a0.map (Value.int .u8))) (ka0 : a0.length ≤ ca0) (ha1 : RdG B w0 G Aa1 (a1.map (Value.int .u8))) (ka1 : a1.length ≤ ca1) (r : (List Int)) (H : joined.f a0 a1 = some r) (w : World) (hw : St B w0 (G) w) :
    Calls Try.prog 37 [.slice Aa0 a0.length ca0, .slice Aa1 a1.length ca1].toArray w (fun e w' => ∃ A0 c0, e = .returned (.slice A0 r.length c0) ∧ St B w0 (own 5 1 A0 c0 (r.map (Value.int .u8)) :: G) w') := by
  unfold joined.f at H
  refine calls_of (n := 12) (s := [(0, .slice Aa0 a0.length ca0), (1, .slice Aa1 a1.length ca1)]) Try.func37 rfl rfl rfl rfl ?_ hw
  refine C.rs ?_
  refine J.p rfl rfl rfl rfl (Y.asg rfl) ?_
  refine J.nx ?_
  refine C.rs ?_
  refine J.p rfl rfl rfl rfl (Y.asg rfl) ?_
  refine J.nx ?_
  refine C.rs ?_
  refine J.p rfl rfl rfl rfl (Y.mv rfl) ?_
  refine J.p rfl rfl rfl rfl (Y.mv rfl) ?_
  refine J.nilOwn 5 1 ?_
  obtain ⟨p4, H⟩ := gd_some H
  refine J.appL (enc := (Value.int .u8)) (xs := ([] : List Int)) (ys := a0) rfl Try.underlying22 ti5 rfl (by decide) rfl rfl (fun _ => rfl) (ha0.suf [_] rfl) p4 (fun A2 c3 => ?_)
  refine J.p rfl rfl rfl rfl (Y.asg rfl) ?_
  refine J.nx ?_
  refine C.rs ?_
  refine J.p rfl rfl rfl rfl (Y.mv rfl) ?_
  refine J.p rfl rfl rfl rfl (Y.mv rfl) ?_
  obtain ⟨p8, H⟩ := gd_some H
  refine J.appL (enc := (Value.int .u8)) (xs := (([] : List Int) ++ a0)) (ys := a1) rfl Try.underlying22 ti5 rfl (by decide) rfl rfl (fun _ => rfl) (ha1.suf [_] rfl) p8 (fun A6 c7 => ?_)
  refine J.p rfl rfl rfl rfl (Y.asg rfl) ?_
  refine J.nx ?_
  refine C.ret ?_
  obtain rfl := Option.some.inj H
  exact ret_ok (ks := [4]) rfl rfl (fun w h => ⟨A6, c7, rfl, h⟩)
end Go.Proofs.Ytocfkhpfpepcmaa
