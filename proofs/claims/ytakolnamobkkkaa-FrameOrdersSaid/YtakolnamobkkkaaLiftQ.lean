/- Own text, printed by the lifting program: each Go function beside a plain function, and the proof that a call of the one comes to the other. Conditions: what came in can be read. -/
import Derived.Test.YtakolnamobkkkaaLiftC
import Derived.Test.YtakolnamobkkkaaSxCmp
set_option linter.unusedVariables false
set_option linter.unusedSimpArgs false
set_option maxRecDepth 10000
set_option maxHeartbeats 4000000
namespace Go.Proofs.Ytakolnamobkkkaa
open Go Go.Sx
theorem ti64 : TI Try.prog 64 4 32 (.agg #[.int .i64 0, .int .i64 0, .int .i64 0, .int .i64 0]) := TI.of (by kernel_rfl)
theorem ex78 : ExF Try.prog 78 Extern.BytealgCompare.compare := ExF.of Try.func78 (by kernel_rfl) (by kernel_rfl) (by kernel_rfl) (by kernel_rfl)
theorem go21 : GoF Try.prog 21 := GoF.of Try.func21 (by kernel_rfl) (by kernel_rfl)
theorem go29 : GoF Try.prog 29 := GoF.of Try.func29 (by kernel_rfl) (by kernel_rfl)
theorem go30 : GoF Try.prog 30 := GoF.of Try.func30 (by kernel_rfl) (by kernel_rfl)
theorem go31 : GoF Try.prog 31 := GoF.of Try.func31 (by kernel_rfl) (by kernel_rfl)
theorem go52 : GoF Try.prog 52 := GoF.of Try.func52 (by kernel_rfl) (by kernel_rfl)
theorem go53 : GoF Try.prog 53 := GoF.of Try.func53 (by kernel_rfl) (by kernel_rfl)
theorem go54 : GoF Try.prog 54 := GoF.of Try.func54 (by kernel_rfl) (by kernel_rfl)
theorem go55 : GoF Try.prog 55 := GoF.of Try.func55 (by kernel_rfl) (by kernel_rfl)
theorem go56 : GoF Try.prog 56 := GoF.of Try.func56 (by kernel_rfl) (by kernel_rfl)
theorem go76 : GoF Try.prog 76 := GoF.of Try.func76 (by kernel_rfl) (by kernel_rfl)
theorem go77 : GoF Try.prog 77 := GoF.of Try.func77 (by kernel_rfl) (by kernel_rfl)
/-! ### salvor/frame.rank: function 53 -/
def rank.f (a0 : Int) : Option (Int) := if a0 = 0 then (some 1) else (some 0)
theorem rank.calls {B : Nat} {w0 : World} {G : List HP} (a0 : Int) (r : Int) (H : rank.f a0 = some r) (w : World) (hw : St B w0 (G) w) :
    Calls Try.prog 53 [.int .i64 a0].toArray w (fun e w' => e = .returned (.int .i64 r) ∧ St B w0 (G) w') := by
  unfold rank.f at H
  refine calls_of (n := 5) (s := [(0, .int .i64 a0)]) Try.func53 rfl rfl rfl rfl ?_ hw
  refine C.rs ?_
  refine J.p rfl rfl rfl rfl (Y.asg rfl) ?_
  refine J.nx ?_
  refine C.seq ?_
  refine C.rs ?_
  refine J.p rfl rfl rfl rfl (Y.mv rfl) ?_
  refine J.p rfl rfl rfl rfl (Y.bin rfl rfl rfl) ?_
  refine J.nx ?_
  refine split2 H (fun c1 H => ?_) (fun c1 H => ?_)
  · refine C.condT (congrArg (fun b => some (Value.bool b)) (decide_eq_true c1)) ?_
    refine C.rs ?_
    refine J.p rfl rfl rfl rfl (Y.asg rfl) ?_
    refine J.nx ?_
    refine C.ret ?_
    obtain rfl := Option.some.inj H
    refine T.th ?_
    exact ret_ok (ks := [2]) rfl rfl (fun w h => ⟨rfl, h⟩)
  · refine C.condF (congrArg (fun b => some (Value.bool b)) (decide_eq_false c1)) ?_
    refine C.skip ?_
    refine N.nx ?_
    refine C.rs ?_
    refine J.p rfl rfl rfl rfl (Y.asg rfl) ?_
    refine J.nx ?_
    refine C.ret ?_
    obtain rfl := Option.some.inj H
    exact ret_ok (ks := [2]) rfl rfl (fun w h => ⟨rfl, h⟩)
/-! ### cmp.isNaN[int]: function 76 -/
def isNaNi.f (a0 : Int) : Option (Bool) := some (decide (a0 ≠ a0))
theorem isNaNi.calls {B : Nat} {w0 : World} {G : List HP} (a0 : Int) (r : Bool) (H : isNaNi.f a0 = some r) (w : World) (hw : St B w0 (G) w) :
    Calls Try.prog 76 [.int .i64 a0].toArray w (fun e w' => e = .returned (.bool r) ∧ St B w0 (G) w') := by
  unfold isNaNi.f at H
  refine calls_of (n := 6) (s := [(0, .int .i64 a0)]) Try.func76 rfl rfl rfl rfl ?_ hw
  refine C.rs ?_
  refine J.p rfl rfl rfl rfl (Y.asg rfl) ?_
  refine J.nx ?_
  refine C.rs ?_
  refine J.p rfl rfl rfl rfl (Y.mv rfl) ?_
  refine J.p rfl rfl rfl rfl (Y.mv rfl) ?_
  refine J.p rfl rfl rfl rfl (Y.bin rfl rfl rfl) ?_
  refine J.p rfl rfl rfl rfl (Y.asg rfl) ?_
  refine J.nx ?_
  refine C.ret ?_
  obtain rfl := Option.some.inj H
  exact ret_ok (ks := [2]) rfl rfl (fun w h => ⟨rfl, h⟩)
/-! ### cmp.isNaN[uint64]: function 77 -/
def isNaNu.f (a0 : Int) : Option (Bool) := some (decide (a0 ≠ a0))
theorem isNaNu.calls {B : Nat} {w0 : World} {G : List HP} (a0 : Int) (r : Bool) (H : isNaNu.f a0 = some r) (w : World) (hw : St B w0 (G) w) :
    Calls Try.prog 77 [.int .u64 a0].toArray w (fun e w' => e = .returned (.bool r) ∧ St B w0 (G) w') := by
  unfold isNaNu.f at H
  refine calls_of (n := 6) (s := [(0, .int .u64 a0)]) Try.func77 rfl rfl rfl rfl ?_ hw
  refine C.rs ?_
  refine J.p rfl rfl rfl rfl (Y.asg rfl) ?_
  refine J.nx ?_
  refine C.rs ?_
  refine J.p rfl rfl rfl rfl (Y.mv rfl) ?_
  refine J.p rfl rfl rfl rfl (Y.mv rfl) ?_
  refine J.p rfl rfl rfl rfl (Y.bin rfl rfl rfl) ?_
  refine J.p rfl rfl rfl rfl (Y.asg rfl) ?_
  refine J.nx ?_
  refine C.ret ?_
  obtain rfl := Option.some.inj H
  exact ret_ok (ks := [2]) rfl rfl (fun w h => ⟨rfl, h⟩)
/-! ### cmp.Compare[int]: function 52 -/
def cmpInt.f (a0 : Int) (a1 : Int) : Option (Int) := (isNaNi.f a0).bind fun t1 => (isNaNi.f a1).bind fun t3 => if t1 = true then (if t3 = true then (some 0) else (some (-1))) else (if t3 = true then (some 1) else (if a0 < a1 then (some (-1)) else (if a1 < a0 then (some 1) else (some 0))))
theorem cmpInt.calls {B : Nat} {w0 : World} {G : List HP} (a0 : Int) (a1 : Int) (r : Int) (H : cmpInt.f a0 a1 = some r) (w : World) (hw : St B w0 (G) w) :
    Calls Try.prog 52 [.int .i64 a0, .int .i64 a1].toArray w (fun e w' => e = .returned (.int .i64 r) ∧ St B w0 (G) w') := by
  unfold cmpInt.f at H
  refine calls_of (n := 20) (s := [(0, .int .i64 a0), (1, .int .i64 a1)]) Try.func52 rfl rfl rfl rfl ?_ hw
  refine C.rs ?_
  refine J.p rfl rfl rfl rfl (Y.asg rfl) ?_
  refine J.nx ?_
  refine C.rs ?_
  refine J.p rfl rfl rfl rfl (Y.mv rfl) ?_
  obtain ⟨t1, hC2, H⟩ := bind_some H
  refine J.call (us := []) (cap := []) rfl rfl rfl go76 (fun w hw => by have hcc := isNaNi.calls a0 t1 hC2 w hw; exact hcc) (fun e w1 h1 => ?_)
  obtain ⟨rfl, hw11⟩ := h1
  refine ⟨_, _, rfl, hw11, ?_⟩
  refine J.p rfl rfl rfl rfl (Y.asg rfl) ?_
  refine J.nx ?_
  refine C.rs ?_
  refine J.p rfl rfl rfl rfl (Y.mv rfl) ?_
  obtain ⟨t3, hC4, H⟩ := bind_some H
  refine J.call (us := []) (cap := []) rfl rfl rfl go76 (fun w hw => by have hcc := isNaNi.calls a1 t3 hC4 w hw; exact hcc) (fun e w1 h1 => ?_)
  obtain ⟨rfl, hw10⟩ := h1
  refine ⟨_, _, rfl, hw10, ?_⟩
  refine J.p rfl rfl rfl rfl (Y.asg rfl) ?_
  refine J.nx ?_
  refine C.seq ?_
  refine C.rs ?_
  refine J.p rfl rfl rfl rfl (Y.mv rfl) ?_
  refine J.nx ?_
  refine split2 H (fun c5 H => ?_) (fun c5 H => ?_)
  · refine C.condT (congrArg (fun b => some (Value.bool b)) (c5)) ?_
    refine C.seq ?_
    refine C.rs ?_
    refine J.p rfl rfl rfl rfl (Y.mv rfl) ?_
    refine J.nx ?_
    refine split2 H (fun c6 H => ?_) (fun c6 H => ?_)
    · refine C.condT (congrArg (fun b => some (Value.bool b)) (c6)) ?_
      refine C.rs ?_
      refine J.p rfl rfl rfl rfl (Y.asg rfl) ?_
      refine J.nx ?_
      refine C.ret ?_
      obtain rfl := Option.some.inj H
      refine T.th ?_
      refine T.th ?_
      exact ret_ok (ks := [4]) rfl rfl (fun w h => ⟨rfl, h⟩)
    · refine C.condF (congrArg (fun b => some (Value.bool b)) (nt c6)) ?_
      refine C.skip ?_
      refine N.nx ?_
      refine C.rs ?_
      refine J.p rfl rfl rfl rfl (Y.asg rfl) ?_
      refine J.nx ?_
      refine C.ret ?_
      obtain rfl := Option.some.inj H
      refine T.th ?_
      exact ret_ok (ks := [4]) rfl rfl (fun w h => ⟨rfl, h⟩)
  · refine C.condF (congrArg (fun b => some (Value.bool b)) (nt c5)) ?_
    refine C.skip ?_
    refine N.nx ?_
    refine C.seq ?_
    refine C.rs ?_
    refine J.p rfl rfl rfl rfl (Y.mv rfl) ?_
    refine J.nx ?_
    refine split2 H (fun c7 H => ?_) (fun c7 H => ?_)
    · refine C.condT (congrArg (fun b => some (Value.bool b)) (c7)) ?_
      refine C.rs ?_
      refine J.p rfl rfl rfl rfl (Y.asg rfl) ?_
      refine J.nx ?_
      refine C.ret ?_
      obtain rfl := Option.some.inj H
      refine T.th ?_
      exact ret_ok (ks := [4]) rfl rfl (fun w h => ⟨rfl, h⟩)
    · refine C.condF (congrArg (fun b => some (Value.bool b)) (nt c7)) ?_
      refine C.skip ?_
      refine N.nx ?_
      refine C.seq ?_
      refine C.rs ?_
      refine J.p rfl rfl rfl rfl (Y.mv rfl) ?_
      refine J.p rfl rfl rfl rfl (Y.mv rfl) ?_
      refine J.p rfl rfl rfl rfl (Y.bin rfl rfl rfl) ?_
      refine J.nx ?_
      refine split2 H (fun c8 H => ?_) (fun c8 H => ?_)
      · refine C.condT (congrArg (fun b => some (Value.bool b)) (decide_eq_true c8)) ?_
        refine C.rs ?_
        refine J.p rfl rfl rfl rfl (Y.asg rfl) ?_
        refine J.nx ?_
        refine C.ret ?_
        obtain rfl := Option.some.inj H
        refine T.th ?_
        exact ret_ok (ks := [4]) rfl rfl (fun w h => ⟨rfl, h⟩)
      · refine C.condF (congrArg (fun b => some (Value.bool b)) (decide_eq_false c8)) ?_
        refine C.skip ?_
        refine N.nx ?_
        refine C.seq ?_
        refine C.rs ?_
        refine J.p rfl rfl rfl rfl (Y.mv rfl) ?_
        refine J.p rfl rfl rfl rfl (Y.mv rfl) ?_
        refine J.p rfl rfl rfl rfl (Y.bin rfl rfl rfl) ?_
        refine J.nx ?_
        refine split2 H (fun c9 H => ?_) (fun c9 H => ?_)
        · refine C.condT (congrArg (fun b => some (Value.bool b)) (decide_eq_true c9)) ?_
          refine C.rs ?_
          refine J.p rfl rfl rfl rfl (Y.asg rfl) ?_
          refine J.nx ?_
          refine C.ret ?_
          obtain rfl := Option.some.inj H
          refine T.th ?_
          exact ret_ok (ks := [4]) rfl rfl (fun w h => ⟨rfl, h⟩)
        · refine C.condF (congrArg (fun b => some (Value.bool b)) (decide_eq_false c9)) ?_
          refine C.skip ?_
          refine N.nx ?_
          refine C.rs ?_
          refine J.p rfl rfl rfl rfl (Y.asg rfl) ?_
          refine J.nx ?_
          refine C.ret ?_
          obtain rfl := Option.some.inj H
          exact ret_ok (ks := [4]) rfl rfl (fun w h => ⟨rfl, h⟩)
/-! ### cmp.Compare[uint64]: function 55 -/
def cmpU64.f (a0 : Int) (a1 : Int) : Option (Int) := (isNaNu.f a0).bind fun t1 => (isNaNu.f a1).bind fun t3 => if t1 = true then (if t3 = true then (some 0) else (some (-1))) else (if t3 = true then (some 1) else (if a0 < a1 then (some (-1)) else (if a1 < a0 then (some 1) else (some 0))))
theorem cmpU64.calls {B : Nat} {w0 : World} {G : List HP} (a0 : Int) (a1 : Int) (r : Int) (H : cmpU64.f a0 a1 = some r) (w : World) (hw : St B w0 (G) w) :
    Calls Try.prog 55 [.int .u64 a0, .int .u64 a1].toArray w (fun e w' => e = .returned (.int .i64 r) ∧ St B w0 (G) w') := by
  unfold cmpU64.f at H
  refine calls_of (n := 20) (s := [(0, .int .u64 a0), (1, .int .u64 a1)]) Try.func55 rfl rfl rfl rfl ?_ hw
  refine C.rs ?_
  refine J.p rfl rfl rfl rfl (Y.asg rfl) ?_
  refine J.nx ?_
  refine C.rs ?_
  refine J.p rfl rfl rfl rfl (Y.mv rfl) ?_
  obtain ⟨t1, hC2, H⟩ := bind_some H
  refine J.call (us := []) (cap := []) rfl rfl rfl go77 (fun w hw => by have hcc := isNaNu.calls a0 t1 hC2 w hw; exact hcc) (fun e w1 h1 => ?_)
  obtain ⟨rfl, hw11⟩ := h1
  refine ⟨_, _, rfl, hw11, ?_⟩
  refine J.p rfl rfl rfl rfl (Y.asg rfl) ?_
  refine J.nx ?_
  refine C.rs ?_
  refine J.p rfl rfl rfl rfl (Y.mv rfl) ?_
  obtain ⟨t3, hC4, H⟩ := bind_some H
  refine J.call (us := []) (cap := []) rfl rfl rfl go77 (fun w hw => by have hcc := isNaNu.calls a1 t3 hC4 w hw; exact hcc) (fun e w1 h1 => ?_)
  obtain ⟨rfl, hw10⟩ := h1
  refine ⟨_, _, rfl, hw10, ?_⟩
  refine J.p rfl rfl rfl rfl (Y.asg rfl) ?_
  refine J.nx ?_
  refine C.seq ?_
  refine C.rs ?_
  refine J.p rfl rfl rfl rfl (Y.mv rfl) ?_
  refine J.nx ?_
  refine split2 H (fun c5 H => ?_) (fun c5 H => ?_)
  · refine C.condT (congrArg (fun b => some (Value.bool b)) (c5)) ?_
    refine C.seq ?_
    refine C.rs ?_
    refine J.p rfl rfl rfl rfl (Y.mv rfl) ?_
    refine J.nx ?_
    refine split2 H (fun c6 H => ?_) (fun c6 H => ?_)
    · refine C.condT (congrArg (fun b => some (Value.bool b)) (c6)) ?_
      refine C.rs ?_
      refine J.p rfl rfl rfl rfl (Y.asg rfl) ?_
      refine J.nx ?_
      refine C.ret ?_
      obtain rfl := Option.some.inj H
      refine T.th ?_
      refine T.th ?_
      exact ret_ok (ks := [4]) rfl rfl (fun w h => ⟨rfl, h⟩)
    · refine C.condF (congrArg (fun b => some (Value.bool b)) (nt c6)) ?_
      refine C.skip ?_
      refine N.nx ?_
      refine C.rs ?_
      refine J.p rfl rfl rfl rfl (Y.asg rfl) ?_
      refine J.nx ?_
      refine C.ret ?_
      obtain rfl := Option.some.inj H
      refine T.th ?_
      exact ret_ok (ks := [4]) rfl rfl (fun w h => ⟨rfl, h⟩)
  · refine C.condF (congrArg (fun b => some (Value.bool b)) (nt c5)) ?_
    refine C.skip ?_
    refine N.nx ?_
    refine C.seq ?_
    refine C.rs ?_
    refine J.p rfl rfl rfl rfl (Y.mv rfl) ?_
    refine J.nx ?_
    refine split2 H (fun c7 H => ?_) (fun c7 H => ?_)
    · refine C.condT (congrArg (fun b => some (Value.bool b)) (c7)) ?_
      refine C.rs ?_
      refine J.p rfl rfl rfl rfl (Y.asg rfl) ?_
      refine J.nx ?_
      refine C.ret ?_
      obtain rfl := Option.some.inj H
      refine T.th ?_
      exact ret_ok (ks := [4]) rfl rfl (fun w h => ⟨rfl, h⟩)
    · refine C.condF (congrArg (fun b => some (Value.bool b)) (nt c7)) ?_
      refine C.skip ?_
      refine N.nx ?_
      refine C.seq ?_
      refine C.rs ?_
      refine J.p rfl rfl rfl rfl (Y.mv rfl) ?_
      refine J.p rfl rfl rfl rfl (Y.mv rfl) ?_
      refine J.p rfl rfl rfl rfl (Y.bin rfl rfl rfl) ?_
      refine J.nx ?_
      refine split2 H (fun c8 H => ?_) (fun c8 H => ?_)
      · refine C.condT (congrArg (fun b => some (Value.bool b)) (decide_eq_true c8)) ?_
        refine C.rs ?_
        refine J.p rfl rfl rfl rfl (Y.asg rfl) ?_
        refine J.nx ?_
        refine C.ret ?_
        obtain rfl := Option.some.inj H
        refine T.th ?_
        exact ret_ok (ks := [4]) rfl rfl (fun w h => ⟨rfl, h⟩)
      · refine C.condF (congrArg (fun b => some (Value.bool b)) (decide_eq_false c8)) ?_
        refine C.skip ?_
        refine N.nx ?_
        refine C.seq ?_
        refine C.rs ?_
        refine J.p rfl rfl rfl rfl (Y.mv rfl) ?_
        refine J.p rfl rfl rfl rfl (Y.mv rfl) ?_
        refine J.p rfl rfl rfl rfl (Y.bin rfl rfl rfl) ?_
        refine J.nx ?_
        refine split2 H (fun c9 H => ?_) (fun c9 H => ?_)
        · refine C.condT (congrArg (fun b => some (Value.bool b)) (decide_eq_true c9)) ?_
          refine C.rs ?_
          refine J.p rfl rfl rfl rfl (Y.asg rfl) ?_
          refine J.nx ?_
          refine C.ret ?_
          obtain rfl := Option.some.inj H
          refine T.th ?_
          exact ret_ok (ks := [4]) rfl rfl (fun w h => ⟨rfl, h⟩)
        · refine C.condF (congrArg (fun b => some (Value.bool b)) (decide_eq_false c9)) ?_
          refine C.skip ?_
          refine N.nx ?_
          refine C.rs ?_
          refine J.p rfl rfl rfl rfl (Y.asg rfl) ?_
          refine J.nx ?_
          refine C.ret ?_
          obtain rfl := Option.some.inj H
          exact ret_ok (ks := [4]) rfl rfl (fun w h => ⟨rfl, h⟩)
/-! ### cmp.Or[int]: function 54 -/
def cmpOr.l1 (a0 : List Int) : Nat → (Int) → Option ((Int) ⊕ (Unit))
  | 0, _ => none
  | k + 1, i26 => if i26 < (a0.length : Int) then (gd ((0 : Int) ≤ i26 ∧ i26 < (a0.length : Int)) (if (rd a0 i26) ≠ 0 then (some (.inl (rd a0 i26))) else (cmpOr.l1 a0 k (IntKind.wrap .i64 (i26 + 1))))) else (some (.inr ()))
def cmpOr.f (K : Nat) (a0 : List Int) : Option (Int) := thn (cmpOr.l1 a0 K 0) fun o13 => some 0
theorem cmpOr.calls {B : Nat} {w0 : World} {G : List HP} (K : Nat) (a0 : List Int) (Aa0 : Option Addr) (ca0 : Nat) (ha0 : RdG B w0 G Aa0 (a0.map (Value.int .i64))) (ka0 : a0.length ≤ ca0) (r : Int) (H : cmpOr.f K a0 = some r) (w : World) (hw : St B w0 (G) w) :
    Calls Try.prog 54 [.slice Aa0 a0.length ca0].toArray w (fun e w' => e = .returned (.int .i64 r) ∧ St B w0 (G) w') := by
  unfold cmpOr.f at H
  refine calls_of (n := 18) (s := [(0, .slice Aa0 a0.length ca0)]) Try.func54 rfl rfl rfl rfl ?_ hw
  refine C.rs ?_
  refine J.p rfl rfl rfl rfl (Y.asg rfl) ?_
  refine J.nx ?_
  refine C.rs ?_
  refine J.p rfl rfl rfl rfl (Y.asg rfl) ?_
  refine J.nx ?_
  refine C.seq ?_
  refine C.rs ?_
  refine J.p rfl rfl rfl rfl (Y.mv rfl) ?_
  refine J.p rfl rfl rfl rfl (Y.lenS Try.underlying116 rfl) ?_
  refine J.p rfl rfl rfl rfl (Y.mv rfl) ?_
  refine J.nx ?_
  refine C.joinNR H (fun (o13 : Unit) (j14 : Unit) => [(3, .int .i64 0)]) (fun (o13 : Unit) (j14 : Unit) => G) (fun (o13 : Unit) (j14 : Unit) => True) (fun o11 H HK12 => ?_) (fun o13 j14 H _ => ?_)
  · refine C.blk ?_
    refine C.loop (fun (i : Nat × (Int) × (Unit)) => [(3, .int .i64 0), (6, .slice Aa0 a0.length ca0), (7, .int .i64 (a0.length : Int)), (8, .int .i64 i.2.1)]) (fun (i : Nat × (Int) × (Unit)) => G) (fun (i : Nat × (Int) × (Unit)) => cmpOr.l1 a0 i.1 i.2.1 = some o11 ∧ (True)) (fun i => i.1) (K, 0, ()) ⟨H, trivial⟩ (by exact ⟨rfl, rfl, rfl, rfl, trivial⟩) (by exact fun w h => h) ?_
    rintro ⟨k31, i26, j27⟩ ⟨H, _⟩
    replace H : cmpOr.l1 a0 k31 i26 = some o11 := H
    obtain ⟨k25, rfl⟩ : ∃ m, k31 = m + 1 := by cases k31 with | zero => exact absurd H (by simp [cmpOr.l1]) | succ m => exact ⟨m, rfl⟩
    rw [cmpOr.l1] at H
    refine C.at (s' := [(3, .int .i64 0), (6, .slice Aa0 a0.length ca0), (7, .int .i64 (a0.length : Int)), (8, .int .i64 i26)]) (G' := G) rfl rfl ?_
    refine C.rs ?_
    refine J.p rfl rfl rfl rfl (Y.bin rfl rfl rfl) ?_
    refine J.nx ?_
    refine C.seq ?_
    refine split2 H (fun c28 H => ?_) (fun c28 H => ?_)
    · refine C.condT (congrArg (fun b => some (Value.bool b)) (decide_eq_true c28)) ?_
      refine C.skip ?_
      refine N.nx ?_
      refine C.seq ?_
      refine C.blk ?_
      refine C.rs ?_
      obtain ⟨p29, H⟩ := gd_some H
      refine J.el rfl rfl rfl Try.underlying116 ti3 Try.underlying3 rfl rfl rfl p29 ha0 ?_
      refine J.p rfl rfl rfl rfl (Y.asg rfl) ?_
      refine J.nx ?_
      refine C.rs ?_
      refine J.p rfl rfl rfl rfl (Y.mv rfl) ?_
      refine J.p rfl rfl rfl rfl (Y.mv rfl) ?_
      refine J.p rfl rfl rfl rfl (Y.bin rfl rfl rfl) ?_
      refine J.nx ?_
      refine split2 H (fun c30 H => ?_) (fun c30 H => ?_)
      · refine C.condT (congrArg (fun b => some (Value.bool b)) (decide_eq_true c30)) ?_
        refine C.rs ?_
        refine J.p rfl rfl rfl rfl (Y.mv rfl) ?_
        refine J.p rfl rfl rfl rfl (Y.asg rfl) ?_
        refine J.nx ?_
        refine C.ret ?_
        obtain rfl := Option.some.inj H
        obtain rfl := fin_inl HK12
        refine T.ib ?_
        refine T.th ?_
        refine T.th ?_
        refine T.ib ?_
        refine T.th ?_
        refine T.th ?_
        exact ret_ok (ks := [2]) rfl rfl (fun w h => ⟨rfl, h⟩)
      · refine C.condF (congrArg (fun b => some (Value.bool b)) (decide_eq_false c30)) ?_
        refine C.skip ?_
        refine N.ib ?_
        refine N.nx ?_
        refine C.reg ?_
        refine J.p rfl rfl rfl rfl (Y.bin rfl rfl rfl) ?_
        refine J.p rfl rfl rfl rfl (Y.mv rfl) ?_
        refine J.nil ?_
        exact N.again (k25, IntKind.wrap .i64 (i26 + 1), ()) ⟨H, trivial⟩ (Nat.lt_succ_self _) (by exact ⟨rfl, rfl, rfl, rfl, trivial⟩) (by exact fun w h => h)
    · refine C.condF (congrArg (fun b => some (Value.bool b)) (decide_eq_false c28)) ?_
      refine C.exit ?_
      refine X.th ?_
      refine X.th ?_
      refine X.hit ?_
      obtain rfl := Option.some.inj H
      exact N.meet ((), ()) ⟨fin_inr HK12, trivial⟩ (by exact ⟨rfl, trivial⟩) (by exact fun w h => h)
  · refine N.at (s' := [(3, .int .i64 0)]) (G' := G) rfl rfl ?_
    refine N.nx ?_
    refine C.rs ?_
    refine J.p rfl rfl rfl rfl (Y.mv rfl) ?_
    refine J.p rfl rfl rfl rfl (Y.asg rfl) ?_
    refine J.nx ?_
    refine C.ret ?_
    obtain rfl := Option.some.inj H
    exact ret_ok (ks := [2]) rfl rfl (fun w h => ⟨rfl, h⟩)
/-! ### bytes.Compare: function 56 -/
def bCompare.f (a0 : List Int) (a1 : List Int) : Option (Int) := some (cmpB a0 a1)
theorem bCompare.calls {B : Nat} {w0 : World} {G : List HP} (a0 : List Int) (a1 : List Int) (Aa0 : Option Addr) (ca0 : Nat) (Aa1 : Option Addr) (ca1 : Nat) (ha0 : RdG B w0 G Aa0 (a0.map (Value.int .u8))) (ka0 : a0.length ≤ ca0) (ha1 : RdG B w0 G Aa1 (a1.map (Value.int .u8))) (ka1 : a1.length ≤ ca1) (r : Int) (H : bCompare.f a0 a1 = some r) (w : World) (hw : St B w0 (G) w) :
    Calls Try.prog 56 [.slice Aa0 a0.length ca0, .slice Aa1 a1.length ca1].toArray w (fun e w' => e = .returned (.int .i64 r) ∧ St B w0 (G) w') := by
  unfold bCompare.f at H
  refine calls_of (n := 8) (s := [(0, .slice Aa0 a0.length ca0), (1, .slice Aa1 a1.length ca1)]) Try.func56 rfl rfl rfl rfl ?_ hw
  refine C.rs ?_
  refine J.p rfl rfl rfl rfl (Y.asg rfl) ?_
  refine J.nx ?_
  refine C.rs ?_
  refine J.p rfl rfl rfl rfl (Y.mv rfl) ?_
  refine J.p rfl rfl rfl rfl (Y.mv rfl) ?_
  refine J.r rfl rfl rfl rfl (Y.cmp ex78 rfl rfl ha0 ha1) ?_
  refine J.p rfl rfl rfl rfl (Y.asg rfl) ?_
  refine J.nx ?_
  refine C.ret ?_
  obtain rfl := Option.some.inj H
  exact ret_ok (ks := [4]) rfl rfl (fun w h => ⟨rfl, h⟩)
/-! ### salvor/frame.Compare: function 27 -/
def fCompare.f (K : Nat) (a0_0 : Int) (a0_1 : Int) (a0_2 : ByteArray) (a0_3 : ByteArray) (a1_0 : Int) (a1_1 : Int) (a1_2 : ByteArray) (a1_3 : ByteArray) : Option (Int) := (fOf.f a0_0 a0_1 a0_2 a0_3).bind fun t5 => (fBody.f K t5.1 t5.2.1 t5.2.2.1 t5.2.2.2.1 t5.2.2.2.2.1 t5.2.2.2.2.2.1 t5.2.2.2.2.2.2.1 t5.2.2.2.2.2.2.2.1 t5.2.2.2.2.2.2.2.2.1 t5.2.2.2.2.2.2.2.2.2.1 t5.2.2.2.2.2.2.2.2.2.2.1 t5.2.2.2.2.2.2.2.2.2.2.2.1 t5.2.2.2.2.2.2.2.2.2.2.2.2.1 t5.2.2.2.2.2.2.2.2.2.2.2.2.2).bind fun t7 => (fOf.f a1_0 a1_1 a1_2 a1_3).bind fun t12 => (fBody.f K t12.1 t12.2.1 t12.2.2.1 t12.2.2.2.1 t12.2.2.2.2.1 t12.2.2.2.2.2.1 t12.2.2.2.2.2.2.1 t12.2.2.2.2.2.2.2.1 t12.2.2.2.2.2.2.2.2.1 t12.2.2.2.2.2.2.2.2.2.1 t12.2.2.2.2.2.2.2.2.2.2.1 t12.2.2.2.2.2.2.2.2.2.2.2.1 t12.2.2.2.2.2.2.2.2.2.2.2.2.1 t12.2.2.2.2.2.2.2.2.2.2.2.2.2).bind fun t14 => (if t7.2 ≠ 0 then (some true) else (some (decide (t14.2 ≠ 0)))).bind fun o20 => if o20 = true then ((rank.f t7.2).bind fun t26 => (rank.f t14.2).bind fun t28 => (cmpInt.f t26 t28).bind fun t30 => some t30) else ((cmpU64.f a0_0 a1_0).bind fun t35 => (bCompare.f t7.1 t14.1).bind fun t39 => (cmpOr.f K [t35, t39]).bind fun t43 => some t43)
theorem fCompare.calls {B : Nat} {w0 : World} {G : List HP} (K : Nat) (a0_0 : Int) (a0_1 : Int) (a0_2 : ByteArray) (a0_3 : ByteArray) (a1_0 : Int) (a1_1 : Int) (a1_2 : ByteArray) (a1_3 : ByteArray) (r : Int) (H : fCompare.f K a0_0 a0_1 a0_2 a0_3 a1_0 a1_1 a1_2 a1_3 = some r) (w : World) (hw : St B w0 (G) w) :
    Calls Try.prog 27 [.agg #[.int .u64 a0_0, .int .i64 a0_1, .string a0_2, .string a0_3], .agg #[.int .u64 a1_0, .int .i64 a1_1, .string a1_2, .string a1_3]].toArray w (fun e w' => e = .returned (.int .i64 r) ∧ St B w0 (G) w') := by
  unfold fCompare.f at H
  refine calls_of (n := 42) (s := [(0, .agg #[.int .u64 a0_0, .int .i64 a0_1, .string a0_2, .string a0_3]), (1, .agg #[.int .u64 a1_0, .int .i64 a1_1, .string a1_2, .string a1_3])]) Try.func27 rfl rfl rfl rfl ?_ hw
  refine C.rs ?_
  refine J.box (L := [.int .u64 a0_0, .int .i64 a0_1, .string a0_2, .string a0_3]) rfl rfl rfl (fun g1 => ?_)
  refine J.box (L := [.int .u64 a1_0, .int .i64 a1_1, .string a1_2, .string a1_3]) rfl rfl rfl (fun g3 => ?_)
  refine J.p rfl rfl rfl rfl (Y.asg rfl) ?_
  refine J.nx ?_
  refine C.rs ?_
  refine J.r rfl rfl rfl rfl (Y.ldCA (us := [.int .u64 a0_0, .int .i64 a0_1, .string a0_2, .string a0_3]) 1 Try.underlying27 rfl ti27 rfl rfl rfl rfl) ?_
  obtain ⟨t5, hC6, H⟩ := bind_some H
  refine J.call (us := []) (cap := []) rfl rfl rfl go21 (fun w hw => by have hcc := fOf.calls a0_0 a0_1 a0_2 a0_3 t5 hC6 w hw; exact hcc) (fun e w1 h1 => ?_)
  obtain ⟨rfl, hw51⟩ := h1
  refine ⟨_, _, rfl, hw51, ?_⟩
  obtain ⟨t7, hC8, H⟩ := bind_some H
  refine J.call (us := []) (cap := []) rfl rfl rfl go20 (fun w hw => by have hcc := fBody.calls K t5.1 t5.2.1 t5.2.2.1 t5.2.2.2.1 t5.2.2.2.2.1 t5.2.2.2.2.2.1 t5.2.2.2.2.2.2.1 t5.2.2.2.2.2.2.2.1 t5.2.2.2.2.2.2.2.2.1 t5.2.2.2.2.2.2.2.2.2.1 t5.2.2.2.2.2.2.2.2.2.2.1 t5.2.2.2.2.2.2.2.2.2.2.2.1 t5.2.2.2.2.2.2.2.2.2.2.2.2.1 t5.2.2.2.2.2.2.2.2.2.2.2.2.2 t7 hC8 w hw; exact hcc) (fun e w1 h1 => ?_)
  obtain ⟨A9, c10, rfl, hw50⟩ := h1
  refine ⟨_, _, rfl, hw50, ?_⟩
  refine J.p rfl rfl rfl rfl (Y.mv rfl) ?_
  refine J.p rfl rfl rfl rfl (Y.ext rfl rfl) ?_
  refine J.p rfl rfl rfl rfl (Y.ext rfl rfl) ?_
  refine J.p rfl rfl rfl rfl (Y.asg rfl) ?_
  refine J.p rfl rfl rfl rfl (Y.asg rfl) ?_
  refine J.nx ?_
  refine C.rs ?_
  refine J.r rfl rfl rfl rfl (Y.ldCA (us := [.int .u64 a1_0, .int .i64 a1_1, .string a1_2, .string a1_3]) 1 Try.underlying27 rfl ti27 rfl rfl rfl rfl) ?_
  obtain ⟨t12, hC13, H⟩ := bind_some H
  refine J.call (us := []) (cap := []) rfl rfl rfl go21 (fun w hw => by have hcc := fOf.calls a1_0 a1_1 a1_2 a1_3 t12 hC13 w hw; exact hcc) (fun e w1 h1 => ?_)
  obtain ⟨rfl, hw49⟩ := h1
  refine ⟨_, _, rfl, hw49, ?_⟩
  obtain ⟨t14, hC15, H⟩ := bind_some H
  refine J.call (us := []) (cap := []) rfl rfl rfl go20 (fun w hw => by have hcc := fBody.calls K t12.1 t12.2.1 t12.2.2.1 t12.2.2.2.1 t12.2.2.2.2.1 t12.2.2.2.2.2.1 t12.2.2.2.2.2.2.1 t12.2.2.2.2.2.2.2.1 t12.2.2.2.2.2.2.2.2.1 t12.2.2.2.2.2.2.2.2.2.1 t12.2.2.2.2.2.2.2.2.2.2.1 t12.2.2.2.2.2.2.2.2.2.2.2.1 t12.2.2.2.2.2.2.2.2.2.2.2.2.1 t12.2.2.2.2.2.2.2.2.2.2.2.2.2 t14 hC15 w hw; exact hcc) (fun e w1 h1 => ?_)
  obtain ⟨A16, c17, rfl, hw48⟩ := h1
  refine ⟨_, _, rfl, hw48, ?_⟩
  refine J.p rfl rfl rfl rfl (Y.mv rfl) ?_
  refine J.p rfl rfl rfl rfl (Y.ext rfl rfl) ?_
  refine J.p rfl rfl rfl rfl (Y.ext rfl rfl) ?_
  refine J.p rfl rfl rfl rfl (Y.asg rfl) ?_
  refine J.p rfl rfl rfl rfl (Y.asg rfl) ?_
  refine J.nx ?_
  refine C.seq ?_
  refine C.rs ?_
  refine J.joinB H (fun (o20 : Bool) (j21 : Unit) => [(2, .pointer (some ⟨g1, 0, none⟩)), (3, .pointer (some ⟨g3, 0, none⟩)), (5, .slice A9 t7.1.length c10), (6, .int .i64 t7.2), (7, .slice A16 t14.1.length c17), (8, .int .i64 t14.2), (26, .bool o20)]) (fun (o20 : Bool) (j21 : Unit) => cells g1 27 [.int .u64 a0_0, .int .i64 a0_1, .string a0_2, .string a0_3] :: cells g3 27 [.int .u64 a1_0, .int .i64 a1_1, .string a1_2, .string a1_3] :: own 5 1 A9 c10 (t7.1.map (Value.int .u8)) :: own 5 1 A16 c17 (t14.1.map (Value.int .u8)) :: G) (fun (o20 : Bool) (j21 : Unit) => True) (fun o22 H HK23 => ?_) (fun o20 j21 H _ => ?_)
  · refine J.p rfl rfl rfl rfl (Y.mv rfl) ?_
    refine J.p rfl rfl rfl rfl (Y.bin rfl rfl rfl) ?_
    refine J.p rfl rfl rfl rfl (Y.mv rfl) ?_
    refine split2 H (fun c24 H => ?_) (fun c24 H => ?_)
    · refine J.as (k := 23) rfl (congrArg Value.bool (decide_eq_true c24)) ?_
      refine J.skip rfl rfl ?_
      refine J.skip rfl rfl ?_
      refine J.p rfl rfl rfl rfl (Y.pickT rfl rfl) ?_
      refine J.nil ?_
      obtain rfl := Option.some.inj H
      exact N.meet (true, ()) ⟨HK23, trivial⟩ (by exact ⟨rfl, rfl, rfl, rfl, rfl, rfl, rfl, trivial⟩) (by exact fun w h => (St.pick [3, 2, 1, 0] [_, _, _, _] h rfl))
    · refine J.as (k := 23) rfl (congrArg Value.bool (decide_eq_false c24)) ?_
      refine J.p rfl rfl rfl rfl (Y.mv rfl) ?_
      refine J.p rfl rfl rfl rfl (Y.bin rfl rfl rfl) ?_
      refine J.p rfl rfl rfl rfl (Y.pickF rfl rfl) ?_
      refine J.nil ?_
      obtain rfl := Option.some.inj H
      exact N.meet (decide (t14.2 ≠ 0), ()) ⟨HK23, trivial⟩ (by exact ⟨rfl, rfl, rfl, rfl, rfl, rfl, rfl, trivial⟩) (by exact fun w h => (St.pick [3, 2, 1, 0] [_, _, _, _] h rfl))
  · refine C.at (s' := [(2, .pointer (some ⟨g1, 0, none⟩)), (3, .pointer (some ⟨g3, 0, none⟩)), (5, .slice A9 t7.1.length c10), (6, .int .i64 t7.2), (7, .slice A16 t14.1.length c17), (8, .int .i64 t14.2), (26, .bool o20)]) (G' := cells g1 27 [.int .u64 a0_0, .int .i64 a0_1, .string a0_2, .string a0_3] :: cells g3 27 [.int .u64 a1_0, .int .i64 a1_1, .string a1_2, .string a1_3] :: own 5 1 A9 c10 (t7.1.map (Value.int .u8)) :: own 5 1 A16 c17 (t14.1.map (Value.int .u8)) :: G) rfl rfl ?_
    refine split2 H (fun c25 H => ?_) (fun c25 H => ?_)
    · refine C.condT (congrArg (fun b => some (Value.bool b)) (c25)) ?_
      refine C.rs ?_
      refine J.p rfl rfl rfl rfl (Y.mv rfl) ?_
      obtain ⟨t26, hC27, H⟩ := bind_some H
      refine J.call (us := []) (cap := []) rfl rfl rfl go53 (fun w hw => by have hcc := rank.calls t7.2 t26 hC27 w hw; exact hcc) (fun e w1 h1 => ?_)
      obtain ⟨rfl, hw34⟩ := h1
      refine ⟨_, _, rfl, hw34, ?_⟩
      refine J.p rfl rfl rfl rfl (Y.mv rfl) ?_
      obtain ⟨t28, hC29, H⟩ := bind_some H
      refine J.call (us := []) (cap := []) rfl rfl rfl go53 (fun w hw => by have hcc := rank.calls t14.2 t28 hC29 w hw; exact hcc) (fun e w1 h1 => ?_)
      obtain ⟨rfl, hw33⟩ := h1
      refine ⟨_, _, rfl, hw33, ?_⟩
      obtain ⟨t30, hC31, H⟩ := bind_some H
      refine J.call (us := []) (cap := []) rfl rfl rfl go52 (fun w hw => by have hcc := cmpInt.calls t26 t28 t30 hC31 w hw; exact hcc) (fun e w1 h1 => ?_)
      obtain ⟨rfl, hw32⟩ := h1
      refine ⟨_, _, rfl, hw32, ?_⟩
      refine J.p rfl rfl rfl rfl (Y.asg rfl) ?_
      refine J.nx ?_
      refine C.ret ?_
      obtain rfl := Option.some.inj H
      refine T.th ?_
      exact ret_ok (ks := [4]) rfl rfl (fun w h => ⟨rfl, (St.pick [] [_, _, _, _] h rfl)⟩)
    · refine C.condF (congrArg (fun b => some (Value.bool b)) (nt c25)) ?_
      refine C.skip ?_
      refine N.nx ?_
      refine C.rs ?_
      refine J.p rfl rfl rfl rfl (Y.fa0 fa27_0 rfl rfl) ?_
      refine J.r rfl rfl rfl rfl (Y.ldC 0 Try.underlying25 rfl rfl rfl rfl) ?_
      refine J.p rfl rfl rfl rfl (Y.fa0 fa27_0 rfl rfl) ?_
      refine J.r rfl rfl rfl rfl (Y.ldC 1 Try.underlying25 rfl rfl rfl rfl) ?_
      obtain ⟨t35, hC36, H⟩ := bind_some H
      refine J.call (us := []) (cap := []) rfl rfl rfl go55 (fun w hw => by have hcc := cmpU64.calls a0_0 a1_0 t35 hC36 w hw; exact hcc) (fun e w1 h1 => ?_)
      obtain ⟨rfl, hw47⟩ := h1
      refine ⟨_, _, rfl, hw47, ?_⟩
      refine J.p rfl rfl rfl rfl (Y.mv rfl) ?_
      refine J.p rfl rfl rfl rfl (Y.mv rfl) ?_
      refine J.know (own_leL 2 rfl) (fun hc37 => ?_)
      refine J.know (own_leL 3 rfl) (fun hc38 => ?_)
      obtain ⟨t39, hC40, H⟩ := bind_some H
      refine J.call (us := []) (cap := []) rfl rfl rfl go56 (fun w hw => by have hcc := bCompare.calls t7.1 t14.1 A9 c10 A16 c17 (RdG.own 2 rfl) hc37 (RdG.own 3 rfl) hc38 t39 hC40 w hw; exact hcc) (fun e w1 h1 => ?_)
      obtain ⟨rfl, hw46⟩ := h1
      refine ⟨_, _, rfl, hw46, ?_⟩
      refine J.bsL (enc := (Value.int .i64)) (xs := [t35, t39]) rfl Try.underlying116 ti3 rfl rfl rfl rfl rfl (fun A41 => ?_)
      obtain ⟨t43, hC44, H⟩ := bind_some H
      refine J.call (us := []) (cap := []) rfl rfl rfl go54 (fun w hw => by have hcc := cmpOr.calls K [t35, t39] A41 2 (RdG.own 0 rfl) (show [t35, t39].length ≤ 2 from Nat.le_refl _) t43 hC44 w hw; exact hcc) (fun e w1 h1 => ?_)
      obtain ⟨rfl, hw45⟩ := h1
      refine ⟨_, _, rfl, hw45, ?_⟩
      refine J.p rfl rfl rfl rfl (Y.asg rfl) ?_
      refine J.nx ?_
      refine C.ret ?_
      obtain rfl := Option.some.inj H
      exact ret_ok (ks := [4]) rfl rfl (fun w h => ⟨rfl, (St.pick [] [_, _, _, _, _] h rfl)⟩)
end Go.Proofs.Ytakolnamobkkkaa
