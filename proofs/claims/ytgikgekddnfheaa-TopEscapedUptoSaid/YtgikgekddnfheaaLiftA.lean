/- Own text, printed by the lifting program: each Go function beside a plain function, and the proof that a call of the one comes to the other. Conditions: what came in can be read. -/
import Derived.Test.YtgikgekddnfheaaSxIter
import Derived.Test.YtgikgekddnfheaaSxLib
import Derived.Test.YtgikgekddnfheaaProg
set_option linter.unusedVariables false
set_option linter.unusedSimpArgs false
set_option maxRecDepth 10000
set_option maxHeartbeats 4000000
namespace Go.Proofs.Ytgikgekddnfheaa
open Go Go.Sx
theorem ti5 : TI Try.prog 5 1 1 (.int .u8 0) := TI.of (by kernel_rfl)
theorem mx : Try.prog.follows .mixedOrders = true := by kernel_rfl
theorem ex43 : ExF Try.prog 43 Extern.BytealgIndexByte.indexByte := ExF.of Try.func43 (by kernel_rfl) (by kernel_rfl) (by kernel_rfl) (by kernel_rfl)
theorem ex45 : ExF Try.prog 45 Extern.BytealgCount.count := ExF.of Try.func45 (by kernel_rfl) (by kernel_rfl) (by kernel_rfl) (by kernel_rfl)
theorem go15 : GoF Try.prog 15 := GoF.of Try.func15 (by kernel_rfl) (by kernel_rfl)
theorem go16 : GoF Try.prog 16 := GoF.of Try.func16 (by kernel_rfl) (by kernel_rfl)
theorem go17 : GoF Try.prog 17 := GoF.of Try.func17 (by kernel_rfl) (by kernel_rfl)
theorem go18 : GoF Try.prog 18 := GoF.of Try.func18 (by kernel_rfl) (by kernel_rfl)
theorem go24 : GoF Try.prog 24 := GoF.of Try.func24 (by kernel_rfl) (by kernel_rfl)
theorem go25 : GoF Try.prog 25 := GoF.of Try.func25 (by kernel_rfl) (by kernel_rfl)
theorem go28 : GoF Try.prog 28 := GoF.of Try.func28 (by kernel_rfl) (by kernel_rfl)
theorem go29 : GoF Try.prog 29 := GoF.of Try.func29 (by kernel_rfl) (by kernel_rfl)
theorem go30 : GoF Try.prog 30 := GoF.of Try.func30 (by kernel_rfl) (by kernel_rfl)
theorem go34 : GoF Try.prog 34 := GoF.of Try.func34 (by kernel_rfl) (by kernel_rfl)
theorem go41 : GoF Try.prog 41 := GoF.of Try.func41 (by kernel_rfl) (by kernel_rfl)
theorem go42 : GoF Try.prog 42 := GoF.of Try.func42 (by kernel_rfl) (by kernel_rfl)
/-! ### salvor/escape.one: function 41 -/
def one.f (a0 : List Int) (a1 : Int) : Option (Int × Int × Int) := gd ((0 : Int) ≤ a1 ∧ a1 < (a0.length : Int)) (if (rd a0 a1) = 167 then (some (0, 0, 31)) else (if (rd a0 a1) = 166 then ((if (IntKind.wrap .i64 (a1 + 1)) = (a0.length : Int) then (some true) else (gd ((0 : Int) ≤ (IntKind.wrap .i64 (a1 + 1)) ∧ (IntKind.wrap .i64 (a1 + 1)) < (a0.length : Int)) (gd ((0 : Int) ≤ (IntKind.wrap .i64 (a1 + 1)) ∧ (IntKind.wrap .i64 (a1 + 1)) < (a0.length : Int)) (some (decide (1 < (rd a0 (IntKind.wrap .i64 (a1 + 1))))))))).bind fun o9 => if o9 = true then (some (0, 0, 32)) else (gd ((0 : Int) ≤ (IntKind.wrap .i64 (a1 + 1)) ∧ (IntKind.wrap .i64 (a1 + 1)) < (a0.length : Int)) (some (IntKind.wrap .u8 (166 + (rd a0 (IntKind.wrap .i64 (a1 + 1)))), 2, 0)))) else (some (rd a0 a1, 1, 0))))
theorem one.calls {B : Nat} {w0 : World} {G : List HP} (a0 : List Int) (a1 : Int) (Aa0 : Option Addr) (ca0 : Nat) (ha0 : RdG B w0 G Aa0 (a0.map (Value.int .u8))) (ka0 : a0.length ≤ ca0) (r : Int × Int × Int) (H : one.f a0 a1 = some r) (w : World) (hw : St B w0 (G) w) :
    Calls Try.prog 41 [.slice Aa0 a0.length ca0, .int .i64 a1].toArray w (fun e w' => e = .returned (.tuple #[.int .u8 r.1, .int .i64 r.2.1, .int .i64 r.2.2]) ∧ St B w0 (G) w') := by
  unfold one.f at H
  refine calls_of (n := 37) (s := [(0, .slice Aa0 a0.length ca0), (1, .int .i64 a1)]) Try.func41 rfl rfl rfl rfl ?_ hw
  refine C.rs ?_
  refine J.p rfl rfl rfl rfl (Y.asg rfl) ?_
  refine J.p rfl rfl rfl rfl (Y.asg rfl) ?_
  refine J.p rfl rfl rfl rfl (Y.asg rfl) ?_
  refine J.nx ?_
  refine C.rs ?_
  refine J.p rfl rfl rfl rfl (Y.mv rfl) ?_
  refine J.p rfl rfl rfl rfl (Y.mv rfl) ?_
  obtain ⟨p1, H⟩ := gd_some H
  refine J.el rfl rfl rfl Try.underlying25 ti5 Try.underlying5 rfl rfl rfl p1 ha0 ?_
  refine J.p rfl rfl rfl rfl (Y.asg rfl) ?_
  refine J.nx ?_
  refine C.rs ?_
  refine J.p rfl rfl rfl rfl (Y.mv rfl) ?_
  refine J.nx ?_
  refine C.blk ?_
  refine C.rs ?_
  refine J.p rfl rfl rfl rfl (Y.bin rfl rfl rfl) ?_
  refine J.p rfl rfl rfl rfl (Y.asg rfl) ?_
  refine J.nx ?_
  refine split2 H (fun c2 H => ?_) (fun c2 H => ?_)
  · refine C.condT (congrArg (fun b => some (Value.bool b)) (decide_eq_true c2)) ?_
    refine C.rs ?_
    refine J.p rfl rfl rfl rfl (Y.asg rfl) ?_
    refine J.p rfl rfl rfl rfl (Y.asg rfl) ?_
    refine J.p rfl rfl rfl rfl (Y.asg rfl) ?_
    refine J.nx ?_
    refine C.ret ?_
    obtain rfl := Option.some.inj H
    refine T.ib ?_
    exact ret_ok (ks := [4, 5, 6]) rfl rfl (fun w h => ⟨rfl, h⟩)
  · refine C.condF (congrArg (fun b => some (Value.bool b)) (decide_eq_false c2)) ?_
    refine C.rs ?_
    refine J.p rfl rfl rfl rfl (Y.bin rfl rfl rfl) ?_
    refine J.p rfl rfl rfl rfl (Y.asg rfl) ?_
    refine J.nx ?_
    refine split2 H (fun c3 H => ?_) (fun c3 H => ?_)
    · refine C.condT (congrArg (fun b => some (Value.bool b)) (decide_eq_true c3)) ?_
      refine C.seq ?_
      refine C.rs ?_
      refine J.joinB H (fun (o9 : Bool) (j10 : Unit) => [(0, .slice Aa0 a0.length ca0), (1, .int .i64 a1), (30, .bool o9)]) (fun (o9 : Bool) (j10 : Unit) => G) (fun (o9 : Bool) (j10 : Unit) => True) (fun o11 H HK12 => ?_) (fun o9 j10 H _ => ?_)
      · refine J.p rfl rfl rfl rfl (Y.mv rfl) ?_
        refine J.p rfl rfl rfl rfl (Y.bin rfl rfl rfl) ?_
        refine J.p rfl rfl rfl rfl (Y.mv rfl) ?_
        refine J.p rfl rfl rfl rfl (Y.lenS Try.underlying25 rfl) ?_
        refine J.p rfl rfl rfl rfl (Y.bin rfl rfl rfl) ?_
        refine J.p rfl rfl rfl rfl (Y.mv rfl) ?_
        refine split2 H (fun c13 H => ?_) (fun c13 H => ?_)
        · refine J.as (k := 23) rfl (congrArg Value.bool (decide_eq_true c13)) ?_
          refine J.skip rfl rfl ?_
          refine J.skip rfl rfl ?_
          refine J.skip rfl rfl ?_
          refine J.skip rfl rfl ?_
          refine J.skip rfl rfl ?_
          refine J.skip rfl rfl ?_
          refine J.p rfl rfl rfl rfl (Y.pickT rfl rfl) ?_
          refine J.nil ?_
          obtain rfl := Option.some.inj H
          exact N.meet (true, ()) ⟨HK12, trivial⟩ (by exact ⟨rfl, rfl, rfl, trivial⟩) (by exact fun w h => h)
        · refine J.as (k := 23) rfl (congrArg Value.bool (decide_eq_false c13)) ?_
          refine J.p rfl rfl rfl rfl (Y.mv rfl) ?_
          refine J.p rfl rfl rfl rfl (Y.mv rfl) ?_
          refine J.p rfl rfl rfl rfl (Y.bin rfl rfl rfl) ?_
          obtain ⟨p16, H⟩ := gd_some H
          refine J.know (ha0.some_ (j := Int.toNat (IntKind.wrap .i64 (a1 + 1))) (by rw [List.length_map]; exact idx_lt p16)) (fun hh => ?_)
          obtain ⟨a14, ha15⟩ := hh
          refine J.p rfl rfl rfl rfl (Y.ixa Try.underlying25 ti5 rfl rfl p16 ha15) ?_
          obtain ⟨p17, H⟩ := gd_some H
          refine J.r rfl rfl rfl rfl (Y.ldE Try.underlying5 rfl rfl ha15 p17 ha0) ?_
          refine J.p rfl rfl rfl rfl (Y.bin rfl rfl rfl) ?_
          refine J.p rfl rfl rfl rfl (Y.pickF rfl rfl) ?_
          refine J.nil ?_
          obtain rfl := Option.some.inj H
          exact N.meet (decide (1 < (rd a0 (IntKind.wrap .i64 (a1 + 1)))), ()) ⟨HK12, trivial⟩ (by exact ⟨rfl, rfl, rfl, trivial⟩) (by exact fun w h => h)
      · refine C.at (s' := [(0, .slice Aa0 a0.length ca0), (1, .int .i64 a1), (30, .bool o9)]) (G' := G) rfl rfl ?_
        refine split2 H (fun c18 H => ?_) (fun c18 H => ?_)
        · refine C.condT (congrArg (fun b => some (Value.bool b)) (c18)) ?_
          refine C.rs ?_
          refine J.p rfl rfl rfl rfl (Y.asg rfl) ?_
          refine J.p rfl rfl rfl rfl (Y.asg rfl) ?_
          refine J.p rfl rfl rfl rfl (Y.asg rfl) ?_
          refine J.nx ?_
          refine C.ret ?_
          obtain rfl := Option.some.inj H
          refine T.th ?_
          refine T.ib ?_
          exact ret_ok (ks := [4, 5, 6]) rfl rfl (fun w h => ⟨rfl, h⟩)
        · refine C.condF (congrArg (fun b => some (Value.bool b)) (nt c18)) ?_
          refine C.skip ?_
          refine N.nx ?_
          refine C.rs ?_
          refine J.p rfl rfl rfl rfl (Y.mv rfl) ?_
          refine J.p rfl rfl rfl rfl (Y.mv rfl) ?_
          refine J.p rfl rfl rfl rfl (Y.bin rfl rfl rfl) ?_
          obtain ⟨p19, H⟩ := gd_some H
          refine J.el rfl rfl rfl Try.underlying25 ti5 Try.underlying5 rfl rfl rfl p19 ha0 ?_
          refine J.p rfl rfl rfl rfl (Y.bin rfl rfl rfl) ?_
          refine J.p rfl rfl rfl rfl (Y.asg rfl) ?_
          refine J.p rfl rfl rfl rfl (Y.asg rfl) ?_
          refine J.p rfl rfl rfl rfl (Y.asg rfl) ?_
          refine J.nx ?_
          refine C.ret ?_
          obtain rfl := Option.some.inj H
          refine T.ib ?_
          exact ret_ok (ks := [4, 5, 6]) rfl rfl (fun w h => ⟨rfl, h⟩)
    · refine C.condF (congrArg (fun b => some (Value.bool b)) (decide_eq_false c3)) ?_
      refine C.rs ?_
      refine J.p rfl rfl rfl rfl (Y.mv rfl) ?_
      refine J.p rfl rfl rfl rfl (Y.asg rfl) ?_
      refine J.p rfl rfl rfl rfl (Y.asg rfl) ?_
      refine J.p rfl rfl rfl rfl (Y.asg rfl) ?_
      refine J.nx ?_
      refine C.ret ?_
      obtain rfl := Option.some.inj H
      refine T.ib ?_
      exact ret_ok (ks := [4, 5, 6]) rfl rfl (fun w h => ⟨rfl, h⟩)
/-! ### bytes.IndexByte: function 34 -/
def IndexByte.f (a0 : List Int) (a1 : Int) : Option (Int) := some (idxB a0 a1)
theorem IndexByte.calls {B : Nat} {w0 : World} {G : List HP} (a0 : List Int) (a1 : Int) (Aa0 : Option Addr) (ca0 : Nat) (ha0 : RdG B w0 G Aa0 (a0.map (Value.int .u8))) (ka0 : a0.length ≤ ca0) (r : Int) (H : IndexByte.f a0 a1 = some r) (w : World) (hw : St B w0 (G) w) :
    Calls Try.prog 34 [.slice Aa0 a0.length ca0, .int .u8 a1].toArray w (fun e w' => e = .returned (.int .i64 r) ∧ St B w0 (G) w') := by
  unfold IndexByte.f at H
  refine calls_of (n := 8) (s := [(0, .slice Aa0 a0.length ca0), (1, .int .u8 a1)]) Try.func34 rfl rfl rfl rfl ?_ hw
  refine C.rs ?_
  refine J.p rfl rfl rfl rfl (Y.asg rfl) ?_
  refine J.nx ?_
  refine C.rs ?_
  refine J.p rfl rfl rfl rfl (Y.mv rfl) ?_
  refine J.p rfl rfl rfl rfl (Y.mv rfl) ?_
  refine J.r rfl rfl rfl rfl (Y.idx ex43 rfl rfl ha0) ?_
  refine J.p rfl rfl rfl rfl (Y.asg rfl) ?_
  refine J.nx ?_
  refine C.ret ?_
  obtain rfl := Option.some.inj H
  exact ret_ok (ks := [4]) rfl rfl (fun w h => ⟨rfl, h⟩)
/-! ### salvor/escape.Next: function 16 -/
def Next.f (a0 : List Int) (a1 : Int) : Option (Int) := gd ((0 : Int) ≤ (min (max a1 0) (a0.length : Int)) ∧ ((Int.toNat (min (max a1 0) (a0.length : Int))) ≤ a0.length ∧ a0.length ≤ a0.length)) ((IndexByte.f ((a0.take a0.length).drop (Int.toNat (min (max a1 0) (a0.length : Int)))) 167).bind fun t2 => if 0 ≤ t2 then (some (IntKind.wrap .i64 ((min (max a1 0) (a0.length : Int)) + t2))) else (some (a0.length : Int)))
theorem Next.calls {B : Nat} {w0 : World} {G : List HP} (a0 : List Int) (a1 : Int) (Aa0 : Option Addr) (ca0 : Nat) (ha0 : RdG B w0 G Aa0 (a0.map (Value.int .u8))) (ka0 : a0.length ≤ ca0) (r : Int) (H : Next.f a0 a1 = some r) (w : World) (hw : St B w0 (G) w) :
    Calls Try.prog 16 [.slice Aa0 a0.length ca0, .int .i64 a1].toArray w (fun e w' => e = .returned (.int .i64 r) ∧ St B w0 (G) w') := by
  unfold Next.f at H
  refine calls_of (n := 22) (s := [(0, .slice Aa0 a0.length ca0), (1, .int .i64 a1)]) Try.func16 rfl rfl rfl rfl ?_ hw
  refine C.rs ?_
  refine J.p rfl rfl rfl rfl (Y.asg rfl) ?_
  refine J.nx ?_
  refine C.rs ?_
  refine J.p rfl rfl rfl rfl (Y.mv rfl) ?_
  refine J.p rfl rfl rfl rfl (Y.mx rfl rfl) ?_
  refine J.p rfl rfl rfl rfl (Y.mv rfl) ?_
  refine J.p rfl rfl rfl rfl (Y.lenS Try.underlying25 rfl) ?_
  refine J.p rfl rfl rfl rfl (Y.mn rfl rfl) ?_
  refine J.p rfl rfl rfl rfl (Y.asg rfl) ?_
  refine J.nx ?_
  refine C.seq ?_
  refine C.rs ?_
  refine J.p rfl rfl rfl rfl (Y.mv rfl) ?_
  refine J.p rfl rfl rfl rfl (Y.mv rfl) ?_
  obtain ⟨p1, H⟩ := gd_some H
  refine J.p rfl rfl rfl rfl (Y.slcL Try.underlying25 ti5 rfl (bnd.yes rfl p1.1) bnd.no p1.2 ka0) ?_
  obtain ⟨t2, hC3, H⟩ := bind_some H
  refine J.call (us := []) (cap := []) rfl rfl rfl go34 (fun w hw => IndexByte.calls ((a0.take a0.length).drop (Int.toNat (min (max a1 0) (a0.length : Int)))) 167 (subA 1 Aa0 ca0 (Int.toNat (min (max a1 0) (a0.length : Int)))) (ca0 - (Int.toNat (min (max a1 0) (a0.length : Int)))) (RdG.subL (l := (Int.toNat (min (max a1 0) (a0.length : Int)))) (h := a0.length) ha0 ka0) (hc_sub ka0) t2 hC3 w hw) (fun e w1 h1 => ?_)
  obtain ⟨rfl, hw5⟩ := h1
  refine ⟨_, _, rfl, hw5, ?_⟩
  refine J.p rfl rfl rfl rfl (Y.asg rfl) ?_
  refine J.nx ?_
  refine C.rs ?_
  refine J.p rfl rfl rfl rfl (Y.mv rfl) ?_
  refine J.p rfl rfl rfl rfl (Y.bin rfl rfl rfl) ?_
  refine J.nx ?_
  refine split2 H (fun c4 H => ?_) (fun c4 H => ?_)
  · refine C.condT (congrArg (fun b => some (Value.bool b)) (decide_eq_true c4)) ?_
    refine C.rs ?_
    refine J.p rfl rfl rfl rfl (Y.mv rfl) ?_
    refine J.p rfl rfl rfl rfl (Y.mv rfl) ?_
    refine J.p rfl rfl rfl rfl (Y.bin rfl rfl rfl) ?_
    refine J.p rfl rfl rfl rfl (Y.asg rfl) ?_
    refine J.nx ?_
    refine C.ret ?_
    obtain rfl := Option.some.inj H
    refine T.th ?_
    exact ret_ok (ks := [4]) rfl rfl (fun w h => ⟨rfl, h⟩)
  · refine C.condF (congrArg (fun b => some (Value.bool b)) (decide_eq_false c4)) ?_
    refine C.skip ?_
    refine N.nx ?_
    refine C.rs ?_
    refine J.p rfl rfl rfl rfl (Y.mv rfl) ?_
    refine J.p rfl rfl rfl rfl (Y.lenS Try.underlying25 rfl) ?_
    refine J.p rfl rfl rfl rfl (Y.asg rfl) ?_
    refine J.nx ?_
    refine C.ret ?_
    obtain rfl := Option.some.inj H
    exact ret_ok (ks := [4]) rfl rfl (fun w h => ⟨rfl, h⟩)
/-! ### bytes.Count: function 42 -/
def Count.l1 : Nat → (Unit) → Option (Int)
  | 0, _ => none
  | k + 1, i9 => none
def Count.f (K : Nat) (a0 : List Int) (a1 : List Int) : Option (Int) := if (a1.length : Int) = 0 then (none) else (if (a1.length : Int) = 1 then (gd ((0 : Int) ≤ 0 ∧ 0 < (a1.length : Int)) (some (cntB a0 (rd a1 0)))) else (Count.l1 K ()))
theorem Count.calls {B : Nat} {w0 : World} {G : List HP} (K : Nat) (a0 : List Int) (a1 : List Int) (Aa0 : Option Addr) (ca0 : Nat) (Aa1 : Option Addr) (ca1 : Nat) (ha0 : RdG B w0 G Aa0 (a0.map (Value.int .u8))) (ka0 : a0.length ≤ ca0) (ha1 : RdG B w0 G Aa1 (a1.map (Value.int .u8))) (ka1 : a1.length ≤ ca1) (r : Int) (H : Count.f K a0 a1 = some r) (w : World) (hw : St B w0 (G) w) :
    Calls Try.prog 42 [.slice Aa0 a0.length ca0, .slice Aa1 a1.length ca1].toArray w (fun e w' => e = .returned (.int .i64 r) ∧ St B w0 (G) w') := by
  unfold Count.f at H
  refine calls_of (n := 35) (s := [(0, .slice Aa0 a0.length ca0), (1, .slice Aa1 a1.length ca1)]) Try.func42 rfl rfl rfl rfl ?_ hw
  refine C.rs ?_
  refine J.p rfl rfl rfl rfl (Y.asg rfl) ?_
  refine J.nx ?_
  refine C.seq ?_
  refine C.rs ?_
  refine J.p rfl rfl rfl rfl (Y.mv rfl) ?_
  refine J.p rfl rfl rfl rfl (Y.lenS Try.underlying25 rfl) ?_
  refine J.p rfl rfl rfl rfl (Y.bin rfl rfl rfl) ?_
  refine J.nx ?_
  refine split2 H (fun c1 H => ?_) (fun c1 H => ?_)
  · refine C.condT (congrArg (fun b => some (Value.bool b)) (decide_eq_true c1)) ?_
    refine C.rs ?_
    refine J.p rfl rfl rfl rfl (Y.mv rfl) ?_
    cases H
  · refine C.condF (congrArg (fun b => some (Value.bool b)) (decide_eq_false c1)) ?_
    refine C.skip ?_
    refine N.nx ?_
    refine C.seq ?_
    refine C.rs ?_
    refine J.p rfl rfl rfl rfl (Y.mv rfl) ?_
    refine J.p rfl rfl rfl rfl (Y.lenS Try.underlying25 rfl) ?_
    refine J.p rfl rfl rfl rfl (Y.bin rfl rfl rfl) ?_
    refine J.nx ?_
    refine split2 H (fun c2 H => ?_) (fun c2 H => ?_)
    · refine C.condT (congrArg (fun b => some (Value.bool b)) (decide_eq_true c2)) ?_
      refine C.rs ?_
      refine J.p rfl rfl rfl rfl (Y.mv rfl) ?_
      refine J.p rfl rfl rfl rfl (Y.mv rfl) ?_
      obtain ⟨p3, H⟩ := gd_some H
      refine J.el rfl rfl rfl Try.underlying25 ti5 Try.underlying5 rfl rfl rfl p3 ha1 ?_
      refine J.r rfl rfl rfl rfl (Y.cnt ex45 rfl rfl ha0) ?_
      refine J.p rfl rfl rfl rfl (Y.asg rfl) ?_
      refine J.nx ?_
      refine C.ret ?_
      obtain rfl := Option.some.inj H
      refine T.th ?_
      exact ret_ok (ks := [4]) rfl rfl (fun w h => ⟨rfl, h⟩)
    · refine C.condF (congrArg (fun b => some (Value.bool b)) (decide_eq_false c2)) ?_
      refine C.skip ?_
      refine N.nx ?_
      refine C.rs ?_
      refine J.p rfl rfl rfl rfl (Y.asg rfl) ?_
      refine J.nx ?_
      refine C.blk ?_
      refine C.loop (fun (i : Nat × (Unit) × (Unit)) => [(0, .slice Aa0 a0.length ca0), (1, .slice Aa1 a1.length ca1), (5, .int .i64 0)]) (fun (i : Nat × (Unit) × (Unit)) => G) (fun (i : Nat × (Unit) × (Unit)) => Count.l1 i.1 i.2.1 = some r ∧ (True)) (fun i => i.1) (K, (), ()) ⟨H, trivial⟩ (by exact ⟨rfl, rfl, rfl, trivial⟩) (by exact fun w h => h) ?_
      rintro ⟨k11, i9, j10⟩ ⟨H, _⟩
      replace H : Count.l1 k11 i9 = some r := H
      obtain ⟨k8, rfl⟩ : ∃ m, k11 = m + 1 := by cases k11 with | zero => exact absurd H (by simp [Count.l1]) | succ m => exact ⟨m, rfl⟩
      rw [Count.l1] at H
      refine C.at (s' := [(0, .slice Aa0 a0.length ca0), (1, .slice Aa1 a1.length ca1), (5, .int .i64 0)]) (G' := G) rfl rfl ?_
      refine C.blk ?_
      refine C.rs ?_
      refine J.p rfl rfl rfl rfl (Y.mv rfl) ?_
      refine J.p rfl rfl rfl rfl (Y.mv rfl) ?_
      cases H
/-! ### salvor/escape.Size: function 30 -/
def Size.f (K : Nat) (a0 : List Int) : Option (Int) := (Count.f K a0 [167]).bind fun t3 => (Count.f K a0 [166]).bind fun t7 => some (IntKind.wrap .i64 ((IntKind.wrap .i64 ((a0.length : Int) + t3)) + t7))
theorem Size.calls {B : Nat} {w0 : World} {G : List HP} (K : Nat) (a0 : List Int) (Aa0 : Option Addr) (ca0 : Nat) (ha0 : RdG B w0 G Aa0 (a0.map (Value.int .u8))) (ka0 : a0.length ≤ ca0) (r : Int) (H : Size.f K a0 = some r) (w : World) (hw : St B w0 (G) w) :
    Calls Try.prog 30 [.slice Aa0 a0.length ca0].toArray w (fun e w' => e = .returned (.int .i64 r) ∧ St B w0 (G) w') := by
  unfold Size.f at H
  refine calls_of (n := 13) (s := [(0, .slice Aa0 a0.length ca0)]) Try.func30 rfl rfl rfl rfl ?_ hw
  refine C.rs ?_
  refine J.p rfl rfl rfl rfl (Y.asg rfl) ?_
  refine J.nx ?_
  refine C.rs ?_
  refine J.p rfl rfl rfl rfl (Y.mv rfl) ?_
  refine J.p rfl rfl rfl rfl (Y.lenS Try.underlying25 rfl) ?_
  refine J.p rfl rfl rfl rfl (Y.mv rfl) ?_
  refine J.bsL (enc := (Value.int .u8)) (xs := [167]) rfl Try.underlying25 ti5 rfl rfl rfl rfl rfl (fun A1 => ?_)
  obtain ⟨t3, hC4, H⟩ := bind_some H
  refine J.call (us := []) (cap := []) rfl rfl rfl go42 (fun w hw => Count.calls K a0 [167] Aa0 ca0 A1 1 (ha0.suf [_] rfl) ka0 (RdG.own 0 rfl) (show [167].length ≤ 1 from Nat.le_refl _) t3 hC4 w hw) (fun e w1 h1 => ?_)
  obtain ⟨rfl, hw10⟩ := h1
  refine ⟨_, _, rfl, hw10, ?_⟩
  refine J.p rfl rfl rfl rfl (Y.bin rfl rfl rfl) ?_
  refine J.p rfl rfl rfl rfl (Y.mv rfl) ?_
  refine J.bsL (enc := (Value.int .u8)) (xs := [166]) rfl Try.underlying25 ti5 rfl rfl rfl rfl rfl (fun A5 => ?_)
  obtain ⟨t7, hC8, H⟩ := bind_some H
  refine J.call (us := []) (cap := []) rfl rfl rfl go42 (fun w hw => Count.calls K a0 [166] Aa0 ca0 A5 1 (ha0.suf [_, _] rfl) ka0 (RdG.own 0 rfl) (show [166].length ≤ 1 from Nat.le_refl _) t7 hC8 w hw) (fun e w1 h1 => ?_)
  obtain ⟨rfl, hw9⟩ := h1
  refine ⟨_, _, rfl, hw9, ?_⟩
  refine J.p rfl rfl rfl rfl (Y.bin rfl rfl rfl) ?_
  refine J.p rfl rfl rfl rfl (Y.asg rfl) ?_
  refine J.nx ?_
  refine C.ret ?_
  obtain rfl := Option.some.inj H
  exact ret_ok (ks := [2]) rfl rfl (fun w h => ⟨rfl, (St.pick [] [_, _] h rfl)⟩)
/-! ### salvor/escape.Wrap: function 25 -/
def Wrap.l1 (a0 : List Int) : Nat → ((List Int) × Int) → Option ((List Int))
  | 0, _ => none
  | k + 1, i122 => if i122.2 < (a0.length : Int) then ((gd ((0 : Int) ≤ i122.2 ∧ i122.2 < (a0.length : Int)) (if (rd a0 i122.2) = 167 then (gd ((i122.1.length + [166, 1].length) * 1 ≤ 140737488355328) (some (i122.1 ++ [166, 1]))) else (if (rd a0 i122.2) = 166 then (gd ((i122.1.length + [166, 0].length) * 1 ≤ 140737488355328) (some (i122.1 ++ [166, 0]))) else (gd ((i122.1.length + [rd a0 i122.2].length) * 1 ≤ 140737488355328) (some (i122.1 ++ [rd a0 i122.2])))))).bind fun o149 => Wrap.l1 a0 k (o149, IntKind.wrap .i64 (i122.2 + 1))) else (some i122.1)
def Wrap.f (K : Nat) (a0 : List Int) : Option ((List Int)) := (Size.f K a0).bind fun t1 => gd ((0 : Int) ≤ t1 ∧ ((1 : Nat) : Int) * t1 ≤ 281474976710656) ((Wrap.l1 a0 K (([] : List Int), 0)).bind fun o63 => some o63)
theorem Wrap.calls {B : Nat} {w0 : World} {G : List HP} (K : Nat) (a0 : List Int) (Aa0 : Option Addr) (ca0 : Nat) (ha0 : RdG B w0 G Aa0 (a0.map (Value.int .u8))) (ka0 : a0.length ≤ ca0) (r : (List Int)) (H : Wrap.f K a0 = some r) (w : World) (hw : St B w0 (G) w) :
    Calls Try.prog 25 [.slice Aa0 a0.length ca0].toArray w (fun e w' => ∃ A0 c0, e = .returned (.slice A0 r.length c0) ∧ St B w0 (own 5 1 A0 c0 (r.map (Value.int .u8)) :: G) w') := by
  unfold Wrap.f at H
  refine calls_of (n := 32) (s := [(0, .slice Aa0 a0.length ca0)]) Try.func25 rfl rfl rfl rfl ?_ hw
  refine C.rs ?_
  refine J.p rfl rfl rfl rfl (Y.asg rfl) ?_
  refine J.nx ?_
  refine C.rs ?_
  refine J.p rfl rfl rfl rfl (Y.mv rfl) ?_
  obtain ⟨t1, hC2, H⟩ := bind_some H
  refine J.call (us := []) (cap := []) rfl rfl rfl go30 (fun w hw => Size.calls K a0 Aa0 ca0 ha0 ka0 t1 hC2 w hw) (fun e w1 h1 => ?_)
  obtain ⟨rfl, hw174⟩ := h1
  refine ⟨_, _, rfl, hw174, ?_⟩
  obtain ⟨p4, H⟩ := gd_some H
  refine J.mk0 (enc := (Value.int .u8)) rfl Try.underlying25 ti5 rfl rfl rfl p4 (by decide) (fun A3 => ?_)
  refine J.p rfl rfl rfl rfl (Y.asg rfl) ?_
  refine J.nx ?_
  refine C.seq ?_
  refine C.rs ?_
  refine J.p rfl rfl rfl rfl (Y.mv rfl) ?_
  refine J.p rfl rfl rfl rfl (Y.lenS Try.underlying25 rfl) ?_
  refine J.p rfl rfl rfl rfl (Y.mv rfl) ?_
  refine J.nx ?_
  refine C.joinN H (fun (o63 : (List Int)) (j64 : (Option Addr) × Nat) => [(3, .slice j64.1 o63.length j64.2)]) (fun (o63 : (List Int)) (j64 : (Option Addr) × Nat) => own 5 1 j64.1 j64.2 (o63.map (Value.int .u8)) :: G) (fun (o63 : (List Int)) (j64 : (Option Addr) × Nat) => True) (fun o61 H HK62 => ?_) (fun o63 j64 H _ => ?_)
  · refine C.blk ?_
    refine C.loop (fun (i : Nat × ((List Int) × Int) × ((Option Addr) × Nat)) => [(3, .slice i.2.2.1 i.2.1.1.length i.2.2.2), (9, .slice Aa0 a0.length ca0), (10, .int .i64 (a0.length : Int)), (11, .int .i64 i.2.1.2)]) (fun (i : Nat × ((List Int) × Int) × ((Option Addr) × Nat)) => own 5 1 i.2.2.1 i.2.2.2 (i.2.1.1.map (Value.int .u8)) :: G) (fun (i : Nat × ((List Int) × Int) × ((Option Addr) × Nat)) => Wrap.l1 a0 i.1 i.2.1 = some o61 ∧ (True)) (fun i => i.1) (K, (([] : List Int), 0), (A3, (Int.toNat t1))) ⟨H, trivial⟩ (by exact ⟨rfl, rfl, rfl, rfl, trivial⟩) (by exact fun w h => h) ?_
    rintro ⟨k173, i122, j123⟩ ⟨H, _⟩
    replace H : Wrap.l1 a0 k173 i122 = some o61 := H
    obtain ⟨k121, rfl⟩ : ∃ m, k173 = m + 1 := by cases k173 with | zero => exact absurd H (by simp [Wrap.l1]) | succ m => exact ⟨m, rfl⟩
    rw [Wrap.l1] at H
    refine C.at (s' := [(3, .slice j123.1 i122.1.length j123.2), (9, .slice Aa0 a0.length ca0), (10, .int .i64 (a0.length : Int)), (11, .int .i64 i122.2)]) (G' := own 5 1 j123.1 j123.2 (i122.1.map (Value.int .u8)) :: G) rfl rfl ?_
    refine C.rs ?_
    refine J.p rfl rfl rfl rfl (Y.bin rfl rfl rfl) ?_
    refine J.nx ?_
    refine C.seq ?_
    refine split2 H (fun c125 H => ?_) (fun c125 H => ?_)
    · refine C.condT (congrArg (fun b => some (Value.bool b)) (decide_eq_true c125)) ?_
      refine C.skip ?_
      refine N.nx ?_
      refine C.joinB H (fun (o149 : (List Int)) (j150 : (Option Addr) × Nat) => [(3, .slice j150.1 o149.length j150.2), (9, .slice Aa0 a0.length ca0), (10, .int .i64 (a0.length : Int)), (11, .int .i64 i122.2)]) (fun (o149 : (List Int)) (j150 : (Option Addr) × Nat) => own 5 1 j150.1 j150.2 (o149.map (Value.int .u8)) :: G) (fun (o149 : (List Int)) (j150 : (Option Addr) × Nat) => True) (fun o147 H HK148 => ?_) (fun o149 j150 H _ => ?_)
      · refine C.blk ?_
        refine C.rs ?_
        obtain ⟨p152, H⟩ := gd_some H
        refine J.el rfl rfl rfl Try.underlying25 ti5 Try.underlying5 rfl rfl rfl p152 (ha0.suf [_] rfl) ?_
        refine J.p rfl rfl rfl rfl (Y.asg rfl) ?_
        refine J.nx ?_
        refine C.rs ?_
        refine J.p rfl rfl rfl rfl (Y.mv rfl) ?_
        refine J.nx ?_
        refine C.blk ?_
        refine C.rs ?_
        refine J.p rfl rfl rfl rfl (Y.bin rfl rfl rfl) ?_
        refine J.p rfl rfl rfl rfl (Y.asg rfl) ?_
        refine J.nx ?_
        refine split2 H (fun c153 H => ?_) (fun c153 H => ?_)
        · refine C.condT (congrArg (fun b => some (Value.bool b)) (decide_eq_true c153)) ?_
          refine C.reg ?_
          refine J.p rfl rfl rfl rfl (Y.mv rfl) ?_
          refine J.bsL (enc := (Value.int .u8)) (xs := [166, 1]) rfl Try.underlying25 ti5 rfl rfl rfl rfl rfl (fun A154 => ?_)
          refine J.pull 1 rfl rfl ?_
          obtain ⟨p158, H⟩ := gd_some H
          refine J.appL (enc := (Value.int .u8)) (xs := i122.1) (ys := [166, 1]) rfl Try.underlying25 ti5 rfl (by decide) rfl rfl (fun _ => rfl) (RdG.own 1 rfl) p158 (fun A156 c157 => ?_)
          refine J.pull 1 rfl rfl (J.drop ?_)
          refine J.p rfl rfl rfl rfl (Y.asg rfl) ?_
          refine J.nil ?_
          refine N.ib ?_
          refine N.ib ?_
          obtain rfl := Option.some.inj H
          exact N.meet ((i122.1 ++ [166, 1]), (A156, c157)) ⟨HK148, trivial⟩ (by exact ⟨rfl, rfl, rfl, rfl, trivial⟩) (by exact fun w h => h)
        · refine C.condF (congrArg (fun b => some (Value.bool b)) (decide_eq_false c153)) ?_
          refine C.rs ?_
          refine J.p rfl rfl rfl rfl (Y.bin rfl rfl rfl) ?_
          refine J.p rfl rfl rfl rfl (Y.asg rfl) ?_
          refine J.nx ?_
          refine split2 H (fun c160 H => ?_) (fun c160 H => ?_)
          · refine C.condT (congrArg (fun b => some (Value.bool b)) (decide_eq_true c160)) ?_
            refine C.reg ?_
            refine J.p rfl rfl rfl rfl (Y.mv rfl) ?_
            refine J.bsL (enc := (Value.int .u8)) (xs := [166, 0]) rfl Try.underlying25 ti5 rfl rfl rfl rfl rfl (fun A161 => ?_)
            refine J.pull 1 rfl rfl ?_
            obtain ⟨p165, H⟩ := gd_some H
            refine J.appL (enc := (Value.int .u8)) (xs := i122.1) (ys := [166, 0]) rfl Try.underlying25 ti5 rfl (by decide) rfl rfl (fun _ => rfl) (RdG.own 1 rfl) p165 (fun A163 c164 => ?_)
            refine J.pull 1 rfl rfl (J.drop ?_)
            refine J.p rfl rfl rfl rfl (Y.asg rfl) ?_
            refine J.nil ?_
            refine N.ib ?_
            refine N.ib ?_
            obtain rfl := Option.some.inj H
            exact N.meet ((i122.1 ++ [166, 0]), (A163, c164)) ⟨HK148, trivial⟩ (by exact ⟨rfl, rfl, rfl, rfl, trivial⟩) (by exact fun w h => h)
          · refine C.condF (congrArg (fun b => some (Value.bool b)) (decide_eq_false c160)) ?_
            refine C.reg ?_
            refine J.p rfl rfl rfl rfl (Y.mv rfl) ?_
            refine J.p rfl rfl rfl rfl (Y.mv rfl) ?_
            refine J.bsL (enc := (Value.int .u8)) (xs := [rd a0 i122.2]) rfl Try.underlying25 ti5 rfl rfl rfl rfl rfl (fun A167 => ?_)
            refine J.pull 1 rfl rfl ?_
            obtain ⟨p171, H⟩ := gd_some H
            refine J.appL (enc := (Value.int .u8)) (xs := i122.1) (ys := [rd a0 i122.2]) rfl Try.underlying25 ti5 rfl (by decide) rfl rfl (fun _ => rfl) (RdG.own 1 rfl) p171 (fun A169 c170 => ?_)
            refine J.pull 1 rfl rfl (J.drop ?_)
            refine J.p rfl rfl rfl rfl (Y.asg rfl) ?_
            refine J.nil ?_
            refine N.ib ?_
            refine N.ib ?_
            obtain rfl := Option.some.inj H
            exact N.meet ((i122.1 ++ [rd a0 i122.2]), (A169, c170)) ⟨HK148, trivial⟩ (by exact ⟨rfl, rfl, rfl, rfl, trivial⟩) (by exact fun w h => h)
      · refine C.at (s' := [(3, .slice j150.1 o149.length j150.2), (9, .slice Aa0 a0.length ca0), (10, .int .i64 (a0.length : Int)), (11, .int .i64 i122.2)]) (G' := own 5 1 j150.1 j150.2 (o149.map (Value.int .u8)) :: G) rfl rfl ?_
        refine C.reg ?_
        refine J.p rfl rfl rfl rfl (Y.bin rfl rfl rfl) ?_
        refine J.p rfl rfl rfl rfl (Y.mv rfl) ?_
        refine J.nil ?_
        exact N.again (k121, (o149, IntKind.wrap .i64 (i122.2 + 1)), (j150.1, j150.2)) ⟨H, trivial⟩ (Nat.lt_succ_self _) (by exact ⟨rfl, rfl, rfl, rfl, trivial⟩) (by exact fun w h => h)
    · refine C.condF (congrArg (fun b => some (Value.bool b)) (decide_eq_false c125)) ?_
      refine C.exit ?_
      refine X.th ?_
      refine X.th ?_
      refine X.hit ?_
      obtain rfl := Option.some.inj H
      exact N.meet (i122.1, (j123.1, j123.2)) ⟨HK62, trivial⟩ (by exact ⟨rfl, trivial⟩) (by exact fun w h => h)
  · refine N.at (s' := [(3, .slice j64.1 o63.length j64.2)]) (G' := own 5 1 j64.1 j64.2 (o63.map (Value.int .u8)) :: G) rfl rfl ?_
    refine N.nx ?_
    refine C.rs ?_
    refine J.p rfl rfl rfl rfl (Y.mv rfl) ?_
    refine J.p rfl rfl rfl rfl (Y.asg rfl) ?_
    refine J.nx ?_
    refine C.ret ?_
    obtain rfl := Option.some.inj H
    exact ret_ok (ks := [2]) rfl rfl (fun w h => ⟨j64.1, j64.2, rfl, h⟩)
/-! ### salvor/escape.Open: function 29 -/
def Open.l1 (a0 : List Int) : Nat → ((List Int) × Int) → Option (((List Int) × Int × Int) ⊕ ((List Int)))
  | 0, _ => none
  | k + 1, i68 => if i68.2 < (a0.length : Int) then ((one.f a0 i68.2).bind fun t72 => if t72.2.2 ≠ 0 then (some (.inl ((([] : List Int), t72.2.2, i68.2)))) else (gd ((i68.1.length + [t72.1].length) * 1 ≤ 140737488355328) (Open.l1 a0 k ((i68.1 ++ [t72.1]), IntKind.wrap .i64 (i68.2 + t72.2.1))))) else (some (.inr i68.1))
def Open.f (K : Nat) (a0 : List Int) : Option ((List Int) × Int × Int) := gd ((0 : Int) ≤ (a0.length : Int) ∧ ((1 : Nat) : Int) * (a0.length : Int) ≤ 281474976710656) (thn (Open.l1 a0 K (([] : List Int), 0)) fun o35 => some (o35, 0, 0))
theorem Open.calls {B : Nat} {w0 : World} {G : List HP} (K : Nat) (a0 : List Int) (Aa0 : Option Addr) (ca0 : Nat) (ha0 : RdG B w0 G Aa0 (a0.map (Value.int .u8))) (ka0 : a0.length ≤ ca0) (r : (List Int) × Int × Int) (H : Open.f K a0 = some r) (w : World) (hw : St B w0 (G) w) :
    Calls Try.prog 29 [.slice Aa0 a0.length ca0].toArray w (fun e w' => ∃ A0 c0, e = .returned (.tuple #[.slice A0 r.1.length c0, .int .i64 r.2.1, .int .i64 r.2.2]) ∧ St B w0 (own 5 1 A0 c0 (r.1.map (Value.int .u8)) :: G) w') := by
  unfold Open.f at H
  refine calls_of (n := 36) (s := [(0, .slice Aa0 a0.length ca0)]) Try.func29 rfl rfl rfl rfl ?_ hw
  refine C.rs ?_
  refine J.p rfl rfl rfl rfl (Y.asg rfl) ?_
  refine J.p rfl rfl rfl rfl (Y.asg rfl) ?_
  refine J.p rfl rfl rfl rfl (Y.asg rfl) ?_
  refine J.nx ?_
  refine C.rs ?_
  refine J.p rfl rfl rfl rfl (Y.mv rfl) ?_
  refine J.p rfl rfl rfl rfl (Y.lenS Try.underlying25 rfl) ?_
  obtain ⟨p2, H⟩ := gd_some H
  refine J.mk0 (enc := (Value.int .u8)) rfl Try.underlying25 ti5 rfl rfl rfl p2 (by decide) (fun A1 => ?_)
  refine J.p rfl rfl rfl rfl (Y.asg rfl) ?_
  refine J.nx ?_
  refine C.seq ?_
  refine C.rs ?_
  refine J.p rfl rfl rfl rfl (Y.asg rfl) ?_
  refine J.nx ?_
  refine C.joinNR H (fun (o35 : (List Int)) (j36 : (Option Addr) × Nat) => [(5, .slice j36.1 o35.length j36.2)]) (fun (o35 : (List Int)) (j36 : (Option Addr) × Nat) => own 5 1 j36.1 j36.2 (o35.map (Value.int .u8)) :: G) (fun (o35 : (List Int)) (j36 : (Option Addr) × Nat) => True) (fun o33 H HK34 => ?_) (fun o35 j36 H _ => ?_)
  · refine C.blk ?_
    refine C.loop (fun (i : Nat × ((List Int) × Int) × ((Option Addr) × Nat)) => [(0, .slice Aa0 a0.length ca0), (5, .slice i.2.2.1 i.2.1.1.length i.2.2.2), (6, .int .i64 i.2.1.2)]) (fun (i : Nat × ((List Int) × Int) × ((Option Addr) × Nat)) => own 5 1 i.2.2.1 i.2.2.2 (i.2.1.1.map (Value.int .u8)) :: G) (fun (i : Nat × ((List Int) × Int) × ((Option Addr) × Nat)) => Open.l1 a0 i.1 i.2.1 = some o33 ∧ (True)) (fun i => i.1) (K, (([] : List Int), 0), (A1, (Int.toNat (a0.length : Int)))) ⟨H, trivial⟩ (by exact ⟨rfl, rfl, rfl, trivial⟩) (by exact fun w h => h) ?_
    rintro ⟨k83, i68, j69⟩ ⟨H, _⟩
    replace H : Open.l1 a0 k83 i68 = some o33 := H
    obtain ⟨k67, rfl⟩ : ∃ m, k83 = m + 1 := by cases k83 with | zero => exact absurd H (by simp [Open.l1]) | succ m => exact ⟨m, rfl⟩
    rw [Open.l1] at H
    refine C.at (s' := [(0, .slice Aa0 a0.length ca0), (5, .slice j69.1 i68.1.length j69.2), (6, .int .i64 i68.2)]) (G' := own 5 1 j69.1 j69.2 (i68.1.map (Value.int .u8)) :: G) rfl rfl ?_
    refine C.seq ?_
    refine C.rs ?_
    refine J.p rfl rfl rfl rfl (Y.mv rfl) ?_
    refine J.p rfl rfl rfl rfl (Y.mv rfl) ?_
    refine J.p rfl rfl rfl rfl (Y.lenS Try.underlying25 rfl) ?_
    refine J.p rfl rfl rfl rfl (Y.bin rfl rfl rfl) ?_
    refine J.nx ?_
    refine split2 H (fun c71 H => ?_) (fun c71 H => ?_)
    · refine C.condT (congrArg (fun b => some (Value.bool b)) (decide_eq_true c71)) ?_
      refine C.skip ?_
      refine N.nx ?_
      refine C.blk ?_
      refine C.rs ?_
      refine J.p rfl rfl rfl rfl (Y.mv rfl) ?_
      refine J.p rfl rfl rfl rfl (Y.mv rfl) ?_
      obtain ⟨t72, hC73, H⟩ := bind_some H
      refine J.call (us := []) (cap := []) rfl rfl rfl go41 (fun w hw => one.calls a0 i68.2 Aa0 ca0 (ha0.suf [_] rfl) ka0 t72 hC73 w hw) (fun e w1 h1 => ?_)
      obtain ⟨rfl, hw82⟩ := h1
      refine ⟨_, _, rfl, hw82, ?_⟩
      refine J.p rfl rfl rfl rfl (Y.mv rfl) ?_
      refine J.p rfl rfl rfl rfl (Y.ext rfl rfl) ?_
      refine J.p rfl rfl rfl rfl (Y.ext rfl rfl) ?_
      refine J.p rfl rfl rfl rfl (Y.ext rfl rfl) ?_
      refine J.p rfl rfl rfl rfl (Y.asg rfl) ?_
      refine J.p rfl rfl rfl rfl (Y.asg rfl) ?_
      refine J.p rfl rfl rfl rfl (Y.asg rfl) ?_
      refine J.nx ?_
      refine C.seq ?_
      refine C.rs ?_
      refine J.p rfl rfl rfl rfl (Y.mv rfl) ?_
      refine J.p rfl rfl rfl rfl (Y.bin rfl rfl rfl) ?_
      refine J.nx ?_
      refine split2 H (fun c74 H => ?_) (fun c74 H => ?_)
      · refine C.condT (congrArg (fun b => some (Value.bool b)) (decide_eq_true c74)) ?_
        refine C.rs ?_
        refine J.p rfl rfl rfl rfl (Y.mv rfl) ?_
        refine J.p rfl rfl rfl rfl (Y.mv rfl) ?_
        refine J.p rfl rfl rfl rfl (Y.asg rfl) ?_
        refine J.p rfl rfl rfl rfl (Y.asg rfl) ?_
        refine J.p rfl rfl rfl rfl (Y.asg rfl) ?_
        refine J.nx ?_
        refine C.ret ?_
        obtain rfl := Option.some.inj H
        obtain rfl := fin_inl HK34
        refine T.th ?_
        refine T.ib ?_
        refine T.th ?_
        refine T.ib ?_
        refine T.th ?_
        refine T.th ?_
        exact ret_ok (ks := [2, 3, 4]) rfl rfl (fun w h => ⟨none, 0, rfl, (St.pick [0] [_, _] (h.nilOwn 5 1) rfl)⟩)
      · refine C.condF (congrArg (fun b => some (Value.bool b)) (decide_eq_false c74)) ?_
        refine C.skip ?_
        refine N.nx ?_
        refine C.rs ?_
        refine J.p rfl rfl rfl rfl (Y.mv rfl) ?_
        refine J.p rfl rfl rfl rfl (Y.mv rfl) ?_
        refine J.bsL (enc := (Value.int .u8)) (xs := [t72.1]) rfl Try.underlying25 ti5 rfl rfl rfl rfl rfl (fun A76 => ?_)
        refine J.pull 1 rfl rfl ?_
        obtain ⟨p80, H⟩ := gd_some H
        refine J.appL (enc := (Value.int .u8)) (xs := i68.1) (ys := [t72.1]) rfl Try.underlying25 ti5 rfl (by decide) rfl rfl (fun _ => rfl) (RdG.own 1 rfl) p80 (fun A78 c79 => ?_)
        refine J.pull 1 rfl rfl (J.drop ?_)
        refine J.p rfl rfl rfl rfl (Y.asg rfl) ?_
        refine J.nx ?_
        refine C.reg ?_
        refine J.p rfl rfl rfl rfl (Y.mv rfl) ?_
        refine J.p rfl rfl rfl rfl (Y.mv rfl) ?_
        refine J.p rfl rfl rfl rfl (Y.bin rfl rfl rfl) ?_
        refine J.p rfl rfl rfl rfl (Y.asg rfl) ?_
        refine J.nil ?_
        refine N.ib ?_
        exact N.again (k67, ((i68.1 ++ [t72.1]), IntKind.wrap .i64 (i68.2 + t72.2.1)), (A78, c79)) ⟨H, trivial⟩ (Nat.lt_succ_self _) (by exact ⟨rfl, rfl, rfl, trivial⟩) (by exact fun w h => h)
    · refine C.condF (congrArg (fun b => some (Value.bool b)) (decide_eq_false c71)) ?_
      refine C.exit ?_
      refine X.th ?_
      refine X.th ?_
      refine X.hit ?_
      obtain rfl := Option.some.inj H
      exact N.meet (i68.1, (j69.1, j69.2)) ⟨fin_inr HK34, trivial⟩ (by exact ⟨rfl, trivial⟩) (by exact fun w h => h)
  · refine N.at (s' := [(5, .slice j36.1 o35.length j36.2)]) (G' := own 5 1 j36.1 j36.2 (o35.map (Value.int .u8)) :: G) rfl rfl ?_
    refine N.nx ?_
    refine C.rs ?_
    refine J.p rfl rfl rfl rfl (Y.mv rfl) ?_
    refine J.p rfl rfl rfl rfl (Y.asg rfl) ?_
    refine J.p rfl rfl rfl rfl (Y.asg rfl) ?_
    refine J.p rfl rfl rfl rfl (Y.asg rfl) ?_
    refine J.nx ?_
    refine C.ret ?_
    obtain rfl := Option.some.inj H
    exact ret_ok (ks := [2, 3, 4]) rfl rfl (fun w h => ⟨j36.1, j36.2, rfl, h⟩)
/-! ### salvor/salvorlaw3.room: function 15 -/
def room.l1 : Nat → ((List Int) × Int) → Option ((List Int))
  | 0, _ => none
  | k + 1, i40 => if i40.2 < (i40.1.length : Int) then (gd ((0 : Int) ≤ i40.2 ∧ i40.2 < (i40.1.length : Int)) (gd ((0 : Int) ≤ i40.2 ∧ i40.2 < (i40.1.length : Int)) (room.l1 k ((i40.1.set (Int.toNat i40.2) 238), IntKind.wrap .i64 (i40.2 + 1))))) else (some i40.1)
def room.f (K : Nat) (a0 : List Int) : Option ((List Int)) := gd ((0 : Int) ≤ (IntKind.wrap .i64 ((a0.length : Int) + 8)) ∧ (IntKind.wrap .i64 ((a0.length : Int) + 8) : Int) ≤ (IntKind.wrap .i64 ((a0.length : Int) + 8)) ∧ ((1 : Nat) : Int) * (IntKind.wrap .i64 ((a0.length : Int) + 8)) ≤ 281474976710656) ((room.l1 K ((a0.take (List.replicate (Int.toNat (IntKind.wrap .i64 ((a0.length : Int) + 8))) (0 : Int)).length ++ (List.replicate (Int.toNat (IntKind.wrap .i64 ((a0.length : Int) + 8))) (0 : Int)).drop (min a0.length (List.replicate (Int.toNat (IntKind.wrap .i64 ((a0.length : Int) + 8))) (0 : Int)).length)), (a0.length : Int))).bind fun o21 => some o21)
theorem room.calls {B : Nat} {w0 : World} {G : List HP} (K : Nat) (a0 : List Int) (Aa0 : Option Addr) (ca0 : Nat) (ha0 : RdG B w0 G Aa0 (a0.map (Value.int .u8))) (ka0 : a0.length ≤ ca0) (r : (List Int)) (H : room.f K a0 = some r) (w : World) (hw : St B w0 (G) w) :
    Calls Try.prog 15 [.slice Aa0 a0.length ca0].toArray w (fun e w' => ∃ A0 c0, e = .returned (.slice A0 r.length c0) ∧ St B w0 (own 5 1 A0 c0 (r.map (Value.int .u8)) :: G) w') := by
  unfold room.f at H
  refine calls_of (n := 24) (s := [(0, .slice Aa0 a0.length ca0)]) Try.func15 rfl rfl rfl rfl ?_ hw
  refine C.rs ?_
  refine J.p rfl rfl rfl rfl (Y.asg rfl) ?_
  refine J.nx ?_
  refine C.rs ?_
  refine J.p rfl rfl rfl rfl (Y.mv rfl) ?_
  refine J.p rfl rfl rfl rfl (Y.lenS Try.underlying25 rfl) ?_
  refine J.p rfl rfl rfl rfl (Y.bin rfl rfl rfl) ?_
  obtain ⟨p2, H⟩ := gd_some H
  refine J.mkL (enc := (Value.int .u8)) (z := 0) rfl Try.underlying25 ti5 rfl rfl rfl p2 (by decide) (fun A1 => ?_)
  refine J.p rfl rfl rfl rfl (Y.asg rfl) ?_
  refine J.nx ?_
  refine C.rs ?_
  refine J.p rfl rfl rfl rfl (Y.mv rfl) ?_
  refine J.p rfl rfl rfl rfl (Y.mv rfl) ?_
  refine J.cpyL (enc := (Value.int .u8)) rfl Try.underlying25 ti5 rfl rfl (fun _ => rfl) (ha0.suf [_] rfl) ?_
  refine J.as (k := 3) rfl (copy_len a0 (List.replicate (Int.toNat (IntKind.wrap .i64 ((a0.length : Int) + 8))) (0 : Int))) ?_
  refine J.nx ?_
  refine C.seq ?_
  refine C.rs ?_
  refine J.p rfl rfl rfl rfl (Y.mv rfl) ?_
  refine J.p rfl rfl rfl rfl (Y.lenS Try.underlying25 rfl) ?_
  refine J.p rfl rfl rfl rfl (Y.asg rfl) ?_
  refine J.nx ?_
  refine C.joinN H (fun (o21 : (List Int)) (j22 : (Option Addr) × Nat) => [(3, .slice j22.1 o21.length j22.2)]) (fun (o21 : (List Int)) (j22 : (Option Addr) × Nat) => own 5 1 j22.1 j22.2 (o21.map (Value.int .u8)) :: G) (fun (o21 : (List Int)) (j22 : (Option Addr) × Nat) => True) (fun o19 H HK20 => ?_) (fun o21 j22 H _ => ?_)
  · refine C.blk ?_
    refine C.loop (fun (i : Nat × ((List Int) × Int) × ((Option Addr) × Nat)) => [(3, .slice i.2.2.1 i.2.1.1.length i.2.2.2), (4, .int .i64 i.2.1.2)]) (fun (i : Nat × ((List Int) × Int) × ((Option Addr) × Nat)) => own 5 1 i.2.2.1 i.2.2.2 (i.2.1.1.map (Value.int .u8)) :: G) (fun (i : Nat × ((List Int) × Int) × ((Option Addr) × Nat)) => room.l1 i.1 i.2.1 = some o19 ∧ (True)) (fun i => i.1) (K, ((a0.take (List.replicate (Int.toNat (IntKind.wrap .i64 ((a0.length : Int) + 8))) (0 : Int)).length ++ (List.replicate (Int.toNat (IntKind.wrap .i64 ((a0.length : Int) + 8))) (0 : Int)).drop (min a0.length (List.replicate (Int.toNat (IntKind.wrap .i64 ((a0.length : Int) + 8))) (0 : Int)).length)), (a0.length : Int)), (A1, (Int.toNat (IntKind.wrap .i64 ((a0.length : Int) + 8))))) ⟨H, trivial⟩ (by exact ⟨rfl, rfl, trivial⟩) (by exact fun w h => h) ?_
    rintro ⟨k48, i40, j41⟩ ⟨H, _⟩
    replace H : room.l1 k48 i40 = some o19 := H
    obtain ⟨k39, rfl⟩ : ∃ m, k48 = m + 1 := by cases k48 with | zero => exact absurd H (by simp [room.l1]) | succ m => exact ⟨m, rfl⟩
    rw [room.l1] at H
    refine C.at (s' := [(3, .slice j41.1 i40.1.length j41.2), (4, .int .i64 i40.2)]) (G' := own 5 1 j41.1 j41.2 (i40.1.map (Value.int .u8)) :: G) rfl rfl ?_
    refine C.seq ?_
    refine C.rs ?_
    refine J.p rfl rfl rfl rfl (Y.mv rfl) ?_
    refine J.p rfl rfl rfl rfl (Y.mv rfl) ?_
    refine J.p rfl rfl rfl rfl (Y.lenS Try.underlying25 rfl) ?_
    refine J.p rfl rfl rfl rfl (Y.bin rfl rfl rfl) ?_
    refine J.nx ?_
    refine split2 H (fun c43 H => ?_) (fun c43 H => ?_)
    · refine C.condT (congrArg (fun b => some (Value.bool b)) (decide_eq_true c43)) ?_
      refine C.skip ?_
      refine N.nx ?_
      refine C.seq ?_
      refine C.blk ?_
      refine C.reg ?_
      refine J.p rfl rfl rfl rfl (Y.mv rfl) ?_
      refine J.p rfl rfl rfl rfl (Y.mv rfl) ?_
      obtain ⟨p46, H⟩ := gd_some H
      refine J.know ((RdG.own 0 rfl).some_ (j := Int.toNat i40.2) (by rw [List.length_map]; exact idx_lt p46)) (fun hh => ?_)
      obtain ⟨a44, ha45⟩ := hh
      refine J.p rfl rfl rfl rfl (Y.ixa Try.underlying25 ti5 rfl rfl p46 ha45) ?_
      obtain ⟨p47, H⟩ := gd_some H
      refine J.stoL (enc := (Value.int .u8)) ti5 ha45 rfl rfl rfl p47 ?_
      refine J.as (k := 3) rfl (set_len i40.1 (Int.toNat i40.2) 238) ?_
      refine J.nil ?_
      refine N.ib ?_
      refine N.nx ?_
      refine C.reg ?_
      refine J.p rfl rfl rfl rfl (Y.mv rfl) ?_
      refine J.p rfl rfl rfl rfl (Y.bin rfl rfl rfl) ?_
      refine J.p rfl rfl rfl rfl (Y.asg rfl) ?_
      refine J.nil ?_
      exact N.again (k39, ((i40.1.set (Int.toNat i40.2) 238), IntKind.wrap .i64 (i40.2 + 1)), (j41.1, j41.2)) ⟨H, trivial⟩ (Nat.lt_succ_self _) (by exact ⟨rfl, rfl, trivial⟩) (by exact fun w h => h)
    · refine C.condF (congrArg (fun b => some (Value.bool b)) (decide_eq_false c43)) ?_
      refine C.exit ?_
      refine X.th ?_
      refine X.th ?_
      refine X.hit ?_
      obtain rfl := Option.some.inj H
      exact N.meet (i40.1, (j41.1, j41.2)) ⟨HK20, trivial⟩ (by exact ⟨rfl, trivial⟩) (by exact fun w h => h)
  · refine N.at (s' := [(3, .slice j22.1 o21.length j22.2)]) (G' := own 5 1 j22.1 j22.2 (o21.map (Value.int .u8)) :: G) rfl rfl ?_
    refine N.nx ?_
    refine C.rs ?_
    refine J.p rfl rfl rfl rfl (Y.mv rfl) ?_
    refine J.p rfl rfl rfl rfl (Y.asg rfl) ?_
    refine J.nx ?_
    refine C.ret ?_
    obtain rfl := Option.some.inj H
    exact ret_ok (ks := [2]) rfl rfl (fun w h => ⟨j22.1, j22.2, rfl, h⟩)
/-! ### salvor/salvorlaw3.whole: function 17 -/
def whole.l1 (a0 : List Int) (a1 : List Int) : Nat → (Int) → Option ((Bool) ⊕ (Unit))
  | 0, _ => none
  | k + 1, i110 => if i110 < (a0.length : Int) then ((if i110 < (a1.length : Int) then (gd ((0 : Int) ≤ i110 ∧ i110 < (a0.length : Int)) (gd ((0 : Int) ≤ i110 ∧ i110 < (a0.length : Int)) (gd ((0 : Int) ≤ i110 ∧ i110 < (a1.length : Int)) (gd ((0 : Int) ≤ i110 ∧ i110 < (a1.length : Int)) (if (rd a0 i110) ≠ (rd a1 i110) then (some true) else (if (a1.length : Int) ≤ i110 then (gd ((0 : Int) ≤ i110 ∧ i110 < (a0.length : Int)) (gd ((0 : Int) ≤ i110 ∧ i110 < (a0.length : Int)) (some (decide ((rd a0 i110) ≠ 238))))) else (some false))))))) else (if (a1.length : Int) ≤ i110 then (gd ((0 : Int) ≤ i110 ∧ i110 < (a0.length : Int)) (gd ((0 : Int) ≤ i110 ∧ i110 < (a0.length : Int)) (some (decide ((rd a0 i110) ≠ 238))))) else (some false))).bind fun o135 => if o135 = true then (some (.inl (false))) else (whole.l1 a0 a1 k (IntKind.wrap .i64 (i110 + 1)))) else (some (.inr ()))
def whole.f (K : Nat) (a0 : List Int) (a1 : List Int) : Option (Bool) := thn (whole.l1 a0 a1 K 0) fun o55 => some true
theorem whole.calls {B : Nat} {w0 : World} {G : List HP} (K : Nat) (a0 : List Int) (a1 : List Int) (Aa0 : Option Addr) (ca0 : Nat) (Aa1 : Option Addr) (ca1 : Nat) (ha0 : RdG B w0 G Aa0 (a0.map (Value.int .u8))) (ka0 : a0.length ≤ ca0) (ha1 : RdG B w0 G Aa1 (a1.map (Value.int .u8))) (ka1 : a1.length ≤ ca1) (r : Bool) (H : whole.f K a0 a1 = some r) (w : World) (hw : St B w0 (G) w) :
    Calls Try.prog 17 [.slice Aa0 a0.length ca0, .slice Aa1 a1.length ca1].toArray w (fun e w' => e = .returned (.bool r) ∧ St B w0 (G) w') := by
  unfold whole.f at H
  refine calls_of (n := 40) (s := [(0, .slice Aa0 a0.length ca0), (1, .slice Aa1 a1.length ca1)]) Try.func17 rfl rfl rfl rfl ?_ hw
  refine C.rs ?_
  refine J.p rfl rfl rfl rfl (Y.asg rfl) ?_
  refine J.nx ?_
  refine C.seq ?_
  refine C.rs ?_
  refine J.p rfl rfl rfl rfl (Y.asg rfl) ?_
  refine J.nx ?_
  refine C.joinNR H (fun (o55 : Unit) (j56 : Unit) => []) (fun (o55 : Unit) (j56 : Unit) => G) (fun (o55 : Unit) (j56 : Unit) => True) (fun o53 H HK54 => ?_) (fun o55 j56 H _ => ?_)
  · refine C.blk ?_
    refine C.loop (fun (i : Nat × (Int) × (Unit)) => [(0, .slice Aa0 a0.length ca0), (1, .slice Aa1 a1.length ca1), (5, .int .i64 i.2.1)]) (fun (i : Nat × (Int) × (Unit)) => G) (fun (i : Nat × (Int) × (Unit)) => whole.l1 a0 a1 i.1 i.2.1 = some o53 ∧ (True)) (fun i => i.1) (K, 0, ()) ⟨H, trivial⟩ (by exact ⟨rfl, rfl, rfl, trivial⟩) (by exact fun w h => h) ?_
    rintro ⟨k158, i110, j111⟩ ⟨H, _⟩
    replace H : whole.l1 a0 a1 k158 i110 = some o53 := H
    obtain ⟨k109, rfl⟩ : ∃ m, k158 = m + 1 := by cases k158 with | zero => exact absurd H (by simp [whole.l1]) | succ m => exact ⟨m, rfl⟩
    rw [whole.l1] at H
    refine C.at (s' := [(0, .slice Aa0 a0.length ca0), (1, .slice Aa1 a1.length ca1), (5, .int .i64 i110)]) (G' := G) rfl rfl ?_
    refine C.seq ?_
    refine C.rs ?_
    refine J.p rfl rfl rfl rfl (Y.mv rfl) ?_
    refine J.p rfl rfl rfl rfl (Y.mv rfl) ?_
    refine J.p rfl rfl rfl rfl (Y.lenS Try.underlying25 rfl) ?_
    refine J.p rfl rfl rfl rfl (Y.bin rfl rfl rfl) ?_
    refine J.nx ?_
    refine split2 H (fun c112 H => ?_) (fun c112 H => ?_)
    · refine C.condT (congrArg (fun b => some (Value.bool b)) (decide_eq_true c112)) ?_
      refine C.skip ?_
      refine N.nx ?_
      refine C.seq ?_
      refine C.blk ?_
      refine C.joinB H (fun (o135 : Bool) (j136 : Unit) => [(0, .slice Aa0 a0.length ca0), (1, .slice Aa1 a1.length ca1), (5, .int .i64 i110), (39, .bool o135)]) (fun (o135 : Bool) (j136 : Unit) => G) (fun (o135 : Bool) (j136 : Unit) => True) (fun o133 H HK134 => ?_) (fun o135 j136 H _ => ?_)
      · refine C.drawn (fuel := 28) (ls := [false, false, false, false, false, false, false, false, false, false, false, false, false, false, false, false, false, false, false, false, false, false, false, false, false, false, false, false]) [] (G) mx rfl rfl ?_
        refine D.p (ls' := [true, false, false, false, false, false, false, false, false, false, false, false, false, false, false, false, false, false, false, false, false, false, false, false, false, false, false, false]) 0 rfl rfl rfl rfl (by kernel_rfl) rfl (Y.mv rfl) ?_
        refine D.p (ls' := [true, true, false, false, false, false, false, false, false, false, false, false, false, false, false, false, false, false, false, false, false, false, false, false, false, false, false, false]) 1 rfl rfl rfl rfl (by kernel_rfl) rfl (Y.mv rfl) ?_
        refine D.p (ls' := [true, true, true, false, false, false, false, false, false, false, false, false, false, false, false, false, false, false, false, false, false, false, false, false, false, false, false, false]) 2 rfl rfl rfl rfl (by kernel_rfl) rfl (Y.lenS Try.underlying25 rfl) ?_
        refine D.p (ls' := [true, true, true, true, false, false, false, false, false, false, false, false, false, false, false, false, false, false, false, false, false, false, false, false, false, false, false, false]) 3 rfl rfl rfl rfl (by kernel_rfl) rfl (Y.bin rfl rfl rfl) ?_
        refine D.p (ls' := [true, true, true, true, true, false, false, false, false, false, false, false, false, false, false, false, false, false, false, false, false, false, false, false, false, false, false, false]) 4 rfl rfl rfl rfl (by kernel_rfl) rfl (Y.mv rfl) ?_
        refine split2 H (fun c137 H => ?_) (fun c137 H => ?_)
        · refine D.as (k := 16) rfl (congrArg Value.bool (decide_eq_true c137)) ?_
          refine D.p (ls' := [true, true, true, true, true, true, false, false, false, false, false, false, false, false, false, false, false, false, false, false, false, false, false, false, false, false, false, false]) 5 rfl rfl rfl rfl (by kernel_rfl) rfl (Y.mv rfl) ?_
          refine D.p (ls' := [true, true, true, true, true, true, true, false, false, false, false, false, false, false, false, false, false, false, false, false, false, false, false, false, false, false, false, false]) 6 rfl rfl rfl rfl (by kernel_rfl) rfl (Y.mv rfl) ?_
          obtain ⟨p140, H⟩ := gd_some H
          refine D.know (ha0.some_ (j := Int.toNat i110) (by rw [List.length_map]; exact idx_lt p140)) (fun hh => ?_)
          obtain ⟨a138, ha139⟩ := hh
          refine D.p (ls' := [true, true, true, true, true, true, true, true, false, false, false, false, false, false, false, false, false, false, false, false, false, false, false, false, false, false, false, false]) 7 rfl rfl rfl rfl (by kernel_rfl) rfl (Y.ixa Try.underlying25 ti5 rfl rfl p140 ha139) ?_
          obtain ⟨p141, H⟩ := gd_some H
          refine D.r (ls' := [true, true, true, true, true, true, true, true, true, false, false, false, false, false, false, false, false, false, false, false, false, false, false, false, false, false, false, false]) 8 1 0 rfl rfl rfl rfl (by kernel_rfl) (by kernel_rfl) rfl rfl (Y.ldE Try.underlying5 rfl rfl ha139 p141 ha0) ?_
          refine D.p (ls' := [true, true, true, true, true, true, true, true, true, true, false, false, false, false, false, false, false, false, false, false, false, false, false, false, false, false, false, false]) 9 rfl rfl rfl rfl (by kernel_rfl) rfl (Y.mv rfl) ?_
          refine D.p (ls' := [true, true, true, true, true, true, true, true, true, true, true, false, false, false, false, false, false, false, false, false, false, false, false, false, false, false, false, false]) 10 rfl rfl rfl rfl (by kernel_rfl) rfl (Y.mv rfl) ?_
          obtain ⟨p144, H⟩ := gd_some H
          refine D.know (ha1.some_ (j := Int.toNat i110) (by rw [List.length_map]; exact idx_lt p144)) (fun hh => ?_)
          obtain ⟨a142, ha143⟩ := hh
          refine D.p (ls' := [true, true, true, true, true, true, true, true, true, true, true, true, false, false, false, false, false, false, false, false, false, false, false, false, false, false, false, false]) 11 rfl rfl rfl rfl (by kernel_rfl) rfl (Y.ixa Try.underlying25 ti5 rfl rfl p144 ha143) ?_
          obtain ⟨p145, H⟩ := gd_some H
          refine D.r (ls' := [true, true, true, true, true, true, true, true, true, true, true, true, true, false, false, false, false, false, false, false, false, false, false, false, false, false, false, false]) 12 1 0 rfl rfl rfl rfl (by kernel_rfl) (by kernel_rfl) rfl rfl (Y.ldE Try.underlying5 rfl rfl ha143 p145 ha1) ?_
          refine D.p (ls' := [true, true, true, true, true, true, true, true, true, true, true, true, true, true, false, false, false, false, false, false, false, false, false, false, false, false, false, false]) 13 rfl rfl rfl rfl (by kernel_rfl) rfl (Y.bin rfl rfl rfl) ?_
          refine D.p (ls' := [true, true, true, true, true, true, true, true, true, true, true, true, true, true, true, false, false, false, false, false, false, false, false, false, false, false, false, false]) 14 rfl rfl rfl rfl (by kernel_rfl) rfl (Y.pickT rfl rfl) ?_
          refine D.p (ls' := [true, true, true, true, true, true, true, true, true, true, true, true, true, true, true, true, false, false, false, false, false, false, false, false, false, false, false, false]) 15 rfl rfl rfl rfl (by kernel_rfl) rfl (Y.mv rfl) ?_
          refine split2 H (fun c146 H => ?_) (fun c146 H => ?_)
          · refine D.as (k := 27) rfl (congrArg Value.bool (decide_eq_true c146)) ?_
            refine D.off (ls' := [true, true, true, true, true, true, true, true, true, true, true, true, true, true, true, true, true, false, false, false, false, false, false, false, false, false, false, false]) 16 rfl rfl rfl rfl (by kernel_rfl) rfl ?_
            refine D.off (ls' := [true, true, true, true, true, true, true, true, true, true, true, true, true, true, true, true, true, true, false, false, false, false, false, false, false, false, false, false]) 17 rfl rfl rfl rfl (by kernel_rfl) rfl ?_
            refine D.off (ls' := [true, true, true, true, true, true, true, true, true, true, true, true, true, true, true, true, true, true, true, false, false, false, false, false, false, false, false, false]) 18 rfl rfl rfl rfl (by kernel_rfl) rfl ?_
            refine D.off (ls' := [true, true, true, true, true, true, true, true, true, true, true, true, true, true, true, true, true, true, true, true, false, false, false, false, false, false, false, false]) 19 rfl rfl rfl rfl (by kernel_rfl) rfl ?_
            refine D.off (ls' := [true, true, true, true, true, true, true, true, true, true, true, true, true, true, true, true, true, true, true, true, true, false, false, false, false, false, false, false]) 20 rfl rfl rfl rfl (by kernel_rfl) rfl ?_
            refine D.off (ls' := [true, true, true, true, true, true, true, true, true, true, true, true, true, true, true, true, true, true, true, true, true, true, false, false, false, false, false, false]) 21 rfl rfl rfl rfl (by kernel_rfl) rfl ?_
            refine D.off (ls' := [true, true, true, true, true, true, true, true, true, true, true, true, true, true, true, true, true, true, true, true, true, true, true, false, false, false, false, false]) 22 rfl rfl rfl rfl (by kernel_rfl) rfl ?_
            refine D.off (ls' := [true, true, true, true, true, true, true, true, true, true, true, true, true, true, true, true, true, true, true, true, true, true, true, true, false, false, false, false]) 23 rfl rfl rfl rfl (by kernel_rfl) rfl ?_
            refine D.off (ls' := [true, true, true, true, true, true, true, true, true, true, true, true, true, true, true, true, true, true, true, true, true, true, true, true, true, false, false, false]) 24 rfl rfl rfl rfl (by kernel_rfl) rfl ?_
            refine D.off (ls' := [true, true, true, true, true, true, true, true, true, true, true, true, true, true, true, true, true, true, true, true, true, true, true, true, true, true, false, false]) 25 rfl rfl rfl rfl (by kernel_rfl) rfl ?_
            refine D.off (ls' := [true, true, true, true, true, true, true, true, true, true, true, true, true, true, true, true, true, true, true, true, true, true, true, true, true, true, true, false]) 26 rfl rfl rfl rfl (by kernel_rfl) rfl ?_
            refine D.p (ls' := [true, true, true, true, true, true, true, true, true, true, true, true, true, true, true, true, true, true, true, true, true, true, true, true, true, true, true, true]) 27 rfl rfl rfl rfl (by kernel_rfl) rfl (Y.pickT rfl rfl) ?_
            refine D.nil (by kernel_rfl) ?_
            obtain rfl := Option.some.inj H
            exact N.meet (true, ()) ⟨HK134, trivial⟩ (by exact ⟨rfl, rfl, rfl, rfl, trivial⟩) (by exact fun w h => h)
          · refine D.as (k := 27) rfl (congrArg Value.bool (decide_eq_false c146)) ?_
            refine D.p (ls' := [true, true, true, true, true, true, true, true, true, true, true, true, true, true, true, true, true, false, false, false, false, false, false, false, false, false, false, false]) 16 rfl rfl rfl rfl (by kernel_rfl) rfl (Y.mv rfl) ?_
            refine D.p (ls' := [true, true, true, true, true, true, true, true, true, true, true, true, true, true, true, true, true, true, false, false, false, false, false, false, false, false, false, false]) 17 rfl rfl rfl rfl (by kernel_rfl) rfl (Y.mv rfl) ?_
            refine D.p (ls' := [true, true, true, true, true, true, true, true, true, true, true, true, true, true, true, true, true, true, true, false, false, false, false, false, false, false, false, false]) 18 rfl rfl rfl rfl (by kernel_rfl) rfl (Y.lenS Try.underlying25 rfl) ?_
            refine D.p (ls' := [true, true, true, true, true, true, true, true, true, true, true, true, true, true, true, true, true, true, true, true, false, false, false, false, false, false, false, false]) 19 rfl rfl rfl rfl (by kernel_rfl) rfl (Y.bin rfl rfl rfl) ?_
            refine D.p (ls' := [true, true, true, true, true, true, true, true, true, true, true, true, true, true, true, true, true, true, true, true, true, false, false, false, false, false, false, false]) 20 rfl rfl rfl rfl (by kernel_rfl) rfl (Y.mv rfl) ?_
            refine split2 H (fun c147 H => ?_) (fun c147 H => ?_)
            · refine D.as (k := 32) rfl (congrArg Value.bool (decide_eq_true c147)) ?_
              refine D.p (ls' := [true, true, true, true, true, true, true, true, true, true, true, true, true, true, true, true, true, true, true, true, true, true, false, false, false, false, false, false]) 21 rfl rfl rfl rfl (by kernel_rfl) rfl (Y.mv rfl) ?_
              refine D.p (ls' := [true, true, true, true, true, true, true, true, true, true, true, true, true, true, true, true, true, true, true, true, true, true, true, false, false, false, false, false]) 22 rfl rfl rfl rfl (by kernel_rfl) rfl (Y.mv rfl) ?_
              obtain ⟨p150, H⟩ := gd_some H
              refine D.know (ha0.some_ (j := Int.toNat i110) (by rw [List.length_map]; exact idx_lt p150)) (fun hh => ?_)
              obtain ⟨a148, ha149⟩ := hh
              refine D.p (ls' := [true, true, true, true, true, true, true, true, true, true, true, true, true, true, true, true, true, true, true, true, true, true, true, true, false, false, false, false]) 23 rfl rfl rfl rfl (by kernel_rfl) rfl (Y.ixa Try.underlying25 ti5 rfl rfl p150 ha149) ?_
              obtain ⟨p151, H⟩ := gd_some H
              refine D.r (ls' := [true, true, true, true, true, true, true, true, true, true, true, true, true, true, true, true, true, true, true, true, true, true, true, true, true, false, false, false]) 24 1 0 rfl rfl rfl rfl (by kernel_rfl) (by kernel_rfl) rfl rfl (Y.ldE Try.underlying5 rfl rfl ha149 p151 ha0) ?_
              refine D.p (ls' := [true, true, true, true, true, true, true, true, true, true, true, true, true, true, true, true, true, true, true, true, true, true, true, true, true, true, false, false]) 25 rfl rfl rfl rfl (by kernel_rfl) rfl (Y.bin rfl rfl rfl) ?_
              refine D.p (ls' := [true, true, true, true, true, true, true, true, true, true, true, true, true, true, true, true, true, true, true, true, true, true, true, true, true, true, true, false]) 26 rfl rfl rfl rfl (by kernel_rfl) rfl (Y.pickT rfl rfl) ?_
              refine D.p (ls' := [true, true, true, true, true, true, true, true, true, true, true, true, true, true, true, true, true, true, true, true, true, true, true, true, true, true, true, true]) 27 rfl rfl rfl rfl (by kernel_rfl) rfl (Y.pickF rfl rfl) ?_
              refine D.nil (by kernel_rfl) ?_
              obtain rfl := Option.some.inj H
              exact N.meet (decide ((rd a0 i110) ≠ 238), ()) ⟨HK134, trivial⟩ (by exact ⟨rfl, rfl, rfl, rfl, trivial⟩) (by exact fun w h => h)
            · refine D.as (k := 32) rfl (congrArg Value.bool (decide_eq_false c147)) ?_
              refine D.off (ls' := [true, true, true, true, true, true, true, true, true, true, true, true, true, true, true, true, true, true, true, true, true, true, false, false, false, false, false, false]) 21 rfl rfl rfl rfl (by kernel_rfl) rfl ?_
              refine D.off (ls' := [true, true, true, true, true, true, true, true, true, true, true, true, true, true, true, true, true, true, true, true, true, true, true, false, false, false, false, false]) 22 rfl rfl rfl rfl (by kernel_rfl) rfl ?_
              refine D.off (ls' := [true, true, true, true, true, true, true, true, true, true, true, true, true, true, true, true, true, true, true, true, true, true, true, true, false, false, false, false]) 23 rfl rfl rfl rfl (by kernel_rfl) rfl ?_
              refine D.off (ls' := [true, true, true, true, true, true, true, true, true, true, true, true, true, true, true, true, true, true, true, true, true, true, true, true, true, false, false, false]) 24 rfl rfl rfl rfl (by kernel_rfl) rfl ?_
              refine D.off (ls' := [true, true, true, true, true, true, true, true, true, true, true, true, true, true, true, true, true, true, true, true, true, true, true, true, true, true, false, false]) 25 rfl rfl rfl rfl (by kernel_rfl) rfl ?_
              refine D.p (ls' := [true, true, true, true, true, true, true, true, true, true, true, true, true, true, true, true, true, true, true, true, true, true, true, true, true, true, true, false]) 26 rfl rfl rfl rfl (by kernel_rfl) rfl (Y.pickF rfl rfl) ?_
              refine D.p (ls' := [true, true, true, true, true, true, true, true, true, true, true, true, true, true, true, true, true, true, true, true, true, true, true, true, true, true, true, true]) 27 rfl rfl rfl rfl (by kernel_rfl) rfl (Y.pickF rfl rfl) ?_
              refine D.nil (by kernel_rfl) ?_
              obtain rfl := Option.some.inj H
              exact N.meet (false, ()) ⟨HK134, trivial⟩ (by exact ⟨rfl, rfl, rfl, rfl, trivial⟩) (by exact fun w h => h)
        · refine D.as (k := 16) rfl (congrArg Value.bool (decide_eq_false c137)) ?_
          refine D.off (ls' := [true, true, true, true, true, true, false, false, false, false, false, false, false, false, false, false, false, false, false, false, false, false, false, false, false, false, false, false]) 5 rfl rfl rfl rfl (by kernel_rfl) rfl ?_
          refine D.off (ls' := [true, true, true, true, true, true, true, false, false, false, false, false, false, false, false, false, false, false, false, false, false, false, false, false, false, false, false, false]) 6 rfl rfl rfl rfl (by kernel_rfl) rfl ?_
          refine D.off (ls' := [true, true, true, true, true, true, true, true, false, false, false, false, false, false, false, false, false, false, false, false, false, false, false, false, false, false, false, false]) 7 rfl rfl rfl rfl (by kernel_rfl) rfl ?_
          refine D.off (ls' := [true, true, true, true, true, true, true, true, true, false, false, false, false, false, false, false, false, false, false, false, false, false, false, false, false, false, false, false]) 8 rfl rfl rfl rfl (by kernel_rfl) rfl ?_
          refine D.off (ls' := [true, true, true, true, true, true, true, true, true, true, false, false, false, false, false, false, false, false, false, false, false, false, false, false, false, false, false, false]) 9 rfl rfl rfl rfl (by kernel_rfl) rfl ?_
          refine D.off (ls' := [true, true, true, true, true, true, true, true, true, true, true, false, false, false, false, false, false, false, false, false, false, false, false, false, false, false, false, false]) 10 rfl rfl rfl rfl (by kernel_rfl) rfl ?_
          refine D.off (ls' := [true, true, true, true, true, true, true, true, true, true, true, true, false, false, false, false, false, false, false, false, false, false, false, false, false, false, false, false]) 11 rfl rfl rfl rfl (by kernel_rfl) rfl ?_
          refine D.off (ls' := [true, true, true, true, true, true, true, true, true, true, true, true, true, false, false, false, false, false, false, false, false, false, false, false, false, false, false, false]) 12 rfl rfl rfl rfl (by kernel_rfl) rfl ?_
          refine D.off (ls' := [true, true, true, true, true, true, true, true, true, true, true, true, true, true, false, false, false, false, false, false, false, false, false, false, false, false, false, false]) 13 rfl rfl rfl rfl (by kernel_rfl) rfl ?_
          refine D.p (ls' := [true, true, true, true, true, true, true, true, true, true, true, true, true, true, true, false, false, false, false, false, false, false, false, false, false, false, false, false]) 14 rfl rfl rfl rfl (by kernel_rfl) rfl (Y.pickF rfl rfl) ?_
          refine D.p (ls' := [true, true, true, true, true, true, true, true, true, true, true, true, true, true, true, true, false, false, false, false, false, false, false, false, false, false, false, false]) 15 rfl rfl rfl rfl (by kernel_rfl) rfl (Y.mv rfl) ?_
          refine D.p (ls' := [true, true, true, true, true, true, true, true, true, true, true, true, true, true, true, true, true, false, false, false, false, false, false, false, false, false, false, false]) 16 rfl rfl rfl rfl (by kernel_rfl) rfl (Y.mv rfl) ?_
          refine D.p (ls' := [true, true, true, true, true, true, true, true, true, true, true, true, true, true, true, true, true, true, false, false, false, false, false, false, false, false, false, false]) 17 rfl rfl rfl rfl (by kernel_rfl) rfl (Y.mv rfl) ?_
          refine D.p (ls' := [true, true, true, true, true, true, true, true, true, true, true, true, true, true, true, true, true, true, true, false, false, false, false, false, false, false, false, false]) 18 rfl rfl rfl rfl (by kernel_rfl) rfl (Y.lenS Try.underlying25 rfl) ?_
          refine D.p (ls' := [true, true, true, true, true, true, true, true, true, true, true, true, true, true, true, true, true, true, true, true, false, false, false, false, false, false, false, false]) 19 rfl rfl rfl rfl (by kernel_rfl) rfl (Y.bin rfl rfl rfl) ?_
          refine D.p (ls' := [true, true, true, true, true, true, true, true, true, true, true, true, true, true, true, true, true, true, true, true, true, false, false, false, false, false, false, false]) 20 rfl rfl rfl rfl (by kernel_rfl) rfl (Y.mv rfl) ?_
          refine split2 H (fun c152 H => ?_) (fun c152 H => ?_)
          · refine D.as (k := 32) rfl (congrArg Value.bool (decide_eq_true c152)) ?_
            refine D.p (ls' := [true, true, true, true, true, true, true, true, true, true, true, true, true, true, true, true, true, true, true, true, true, true, false, false, false, false, false, false]) 21 rfl rfl rfl rfl (by kernel_rfl) rfl (Y.mv rfl) ?_
            refine D.p (ls' := [true, true, true, true, true, true, true, true, true, true, true, true, true, true, true, true, true, true, true, true, true, true, true, false, false, false, false, false]) 22 rfl rfl rfl rfl (by kernel_rfl) rfl (Y.mv rfl) ?_
            obtain ⟨p155, H⟩ := gd_some H
            refine D.know (ha0.some_ (j := Int.toNat i110) (by rw [List.length_map]; exact idx_lt p155)) (fun hh => ?_)
            obtain ⟨a153, ha154⟩ := hh
            refine D.p (ls' := [true, true, true, true, true, true, true, true, true, true, true, true, true, true, true, true, true, true, true, true, true, true, true, true, false, false, false, false]) 23 rfl rfl rfl rfl (by kernel_rfl) rfl (Y.ixa Try.underlying25 ti5 rfl rfl p155 ha154) ?_
            obtain ⟨p156, H⟩ := gd_some H
            refine D.r (ls' := [true, true, true, true, true, true, true, true, true, true, true, true, true, true, true, true, true, true, true, true, true, true, true, true, true, false, false, false]) 24 1 0 rfl rfl rfl rfl (by kernel_rfl) (by kernel_rfl) rfl rfl (Y.ldE Try.underlying5 rfl rfl ha154 p156 ha0) ?_
            refine D.p (ls' := [true, true, true, true, true, true, true, true, true, true, true, true, true, true, true, true, true, true, true, true, true, true, true, true, true, true, false, false]) 25 rfl rfl rfl rfl (by kernel_rfl) rfl (Y.bin rfl rfl rfl) ?_
            refine D.p (ls' := [true, true, true, true, true, true, true, true, true, true, true, true, true, true, true, true, true, true, true, true, true, true, true, true, true, true, true, false]) 26 rfl rfl rfl rfl (by kernel_rfl) rfl (Y.pickT rfl rfl) ?_
            refine D.p (ls' := [true, true, true, true, true, true, true, true, true, true, true, true, true, true, true, true, true, true, true, true, true, true, true, true, true, true, true, true]) 27 rfl rfl rfl rfl (by kernel_rfl) rfl (Y.pickF rfl rfl) ?_
            refine D.nil (by kernel_rfl) ?_
            obtain rfl := Option.some.inj H
            exact N.meet (decide ((rd a0 i110) ≠ 238), ()) ⟨HK134, trivial⟩ (by exact ⟨rfl, rfl, rfl, rfl, trivial⟩) (by exact fun w h => h)
          · refine D.as (k := 32) rfl (congrArg Value.bool (decide_eq_false c152)) ?_
            refine D.off (ls' := [true, true, true, true, true, true, true, true, true, true, true, true, true, true, true, true, true, true, true, true, true, true, false, false, false, false, false, false]) 21 rfl rfl rfl rfl (by kernel_rfl) rfl ?_
            refine D.off (ls' := [true, true, true, true, true, true, true, true, true, true, true, true, true, true, true, true, true, true, true, true, true, true, true, false, false, false, false, false]) 22 rfl rfl rfl rfl (by kernel_rfl) rfl ?_
            refine D.off (ls' := [true, true, true, true, true, true, true, true, true, true, true, true, true, true, true, true, true, true, true, true, true, true, true, true, false, false, false, false]) 23 rfl rfl rfl rfl (by kernel_rfl) rfl ?_
            refine D.off (ls' := [true, true, true, true, true, true, true, true, true, true, true, true, true, true, true, true, true, true, true, true, true, true, true, true, true, false, false, false]) 24 rfl rfl rfl rfl (by kernel_rfl) rfl ?_
            refine D.off (ls' := [true, true, true, true, true, true, true, true, true, true, true, true, true, true, true, true, true, true, true, true, true, true, true, true, true, true, false, false]) 25 rfl rfl rfl rfl (by kernel_rfl) rfl ?_
            refine D.p (ls' := [true, true, true, true, true, true, true, true, true, true, true, true, true, true, true, true, true, true, true, true, true, true, true, true, true, true, true, false]) 26 rfl rfl rfl rfl (by kernel_rfl) rfl (Y.pickF rfl rfl) ?_
            refine D.p (ls' := [true, true, true, true, true, true, true, true, true, true, true, true, true, true, true, true, true, true, true, true, true, true, true, true, true, true, true, true]) 27 rfl rfl rfl rfl (by kernel_rfl) rfl (Y.pickF rfl rfl) ?_
            refine D.nil (by kernel_rfl) ?_
            obtain rfl := Option.some.inj H
            exact N.meet (false, ()) ⟨HK134, trivial⟩ (by exact ⟨rfl, rfl, rfl, rfl, trivial⟩) (by exact fun w h => h)
      · refine C.at (s' := [(0, .slice Aa0 a0.length ca0), (1, .slice Aa1 a1.length ca1), (5, .int .i64 i110), (39, .bool o135)]) (G' := G) rfl rfl ?_
        refine split2 H (fun c157 H => ?_) (fun c157 H => ?_)
        · refine C.condT (congrArg (fun b => some (Value.bool b)) (c157)) ?_
          refine C.rs ?_
          refine J.p rfl rfl rfl rfl (Y.asg rfl) ?_
          refine J.nx ?_
          refine C.ret ?_
          obtain rfl := Option.some.inj H
          obtain rfl := fin_inl HK54
          refine T.ib ?_
          refine T.th ?_
          refine T.th ?_
          refine T.ib ?_
          refine T.th ?_
          refine T.th ?_
          exact ret_ok (ks := [4]) rfl rfl (fun w h => ⟨rfl, h⟩)
        · refine C.condF (congrArg (fun b => some (Value.bool b)) (nt c157)) ?_
          refine C.skip ?_
          refine N.ib ?_
          refine N.nx ?_
          refine C.reg ?_
          refine J.p rfl rfl rfl rfl (Y.mv rfl) ?_
          refine J.p rfl rfl rfl rfl (Y.bin rfl rfl rfl) ?_
          refine J.p rfl rfl rfl rfl (Y.asg rfl) ?_
          refine J.nil ?_
          exact N.again (k109, IntKind.wrap .i64 (i110 + 1), ()) ⟨H, trivial⟩ (Nat.lt_succ_self _) (by exact ⟨rfl, rfl, rfl, trivial⟩) (by exact fun w h => h)
    · refine C.condF (congrArg (fun b => some (Value.bool b)) (decide_eq_false c112)) ?_
      refine C.exit ?_
      refine X.th ?_
      refine X.th ?_
      refine X.hit ?_
      obtain rfl := Option.some.inj H
      exact N.meet ((), ()) ⟨fin_inr HK54, trivial⟩ (by exact trivial) (by exact fun w h => h)
  · refine N.at (s' := []) (G' := G) rfl rfl ?_
    refine N.nx ?_
    refine C.rs ?_
    refine J.p rfl rfl rfl rfl (Y.asg rfl) ?_
    refine J.nx ?_
    refine C.ret ?_
    obtain rfl := Option.some.inj H
    exact ret_ok (ks := [4]) rfl rfl (fun w h => ⟨rfl, h⟩)
/-! ### salvor/salvorref3.Next: function 18 -/
def refNext.l1 (a0 : List Int) (a1 : Int) : Nat → (Int) → Option ((Int) ⊕ (Unit))
  | 0, _ => none
  | k + 1, i50 => if i50 < (a0.length : Int) then ((if a1 ≤ i50 then (gd ((0 : Int) ≤ i50 ∧ i50 < (a0.length : Int)) (gd ((0 : Int) ≤ i50 ∧ i50 < (a0.length : Int)) (some (decide ((rd a0 i50) = 167))))) else (some false)).bind fun o58 => if o58 = true then (some (.inl (i50))) else (refNext.l1 a0 a1 k (IntKind.wrap .i64 (i50 + 1)))) else (some (.inr ()))
def refNext.f (K : Nat) (a0 : List Int) (a1 : Int) : Option (Int) := thn (refNext.l1 a0 a1 K 0) fun o25 => some (a0.length : Int)
theorem refNext.calls {B : Nat} {w0 : World} {G : List HP} (K : Nat) (a0 : List Int) (a1 : Int) (Aa0 : Option Addr) (ca0 : Nat) (ha0 : RdG B w0 G Aa0 (a0.map (Value.int .u8))) (ka0 : a0.length ≤ ca0) (r : Int) (H : refNext.f K a0 a1 = some r) (w : World) (hw : St B w0 (G) w) :
    Calls Try.prog 18 [.slice Aa0 a0.length ca0, .int .i64 a1].toArray w (fun e w' => e = .returned (.int .i64 r) ∧ St B w0 (G) w') := by
  unfold refNext.f at H
  refine calls_of (n := 25) (s := [(0, .slice Aa0 a0.length ca0), (1, .int .i64 a1)]) Try.func18 rfl rfl rfl rfl ?_ hw
  refine C.rs ?_
  refine J.p rfl rfl rfl rfl (Y.asg rfl) ?_
  refine J.nx ?_
  refine C.seq ?_
  refine C.rs ?_
  refine J.p rfl rfl rfl rfl (Y.asg rfl) ?_
  refine J.nx ?_
  refine C.joinNR H (fun (o25 : Unit) (j26 : Unit) => [(0, .slice Aa0 a0.length ca0)]) (fun (o25 : Unit) (j26 : Unit) => G) (fun (o25 : Unit) (j26 : Unit) => True) (fun o23 H HK24 => ?_) (fun o25 j26 H _ => ?_)
  · refine C.blk ?_
    refine C.loop (fun (i : Nat × (Int) × (Unit)) => [(0, .slice Aa0 a0.length ca0), (1, .int .i64 a1), (5, .int .i64 i.2.1)]) (fun (i : Nat × (Int) × (Unit)) => G) (fun (i : Nat × (Int) × (Unit)) => refNext.l1 a0 a1 i.1 i.2.1 = some o23 ∧ (True)) (fun i => i.1) (K, 0, ()) ⟨H, trivial⟩ (by exact ⟨rfl, rfl, rfl, trivial⟩) (by exact fun w h => h) ?_
    rintro ⟨k68, i50, j51⟩ ⟨H, _⟩
    replace H : refNext.l1 a0 a1 k68 i50 = some o23 := H
    obtain ⟨k49, rfl⟩ : ∃ m, k68 = m + 1 := by cases k68 with | zero => exact absurd H (by simp [refNext.l1]) | succ m => exact ⟨m, rfl⟩
    rw [refNext.l1] at H
    refine C.at (s' := [(0, .slice Aa0 a0.length ca0), (1, .int .i64 a1), (5, .int .i64 i50)]) (G' := G) rfl rfl ?_
    refine C.seq ?_
    refine C.rs ?_
    refine J.p rfl rfl rfl rfl (Y.mv rfl) ?_
    refine J.p rfl rfl rfl rfl (Y.mv rfl) ?_
    refine J.p rfl rfl rfl rfl (Y.lenS Try.underlying25 rfl) ?_
    refine J.p rfl rfl rfl rfl (Y.bin rfl rfl rfl) ?_
    refine J.nx ?_
    refine split2 H (fun c52 H => ?_) (fun c52 H => ?_)
    · refine C.condT (congrArg (fun b => some (Value.bool b)) (decide_eq_true c52)) ?_
      refine C.skip ?_
      refine N.nx ?_
      refine C.seq ?_
      refine C.blk ?_
      refine C.rs ?_
      refine J.joinB H (fun (o58 : Bool) (j59 : Unit) => [(0, .slice Aa0 a0.length ca0), (1, .int .i64 a1), (5, .int .i64 i50), (21, .bool o58)]) (fun (o58 : Bool) (j59 : Unit) => G) (fun (o58 : Bool) (j59 : Unit) => True) (fun o60 H HK61 => ?_) (fun o58 j59 H _ => ?_)
      · refine J.p rfl rfl rfl rfl (Y.mv rfl) ?_
        refine J.p rfl rfl rfl rfl (Y.mv rfl) ?_
        refine J.p rfl rfl rfl rfl (Y.bin rfl rfl rfl) ?_
        refine J.p rfl rfl rfl rfl (Y.mv rfl) ?_
        refine split2 H (fun c62 H => ?_) (fun c62 H => ?_)
        · refine J.as (k := 15) rfl (congrArg Value.bool (decide_eq_true c62)) ?_
          refine J.p rfl rfl rfl rfl (Y.mv rfl) ?_
          refine J.p rfl rfl rfl rfl (Y.mv rfl) ?_
          obtain ⟨p65, H⟩ := gd_some H
          refine J.know (ha0.some_ (j := Int.toNat i50) (by rw [List.length_map]; exact idx_lt p65)) (fun hh => ?_)
          obtain ⟨a63, ha64⟩ := hh
          refine J.p rfl rfl rfl rfl (Y.ixa Try.underlying25 ti5 rfl rfl p65 ha64) ?_
          obtain ⟨p66, H⟩ := gd_some H
          refine J.r rfl rfl rfl rfl (Y.ldE Try.underlying5 rfl rfl ha64 p66 ha0) ?_
          refine J.p rfl rfl rfl rfl (Y.bin rfl rfl rfl) ?_
          refine J.p rfl rfl rfl rfl (Y.pickT rfl rfl) ?_
          refine J.nil ?_
          obtain rfl := Option.some.inj H
          exact N.meet (decide ((rd a0 i50) = 167), ()) ⟨HK61, trivial⟩ (by exact ⟨rfl, rfl, rfl, rfl, trivial⟩) (by exact fun w h => h)
        · refine J.as (k := 15) rfl (congrArg Value.bool (decide_eq_false c62)) ?_
          refine J.skip rfl rfl ?_
          refine J.skip rfl rfl ?_
          refine J.skip rfl rfl ?_
          refine J.skip rfl rfl ?_
          refine J.skip rfl rfl ?_
          refine J.p rfl rfl rfl rfl (Y.pickF rfl rfl) ?_
          refine J.nil ?_
          obtain rfl := Option.some.inj H
          exact N.meet (false, ()) ⟨HK61, trivial⟩ (by exact ⟨rfl, rfl, rfl, rfl, trivial⟩) (by exact fun w h => h)
      · refine C.at (s' := [(0, .slice Aa0 a0.length ca0), (1, .int .i64 a1), (5, .int .i64 i50), (21, .bool o58)]) (G' := G) rfl rfl ?_
        refine split2 H (fun c67 H => ?_) (fun c67 H => ?_)
        · refine C.condT (congrArg (fun b => some (Value.bool b)) (c67)) ?_
          refine C.rs ?_
          refine J.p rfl rfl rfl rfl (Y.mv rfl) ?_
          refine J.p rfl rfl rfl rfl (Y.asg rfl) ?_
          refine J.nx ?_
          refine C.ret ?_
          obtain rfl := Option.some.inj H
          obtain rfl := fin_inl HK24
          refine T.ib ?_
          refine T.th ?_
          refine T.th ?_
          refine T.ib ?_
          refine T.th ?_
          refine T.th ?_
          exact ret_ok (ks := [4]) rfl rfl (fun w h => ⟨rfl, h⟩)
        · refine C.condF (congrArg (fun b => some (Value.bool b)) (nt c67)) ?_
          refine C.skip ?_
          refine N.ib ?_
          refine N.nx ?_
          refine C.reg ?_
          refine J.p rfl rfl rfl rfl (Y.mv rfl) ?_
          refine J.p rfl rfl rfl rfl (Y.bin rfl rfl rfl) ?_
          refine J.p rfl rfl rfl rfl (Y.asg rfl) ?_
          refine J.nil ?_
          exact N.again (k49, IntKind.wrap .i64 (i50 + 1), ()) ⟨H, trivial⟩ (Nat.lt_succ_self _) (by exact ⟨rfl, rfl, rfl, trivial⟩) (by exact fun w h => h)
    · refine C.condF (congrArg (fun b => some (Value.bool b)) (decide_eq_false c52)) ?_
      refine C.exit ?_
      refine X.th ?_
      refine X.th ?_
      refine X.hit ?_
      obtain rfl := Option.some.inj H
      exact N.meet ((), ()) ⟨fin_inr HK24, trivial⟩ (by exact ⟨rfl, trivial⟩) (by exact fun w h => h)
  · refine N.at (s' := [(0, .slice Aa0 a0.length ca0)]) (G' := G) rfl rfl ?_
    refine N.nx ?_
    refine C.rs ?_
    refine J.p rfl rfl rfl rfl (Y.mv rfl) ?_
    refine J.p rfl rfl rfl rfl (Y.lenS Try.underlying25 rfl) ?_
    refine J.p rfl rfl rfl rfl (Y.asg rfl) ?_
    refine J.nx ?_
    refine C.ret ?_
    obtain rfl := Option.some.inj H
    exact ret_ok (ks := [4]) rfl rfl (fun w h => ⟨rfl, h⟩)
/-! ### salvor/salvorlaw3.same: function 28 -/
def same.f (a0 : List Int) (a1 : List Int) : Option (Bool) := some (decide ((strOfNums a0) = (strOfNums a1)))
theorem same.calls {B : Nat} {w0 : World} {G : List HP} (a0 : List Int) (a1 : List Int) (Aa0 : Option Addr) (ca0 : Nat) (Aa1 : Option Addr) (ca1 : Nat) (ha0 : RdG B w0 G Aa0 (a0.map (Value.int .u8))) (ka0 : a0.length ≤ ca0) (ha1 : RdG B w0 G Aa1 (a1.map (Value.int .u8))) (ka1 : a1.length ≤ ca1) (r : Bool) (H : same.f a0 a1 = some r) (w : World) (hw : St B w0 (G) w) :
    Calls Try.prog 28 [.slice Aa0 a0.length ca0, .slice Aa1 a1.length ca1].toArray w (fun e w' => e = .returned (.bool r) ∧ St B w0 (G) w') := by
  unfold same.f at H
  refine calls_of (n := 10) (s := [(0, .slice Aa0 a0.length ca0), (1, .slice Aa1 a1.length ca1)]) Try.func28 rfl rfl rfl rfl ?_ hw
  refine C.rs ?_
  refine J.p rfl rfl rfl rfl (Y.asg rfl) ?_
  refine J.nx ?_
  refine C.rs ?_
  refine J.p rfl rfl rfl rfl (Y.mv rfl) ?_
  refine J.r rfl rfl rfl rfl (Y.b2s Try.underlying25 Try.underlying5 Try.underlying9 rfl ha0) ?_
  refine J.p rfl rfl rfl rfl (Y.mv rfl) ?_
  refine J.r rfl rfl rfl rfl (Y.b2s Try.underlying25 Try.underlying5 Try.underlying9 rfl ha1) ?_
  refine J.p rfl rfl rfl rfl (Y.eqs rfl rfl) ?_
  refine J.p rfl rfl rfl rfl (Y.asg rfl) ?_
  refine J.nx ?_
  refine C.ret ?_
  obtain rfl := Option.some.inj H
  exact ret_ok (ks := [4]) rfl rfl (fun w h => ⟨rfl, h⟩)
/-! ### salvor/salvorlaw3.awake: function 24 -/
def awake.f (K : Nat) : Option (Bool) := (Wrap.f K [167, 0, 166]).bind fun t3 => (same.f t3 [166, 1, 0, 166, 0]).bind fun t11 => some t11
theorem awake.calls {B : Nat} {w0 : World} {G : List HP} (K : Nat) (r : Bool) (H : awake.f K = some r) (w : World) (hw : St B w0 (G) w) :
    Calls Try.prog 24 [].toArray w (fun e w' => e = .returned (.bool r) ∧ St B w0 (G) w') := by
  unfold awake.f at H
  refine calls_of (n := 7) (s := []) Try.func24 rfl rfl rfl rfl ?_ hw
  refine C.rs ?_
  refine J.p rfl rfl rfl rfl (Y.asg rfl) ?_
  refine J.nx ?_
  refine C.rs ?_
  refine J.bsL (enc := (Value.int .u8)) (xs := [167, 0, 166]) rfl Try.underlying25 ti5 rfl rfl rfl rfl rfl (fun A1 => ?_)
  obtain ⟨t3, hC4, H⟩ := bind_some H
  refine J.call (us := []) (cap := []) rfl rfl rfl go25 (fun w hw => Wrap.calls K [167, 0, 166] A1 3 (RdG.own 0 rfl) (show [167, 0, 166].length ≤ 3 from Nat.le_refl _) t3 hC4 w hw) (fun e w1 h1 => ?_)
  obtain ⟨A5, c6, rfl, hw14⟩ := h1
  refine ⟨_, _, rfl, hw14, ?_⟩
  refine J.p rfl rfl rfl rfl (Y.asg rfl) ?_
  refine J.nx ?_
  refine C.rs ?_
  refine J.p rfl rfl rfl rfl (Y.mv rfl) ?_
  refine J.bsL (enc := (Value.int .u8)) (xs := [166, 1, 0, 166, 0]) rfl Try.underlying25 ti5 rfl rfl rfl rfl rfl (fun A8 => ?_)
  refine J.know (own_leL 1 rfl) (fun hc10 => ?_)
  obtain ⟨t11, hC12, H⟩ := bind_some H
  refine J.call (us := []) (cap := []) rfl rfl rfl go28 (fun w hw => same.calls t3 [166, 1, 0, 166, 0] A5 c6 A8 5 (RdG.own 1 rfl) hc10 (RdG.own 0 rfl) (show [166, 1, 0, 166, 0].length ≤ 5 from Nat.le_refl _) t11 hC12 w hw) (fun e w1 h1 => ?_)
  obtain ⟨rfl, hw13⟩ := h1
  refine ⟨_, _, rfl, hw13, ?_⟩
  refine J.p rfl rfl rfl rfl (Y.asg rfl) ?_
  refine J.nx ?_
  refine C.ret ?_
  obtain rfl := Option.some.inj H
  exact ret_ok (ks := [0]) rfl rfl (fun w h => ⟨rfl, (St.pick [] [_, _, _] h rfl)⟩)
/-! ### salvor/salvorref3.Wrap: function 39 -/
def refWrap.l1 (a0 : List Int) : Nat → ((List Int) × Int) → Option ((List Int))
  | 0, _ => none
  | k + 1, i128 => if i128.2 < (a0.length : Int) then ((gd ((0 : Int) ≤ i128.2 ∧ i128.2 < (a0.length : Int)) (if (rd a0 i128.2) = 167 then (gd ((i128.1.length + [166, 1].length) * 1 ≤ 140737488355328) (some (i128.1 ++ [166, 1]))) else (if (rd a0 i128.2) = 166 then (gd ((i128.1.length + [166, 0].length) * 1 ≤ 140737488355328) (some (i128.1 ++ [166, 0]))) else (gd ((0 : Int) ≤ i128.2 ∧ i128.2 < (a0.length : Int)) (gd ((i128.1.length + [rd a0 i128.2].length) * 1 ≤ 140737488355328) (some (i128.1 ++ [rd a0 i128.2]))))))).bind fun o157 => refWrap.l1 a0 k (o157, IntKind.wrap .i64 (i128.2 + 1))) else (some i128.1)
def refWrap.f (K : Nat) (a0 : List Int) : Option ((List Int)) := (refWrap.l1 a0 K (([] : List Int), 0)).bind fun o64 => some o64
theorem refWrap.calls {B : Nat} {w0 : World} {G : List HP} (K : Nat) (a0 : List Int) (Aa0 : Option Addr) (ca0 : Nat) (ha0 : RdG B w0 G Aa0 (a0.map (Value.int .u8))) (ka0 : a0.length ≤ ca0) (r : (List Int)) (H : refWrap.f K a0 = some r) (w : World) (hw : St B w0 (G) w) :
    Calls Try.prog 39 [.slice Aa0 a0.length ca0].toArray w (fun e w' => ∃ A0 c0, e = .returned (.slice A0 r.length c0) ∧ St B w0 (own 5 1 A0 c0 (r.map (Value.int .u8)) :: G) w') := by
  unfold refWrap.f at H
  refine calls_of (n := 33) (s := [(0, .slice Aa0 a0.length ca0)]) Try.func39 rfl rfl rfl rfl ?_ hw
  refine C.rs ?_
  refine J.p rfl rfl rfl rfl (Y.asg rfl) ?_
  refine J.nx ?_
  refine C.rs ?_
  refine J.p rfl rfl rfl rfl (Y.asg rfl) ?_
  refine J.nx ?_
  refine C.seq ?_
  refine C.rs ?_
  refine J.p rfl rfl rfl rfl (Y.asg rfl) ?_
  refine J.nx ?_
  refine C.joinN H (fun (o64 : (List Int)) (j65 : (Option Addr) × Nat) => [(3, .slice j65.1 o64.length j65.2)]) (fun (o64 : (List Int)) (j65 : (Option Addr) × Nat) => own 5 1 j65.1 j65.2 (o64.map (Value.int .u8)) :: G) (fun (o64 : (List Int)) (j65 : (Option Addr) × Nat) => True) (fun o62 H HK63 => ?_) (fun o64 j65 H _ => ?_)
  · refine C.blk ?_
    refine C.loop (fun (i : Nat × ((List Int) × Int) × ((Option Addr) × Nat)) => [(0, .slice Aa0 a0.length ca0), (3, .slice i.2.2.1 i.2.1.1.length i.2.2.2), (4, .int .i64 i.2.1.2)]) (fun (i : Nat × ((List Int) × Int) × ((Option Addr) × Nat)) => own 5 1 i.2.2.1 i.2.2.2 (i.2.1.1.map (Value.int .u8)) :: G) (fun (i : Nat × ((List Int) × Int) × ((Option Addr) × Nat)) => refWrap.l1 a0 i.1 i.2.1 = some o62 ∧ (True)) (fun i => i.1) (K, (([] : List Int), 0), (none, 0)) ⟨H, trivial⟩ (by exact ⟨rfl, rfl, rfl, trivial⟩) (by exact fun w h => (h.nilOwn 5 1)) ?_
    rintro ⟨k182, i128, j129⟩ ⟨H, _⟩
    replace H : refWrap.l1 a0 k182 i128 = some o62 := H
    obtain ⟨k127, rfl⟩ : ∃ m, k182 = m + 1 := by cases k182 with | zero => exact absurd H (by simp [refWrap.l1]) | succ m => exact ⟨m, rfl⟩
    rw [refWrap.l1] at H
    refine C.at (s' := [(0, .slice Aa0 a0.length ca0), (3, .slice j129.1 i128.1.length j129.2), (4, .int .i64 i128.2)]) (G' := own 5 1 j129.1 j129.2 (i128.1.map (Value.int .u8)) :: G) rfl rfl ?_
    refine C.seq ?_
    refine C.rs ?_
    refine J.p rfl rfl rfl rfl (Y.mv rfl) ?_
    refine J.p rfl rfl rfl rfl (Y.mv rfl) ?_
    refine J.p rfl rfl rfl rfl (Y.lenS Try.underlying25 rfl) ?_
    refine J.p rfl rfl rfl rfl (Y.bin rfl rfl rfl) ?_
    refine J.nx ?_
    refine split2 H (fun c132 H => ?_) (fun c132 H => ?_)
    · refine C.condT (congrArg (fun b => some (Value.bool b)) (decide_eq_true c132)) ?_
      refine C.skip ?_
      refine N.nx ?_
      refine C.joinB H (fun (o157 : (List Int)) (j158 : (Option Addr) × Nat) => [(0, .slice Aa0 a0.length ca0), (3, .slice j158.1 o157.length j158.2), (4, .int .i64 i128.2)]) (fun (o157 : (List Int)) (j158 : (Option Addr) × Nat) => own 5 1 j158.1 j158.2 (o157.map (Value.int .u8)) :: G) (fun (o157 : (List Int)) (j158 : (Option Addr) × Nat) => True) (fun o155 H HK156 => ?_) (fun o157 j158 H _ => ?_)
      · refine C.blk ?_
        refine C.rs ?_
        refine J.p rfl rfl rfl rfl (Y.mv rfl) ?_
        refine J.p rfl rfl rfl rfl (Y.mv rfl) ?_
        obtain ⟨p160, H⟩ := gd_some H
        refine J.el rfl rfl rfl Try.underlying25 ti5 Try.underlying5 rfl rfl rfl p160 (ha0.suf [_] rfl) ?_
        refine J.nx ?_
        refine C.blk ?_
        refine C.rs ?_
        refine J.p rfl rfl rfl rfl (Y.bin rfl rfl rfl) ?_
        refine J.p rfl rfl rfl rfl (Y.asg rfl) ?_
        refine J.nx ?_
        refine split2 H (fun c161 H => ?_) (fun c161 H => ?_)
        · refine C.condT (congrArg (fun b => some (Value.bool b)) (decide_eq_true c161)) ?_
          refine C.reg ?_
          refine J.p rfl rfl rfl rfl (Y.mv rfl) ?_
          refine J.bsL (enc := (Value.int .u8)) (xs := [166, 1]) rfl Try.underlying25 ti5 rfl rfl rfl rfl rfl (fun A162 => ?_)
          refine J.pull 1 rfl rfl ?_
          obtain ⟨p166, H⟩ := gd_some H
          refine J.appL (enc := (Value.int .u8)) (xs := i128.1) (ys := [166, 1]) rfl Try.underlying25 ti5 rfl (by decide) rfl rfl (fun _ => rfl) (RdG.own 1 rfl) p166 (fun A164 c165 => ?_)
          refine J.pull 1 rfl rfl (J.drop ?_)
          refine J.p rfl rfl rfl rfl (Y.asg rfl) ?_
          refine J.nil ?_
          refine N.ib ?_
          refine N.ib ?_
          obtain rfl := Option.some.inj H
          exact N.meet ((i128.1 ++ [166, 1]), (A164, c165)) ⟨HK156, trivial⟩ (by exact ⟨rfl, rfl, rfl, trivial⟩) (by exact fun w h => h)
        · refine C.condF (congrArg (fun b => some (Value.bool b)) (decide_eq_false c161)) ?_
          refine C.rs ?_
          refine J.p rfl rfl rfl rfl (Y.bin rfl rfl rfl) ?_
          refine J.p rfl rfl rfl rfl (Y.asg rfl) ?_
          refine J.nx ?_
          refine split2 H (fun c168 H => ?_) (fun c168 H => ?_)
          · refine C.condT (congrArg (fun b => some (Value.bool b)) (decide_eq_true c168)) ?_
            refine C.reg ?_
            refine J.p rfl rfl rfl rfl (Y.mv rfl) ?_
            refine J.bsL (enc := (Value.int .u8)) (xs := [166, 0]) rfl Try.underlying25 ti5 rfl rfl rfl rfl rfl (fun A169 => ?_)
            refine J.pull 1 rfl rfl ?_
            obtain ⟨p173, H⟩ := gd_some H
            refine J.appL (enc := (Value.int .u8)) (xs := i128.1) (ys := [166, 0]) rfl Try.underlying25 ti5 rfl (by decide) rfl rfl (fun _ => rfl) (RdG.own 1 rfl) p173 (fun A171 c172 => ?_)
            refine J.pull 1 rfl rfl (J.drop ?_)
            refine J.p rfl rfl rfl rfl (Y.asg rfl) ?_
            refine J.nil ?_
            refine N.ib ?_
            refine N.ib ?_
            obtain rfl := Option.some.inj H
            exact N.meet ((i128.1 ++ [166, 0]), (A171, c172)) ⟨HK156, trivial⟩ (by exact ⟨rfl, rfl, rfl, trivial⟩) (by exact fun w h => h)
          · refine C.condF (congrArg (fun b => some (Value.bool b)) (decide_eq_false c168)) ?_
            refine C.reg ?_
            refine J.p rfl rfl rfl rfl (Y.mv rfl) ?_
            refine J.p rfl rfl rfl rfl (Y.mv rfl) ?_
            refine J.p rfl rfl rfl rfl (Y.mv rfl) ?_
            obtain ⟨p175, H⟩ := gd_some H
            refine J.el rfl rfl rfl Try.underlying25 ti5 Try.underlying5 rfl rfl rfl p175 (ha0.suf [_] rfl) ?_
            refine J.bsL (enc := (Value.int .u8)) (xs := [rd a0 i128.2]) rfl Try.underlying25 ti5 rfl rfl rfl rfl rfl (fun A176 => ?_)
            refine J.pull 1 rfl rfl ?_
            obtain ⟨p180, H⟩ := gd_some H
            refine J.appL (enc := (Value.int .u8)) (xs := i128.1) (ys := [rd a0 i128.2]) rfl Try.underlying25 ti5 rfl (by decide) rfl rfl (fun _ => rfl) (RdG.own 1 rfl) p180 (fun A178 c179 => ?_)
            refine J.pull 1 rfl rfl (J.drop ?_)
            refine J.p rfl rfl rfl rfl (Y.asg rfl) ?_
            refine J.nil ?_
            refine N.ib ?_
            refine N.ib ?_
            obtain rfl := Option.some.inj H
            exact N.meet ((i128.1 ++ [rd a0 i128.2]), (A178, c179)) ⟨HK156, trivial⟩ (by exact ⟨rfl, rfl, rfl, trivial⟩) (by exact fun w h => h)
      · refine C.at (s' := [(0, .slice Aa0 a0.length ca0), (3, .slice j158.1 o157.length j158.2), (4, .int .i64 i128.2)]) (G' := own 5 1 j158.1 j158.2 (o157.map (Value.int .u8)) :: G) rfl rfl ?_
        refine C.reg ?_
        refine J.p rfl rfl rfl rfl (Y.mv rfl) ?_
        refine J.p rfl rfl rfl rfl (Y.bin rfl rfl rfl) ?_
        refine J.p rfl rfl rfl rfl (Y.asg rfl) ?_
        refine J.nil ?_
        exact N.again (k127, (o157, IntKind.wrap .i64 (i128.2 + 1)), (j158.1, j158.2)) ⟨H, trivial⟩ (Nat.lt_succ_self _) (by exact ⟨rfl, rfl, rfl, trivial⟩) (by exact fun w h => h)
    · refine C.condF (congrArg (fun b => some (Value.bool b)) (decide_eq_false c132)) ?_
      refine C.exit ?_
      refine X.th ?_
      refine X.th ?_
      refine X.hit ?_
      obtain rfl := Option.some.inj H
      exact N.meet (i128.1, (j129.1, j129.2)) ⟨HK63, trivial⟩ (by exact ⟨rfl, trivial⟩) (by exact fun w h => h)
  · refine N.at (s' := [(3, .slice j65.1 o64.length j65.2)]) (G' := own 5 1 j65.1 j65.2 (o64.map (Value.int .u8)) :: G) rfl rfl ?_
    refine N.nx ?_
    refine C.rs ?_
    refine J.p rfl rfl rfl rfl (Y.mv rfl) ?_
    refine J.p rfl rfl rfl rfl (Y.asg rfl) ?_
    refine J.nx ?_
    refine C.ret ?_
    obtain rfl := Option.some.inj H
    exact ret_ok (ks := [2]) rfl rfl (fun w h => ⟨j65.1, j65.2, rfl, h⟩)
/-! ### salvor/salvorlaw3.EscapeNexts: function 4 -/
def EscapeNexts.f (K : Nat) (a0 : List Int) (a1 : Int) (a2 : Int) : Option (Bool) := (room.f K a0).bind fun t1 => gd ((0 : Int) ≤ (a0.length : Int) ∧ (0 ≤ (Int.toNat (a0.length : Int)) ∧ (Int.toNat (a0.length : Int)) ≤ t1.length)) ((Next.f ((t1.take (Int.toNat (a0.length : Int))).drop 0) a1).bind fun t8 => gd ((0 : Int) ≤ (a0.length : Int) ∧ (0 ≤ (Int.toNat (a0.length : Int)) ∧ (Int.toNat (a0.length : Int)) ≤ t1.length)) ((Next.f ((t1.take (Int.toNat (a0.length : Int))).drop 0) a2).bind fun t12 => (Next.f [0, 167, 167] 2).bind fun t16 => (whole.f K t1 a0).bind fun t19 => if t19 = true then ((refNext.f K a0 a1).bind fun t22 => if t8 = t22 then ((refNext.f K a0 a2).bind fun t25 => if t12 = t25 then (some (decide (t16 = 2))) else (some false)) else (some false)) else (some false)))
theorem EscapeNexts.calls {B : Nat} {w0 : World} {G : List HP} (K : Nat) (a0 : List Int) (a1 : Int) (a2 : Int) (Aa0 : Option Addr) (ca0 : Nat) (ha0 : RdG B w0 G Aa0 (a0.map (Value.int .u8))) (ka0 : a0.length ≤ ca0) (r : Bool) (H : EscapeNexts.f K a0 a1 a2 = some r) (w : World) (hw : St B w0 (G) w) :
    Calls Try.prog 4 [.slice Aa0 a0.length ca0, .int .i64 a1, .int .i64 a2].toArray w (fun e w' => e = .returned (.bool r) ∧ St B w0 (G) w') := by
  unfold EscapeNexts.f at H
  refine calls_of (n := 50) (s := [(0, .slice Aa0 a0.length ca0), (1, .int .i64 a1), (2, .int .i64 a2)]) Try.func4 rfl rfl rfl rfl ?_ hw
  refine C.rs ?_
  refine J.p rfl rfl rfl rfl (Y.asg rfl) ?_
  refine J.nx ?_
  refine C.rs ?_
  refine J.p rfl rfl rfl rfl (Y.mv rfl) ?_
  obtain ⟨t1, hC2, H⟩ := bind_some H
  refine J.call (us := []) (cap := []) rfl rfl rfl go15 (fun w hw => room.calls K a0 Aa0 ca0 ha0 ka0 t1 hC2 w hw) (fun e w1 h1 => ?_)
  obtain ⟨A3, c4, rfl, hw34⟩ := h1
  refine ⟨_, _, rfl, hw34, ?_⟩
  refine J.p rfl rfl rfl rfl (Y.asg rfl) ?_
  refine J.nx ?_
  refine C.rs ?_
  refine J.p rfl rfl rfl rfl (Y.mv rfl) ?_
  refine J.p rfl rfl rfl rfl (Y.mv rfl) ?_
  refine J.p rfl rfl rfl rfl (Y.lenS Try.underlying25 rfl) ?_
  obtain ⟨p7, H⟩ := gd_some H
  refine J.know (own_leL 0 rfl) (fun hc6 => ?_)
  refine J.p rfl rfl rfl rfl (Y.slcL Try.underlying25 ti5 rfl bnd.no (bnd.yes rfl p7.1) p7.2 hc6) ?_
  refine J.p rfl rfl rfl rfl (Y.mv rfl) ?_
  obtain ⟨t8, hC9, H⟩ := bind_some H
  refine J.call (us := []) (cap := []) rfl rfl rfl go16 (fun w hw => Next.calls ((t1.take (Int.toNat (a0.length : Int))).drop 0) a1 (subA 1 A3 c4 0) (c4 - 0) (RdG.subL (l := 0) (h := (Int.toNat (a0.length : Int))) (RdG.own 0 rfl) hc6) (hc_sub hc6) t8 hC9 w hw) (fun e w1 h1 => ?_)
  obtain ⟨rfl, hw33⟩ := h1
  refine ⟨_, _, rfl, hw33, ?_⟩
  refine J.p rfl rfl rfl rfl (Y.asg rfl) ?_
  refine J.nx ?_
  refine C.rs ?_
  refine J.p rfl rfl rfl rfl (Y.mv rfl) ?_
  refine J.p rfl rfl rfl rfl (Y.mv rfl) ?_
  refine J.p rfl rfl rfl rfl (Y.lenS Try.underlying25 rfl) ?_
  obtain ⟨p11, H⟩ := gd_some H
  refine J.know (own_leL 0 rfl) (fun hc10 => ?_)
  refine J.p rfl rfl rfl rfl (Y.slcL Try.underlying25 ti5 rfl bnd.no (bnd.yes rfl p11.1) p11.2 hc10) ?_
  refine J.p rfl rfl rfl rfl (Y.mv rfl) ?_
  obtain ⟨t12, hC13, H⟩ := bind_some H
  refine J.call (us := []) (cap := []) rfl rfl rfl go16 (fun w hw => Next.calls ((t1.take (Int.toNat (a0.length : Int))).drop 0) a2 (subA 1 A3 c4 0) (c4 - 0) (RdG.subL (l := 0) (h := (Int.toNat (a0.length : Int))) (RdG.own 0 rfl) hc10) (hc_sub hc10) t12 hC13 w hw) (fun e w1 h1 => ?_)
  obtain ⟨rfl, hw32⟩ := h1
  refine ⟨_, _, rfl, hw32, ?_⟩
  refine J.p rfl rfl rfl rfl (Y.asg rfl) ?_
  refine J.nx ?_
  refine C.rs ?_
  refine J.bsL (enc := (Value.int .u8)) (xs := [0, 167, 167]) rfl Try.underlying25 ti5 rfl rfl rfl rfl rfl (fun A14 => ?_)
  obtain ⟨t16, hC17, H⟩ := bind_some H
  refine J.call (us := []) (cap := []) rfl rfl rfl go16 (fun w hw => Next.calls [0, 167, 167] 2 A14 3 (RdG.own 0 rfl) (show [0, 167, 167].length ≤ 3 from Nat.le_refl _) t16 hC17 w hw) (fun e w1 h1 => ?_)
  obtain ⟨rfl, hw31⟩ := h1
  refine ⟨_, _, rfl, hw31, ?_⟩
  refine J.p rfl rfl rfl rfl (Y.asg rfl) ?_
  refine J.nx ?_
  refine C.rs ?_
  refine J.p rfl rfl rfl rfl (Y.mv rfl) ?_
  refine J.p rfl rfl rfl rfl (Y.mv rfl) ?_
  refine J.know (own_leL 1 rfl) (fun hc18 => ?_)
  obtain ⟨t19, hC20, H⟩ := bind_some H
  refine J.call (us := []) (cap := []) rfl rfl rfl go17 (fun w hw => whole.calls K t1 a0 A3 c4 Aa0 ca0 (RdG.own 1 rfl) hc18 (ha0.suf [_, _] rfl) ka0 t19 hC20 w hw) (fun e w1 h1 => ?_)
  obtain ⟨rfl, hw30⟩ := h1
  refine ⟨_, _, rfl, hw30, ?_⟩
  refine J.p rfl rfl rfl rfl (Y.asg rfl) ?_
  refine J.nx ?_
  refine C.rs ?_
  refine J.p rfl rfl rfl rfl (Y.mv rfl) ?_
  refine J.p rfl rfl rfl rfl (Y.mv rfl) ?_
  refine split2 H (fun c21 H => ?_) (fun c21 H => ?_)
  · refine J.as (k := 32) rfl (congrArg Value.bool (c21)) ?_
    refine J.p rfl rfl rfl rfl (Y.mv rfl) ?_
    refine J.p rfl rfl rfl rfl (Y.mv rfl) ?_
    refine J.p rfl rfl rfl rfl (Y.mv rfl) ?_
    refine J.want rfl ?_
    obtain ⟨t22, hC23, H⟩ := bind_some H
    refine J.call (us := []) (cap := []) rfl rfl rfl go18 (fun w hw => refNext.calls K a0 a1 Aa0 ca0 (ha0.suf [_, _] rfl) ka0 t22 hC23 w hw) (fun e w1 h1 => ?_)
    obtain ⟨rfl, hw29⟩ := h1
    refine ⟨_, _, rfl, hw29, ?_⟩
    refine J.p rfl rfl rfl rfl (Y.bin rfl rfl rfl) ?_
    refine J.p rfl rfl rfl rfl (Y.pickT rfl rfl) ?_
    refine J.p rfl rfl rfl rfl (Y.mv rfl) ?_
    refine split2 H (fun c24 H => ?_) (fun c24 H => ?_)
    · refine J.as (k := 39) rfl (congrArg Value.bool (decide_eq_true c24)) ?_
      refine J.p rfl rfl rfl rfl (Y.mv rfl) ?_
      refine J.p rfl rfl rfl rfl (Y.mv rfl) ?_
      refine J.p rfl rfl rfl rfl (Y.mv rfl) ?_
      refine J.want rfl ?_
      obtain ⟨t25, hC26, H⟩ := bind_some H
      refine J.call (us := []) (cap := []) rfl rfl rfl go18 (fun w hw => refNext.calls K a0 a2 Aa0 ca0 (ha0.suf [_, _] rfl) ka0 t25 hC26 w hw) (fun e w1 h1 => ?_)
      obtain ⟨rfl, hw28⟩ := h1
      refine ⟨_, _, rfl, hw28, ?_⟩
      refine J.p rfl rfl rfl rfl (Y.bin rfl rfl rfl) ?_
      refine J.p rfl rfl rfl rfl (Y.pickT rfl rfl) ?_
      refine J.p rfl rfl rfl rfl (Y.mv rfl) ?_
      refine split2 H (fun c27 H => ?_) (fun c27 H => ?_)
      · refine J.as (k := 46) rfl (congrArg Value.bool (decide_eq_true c27)) ?_
        refine J.p rfl rfl rfl rfl (Y.mv rfl) ?_
        refine J.p rfl rfl rfl rfl (Y.bin rfl rfl rfl) ?_
        refine J.p rfl rfl rfl rfl (Y.pickT rfl rfl) ?_
        refine J.p rfl rfl rfl rfl (Y.asg rfl) ?_
        refine J.nx ?_
        refine C.ret ?_
        obtain rfl := Option.some.inj H
        exact ret_ok (ks := [6]) rfl rfl (fun w h => ⟨rfl, (St.pick [] [_, _] h rfl)⟩)
      · refine J.as (k := 46) rfl (congrArg Value.bool (decide_eq_false c27)) ?_
        refine J.skip rfl rfl ?_
        refine J.skip rfl rfl ?_
        refine J.p rfl rfl rfl rfl (Y.pickF rfl rfl) ?_
        refine J.p rfl rfl rfl rfl (Y.asg rfl) ?_
        refine J.nx ?_
        refine C.ret ?_
        obtain rfl := Option.some.inj H
        exact ret_ok (ks := [6]) rfl rfl (fun w h => ⟨rfl, (St.pick [] [_, _] h rfl)⟩)
    · refine J.as (k := 39) rfl (congrArg Value.bool (decide_eq_false c24)) ?_
      refine J.skip rfl rfl ?_
      refine J.skip rfl rfl ?_
      refine J.skip rfl rfl ?_
      refine J.skip rfl rfl ?_
      refine J.skip rfl rfl ?_
      refine J.p rfl rfl rfl rfl (Y.pickF rfl rfl) ?_
      refine J.p rfl rfl rfl rfl (Y.mv rfl) ?_
      refine J.skip rfl rfl ?_
      refine J.skip rfl rfl ?_
      refine J.p rfl rfl rfl rfl (Y.pickF rfl rfl) ?_
      refine J.p rfl rfl rfl rfl (Y.asg rfl) ?_
      refine J.nx ?_
      refine C.ret ?_
      obtain rfl := Option.some.inj H
      exact ret_ok (ks := [6]) rfl rfl (fun w h => ⟨rfl, (St.pick [] [_, _] h rfl)⟩)
  · refine J.as (k := 32) rfl (congrArg Value.bool (nt c21)) ?_
    refine J.skip rfl rfl ?_
    refine J.skip rfl rfl ?_
    refine J.skip rfl rfl ?_
    refine J.skip rfl rfl ?_
    refine J.skip rfl rfl ?_
    refine J.p rfl rfl rfl rfl (Y.pickF rfl rfl) ?_
    refine J.p rfl rfl rfl rfl (Y.mv rfl) ?_
    refine J.skip rfl rfl ?_
    refine J.skip rfl rfl ?_
    refine J.skip rfl rfl ?_
    refine J.skip rfl rfl ?_
    refine J.skip rfl rfl ?_
    refine J.p rfl rfl rfl rfl (Y.pickF rfl rfl) ?_
    refine J.p rfl rfl rfl rfl (Y.mv rfl) ?_
    refine J.skip rfl rfl ?_
    refine J.skip rfl rfl ?_
    refine J.p rfl rfl rfl rfl (Y.pickF rfl rfl) ?_
    refine J.p rfl rfl rfl rfl (Y.asg rfl) ?_
    refine J.nx ?_
    refine C.ret ?_
    obtain rfl := Option.some.inj H
    exact ret_ok (ks := [6]) rfl rfl (fun w h => ⟨rfl, (St.pick [] [_, _] h rfl)⟩)
/-! ### salvor/salvorlaw3.EscapeBack: function 12 -/
def EscapeBack.l1 (t3 : (List Int)) : Nat → (Bool × Int) → Option (Bool)
  | 0, _ => none
  | k + 1, i59 => if i59.2 < (t3.length : Int) then (if i59.1 = true then (gd ((0 : Int) ≤ i59.2 ∧ i59.2 < (t3.length : Int)) (gd ((0 : Int) ≤ i59.2 ∧ i59.2 < (t3.length : Int)) (EscapeBack.l1 t3 k (decide ((rd t3 i59.2) ≠ 167), IntKind.wrap .i64 (i59.2 + 1))))) else (EscapeBack.l1 t3 k (false, IntKind.wrap .i64 (i59.2 + 1)))) else (some i59.1)
def EscapeBack.f (K : Nat) (a0 : List Int) : Option (Bool) := (awake.f K).bind fun t1 => (Wrap.f K a0).bind fun t3 => (Size.f K a0).bind fun t8 => (Next.f t3 0).bind fun t11 => (Open.f K t3).bind fun t14 => (same.f t14.1 a0).bind fun t20 => (EscapeBack.l1 t3 K (t20, 0)).bind fun o40 => if t1 = true then (if o40 = true then (if t14.2.1 = 0 then (if t14.2.2 = 0 then (if t8 = (t3.length : Int) then (if t11 = (t3.length : Int) then (if (a0.length : Int) ≤ t8 then (some (decide (t8 ≤ (IntKind.wrap .i64 (2 * (a0.length : Int)))))) else (some false)) else (some false)) else (some false)) else (some false)) else (some false)) else (some false)) else (some false)
theorem EscapeBack.calls {B : Nat} {w0 : World} {G : List HP} (K : Nat) (a0 : List Int) (Aa0 : Option Addr) (ca0 : Nat) (ha0 : RdG B w0 G Aa0 (a0.map (Value.int .u8))) (ka0 : a0.length ≤ ca0) (r : Bool) (H : EscapeBack.f K a0 = some r) (w : World) (hw : St B w0 (G) w) :
    Calls Try.prog 12 [.slice Aa0 a0.length ca0].toArray w (fun e w' => e = .returned (.bool r) ∧ St B w0 (G) w') := by
  unfold EscapeBack.f at H
  refine calls_of (n := 79) (s := [(0, .slice Aa0 a0.length ca0)]) Try.func12 rfl rfl rfl rfl ?_ hw
  refine C.rs ?_
  refine J.p rfl rfl rfl rfl (Y.asg rfl) ?_
  refine J.nx ?_
  refine C.rs ?_
  obtain ⟨t1, hC2, H⟩ := bind_some H
  refine J.call (us := []) (cap := []) rfl rfl rfl go24 (fun w hw => awake.calls K t1 hC2 w hw) (fun e w1 h1 => ?_)
  obtain ⟨rfl, hw80⟩ := h1
  refine ⟨_, _, rfl, hw80, ?_⟩
  refine J.p rfl rfl rfl rfl (Y.asg rfl) ?_
  refine J.nx ?_
  refine C.rs ?_
  refine J.p rfl rfl rfl rfl (Y.mv rfl) ?_
  obtain ⟨t3, hC4, H⟩ := bind_some H
  refine J.call (us := []) (cap := []) rfl rfl rfl go25 (fun w hw => Wrap.calls K a0 Aa0 ca0 ha0 ka0 t3 hC4 w hw) (fun e w1 h1 => ?_)
  obtain ⟨A5, c6, rfl, hw79⟩ := h1
  refine ⟨_, _, rfl, hw79, ?_⟩
  refine J.p rfl rfl rfl rfl (Y.asg rfl) ?_
  refine J.nx ?_
  refine C.rs ?_
  refine J.p rfl rfl rfl rfl (Y.mv rfl) ?_
  obtain ⟨t8, hC9, H⟩ := bind_some H
  refine J.call (us := []) (cap := []) rfl rfl rfl go30 (fun w hw => Size.calls K a0 Aa0 ca0 (ha0.suf [_] rfl) ka0 t8 hC9 w hw) (fun e w1 h1 => ?_)
  obtain ⟨rfl, hw78⟩ := h1
  refine ⟨_, _, rfl, hw78, ?_⟩
  refine J.p rfl rfl rfl rfl (Y.asg rfl) ?_
  refine J.nx ?_
  refine C.rs ?_
  refine J.p rfl rfl rfl rfl (Y.mv rfl) ?_
  refine J.know (own_leL 0 rfl) (fun hc10 => ?_)
  obtain ⟨t11, hC12, H⟩ := bind_some H
  refine J.call (us := []) (cap := []) rfl rfl rfl go16 (fun w hw => Next.calls t3 0 A5 c6 (RdG.own 0 rfl) hc10 t11 hC12 w hw) (fun e w1 h1 => ?_)
  obtain ⟨rfl, hw77⟩ := h1
  refine ⟨_, _, rfl, hw77, ?_⟩
  refine J.p rfl rfl rfl rfl (Y.asg rfl) ?_
  refine J.nx ?_
  refine C.rs ?_
  refine J.p rfl rfl rfl rfl (Y.mv rfl) ?_
  refine J.know (own_leL 0 rfl) (fun hc13 => ?_)
  obtain ⟨t14, hC15, H⟩ := bind_some H
  refine J.call (us := []) (cap := []) rfl rfl rfl go29 (fun w hw => Open.calls K t3 A5 c6 (RdG.own 0 rfl) hc13 t14 hC15 w hw) (fun e w1 h1 => ?_)
  obtain ⟨A16, c17, rfl, hw76⟩ := h1
  refine ⟨_, _, rfl, hw76, ?_⟩
  refine J.p rfl rfl rfl rfl (Y.mv rfl) ?_
  refine J.p rfl rfl rfl rfl (Y.ext rfl rfl) ?_
  refine J.p rfl rfl rfl rfl (Y.ext rfl rfl) ?_
  refine J.p rfl rfl rfl rfl (Y.ext rfl rfl) ?_
  refine J.p rfl rfl rfl rfl (Y.asg rfl) ?_
  refine J.p rfl rfl rfl rfl (Y.asg rfl) ?_
  refine J.p rfl rfl rfl rfl (Y.asg rfl) ?_
  refine J.nx ?_
  refine C.rs ?_
  refine J.p rfl rfl rfl rfl (Y.mv rfl) ?_
  refine J.p rfl rfl rfl rfl (Y.mv rfl) ?_
  refine J.know (own_leL 0 rfl) (fun hc19 => ?_)
  obtain ⟨t20, hC21, H⟩ := bind_some H
  refine J.call (us := []) (cap := []) rfl rfl rfl go28 (fun w hw => same.calls t14.1 a0 A16 c17 Aa0 ca0 (RdG.own 0 rfl) hc19 (ha0.suf [_, _] rfl) ka0 t20 hC21 w hw) (fun e w1 h1 => ?_)
  obtain ⟨rfl, hw75⟩ := h1
  refine ⟨_, _, rfl, hw75, ?_⟩
  refine J.p rfl rfl rfl rfl (Y.asg rfl) ?_
  refine J.nx ?_
  refine C.seq ?_
  refine C.rs ?_
  refine J.p rfl rfl rfl rfl (Y.asg rfl) ?_
  refine J.nx ?_
  refine C.joinN H (fun (o40 : Bool) (j41 : Unit) => [(0, .slice Aa0 a0.length ca0), (3, .bool t1), (4, .slice A5 t3.length c6), (5, .int .i64 t8), (6, .int .i64 t11), (8, .int .i64 t14.2.1), (9, .int .i64 t14.2.2), (10, .bool o40)]) (fun (o40 : Bool) (j41 : Unit) => own 5 1 A5 c6 (t3.map (Value.int .u8)) :: G) (fun (o40 : Bool) (j41 : Unit) => True) (fun o38 H HK39 => ?_) (fun o40 j41 H _ => ?_)
  · refine C.blk ?_
    refine C.loop (fun (i : Nat × (Bool × Int) × (Unit)) => [(0, .slice Aa0 a0.length ca0), (3, .bool t1), (4, .slice A5 t3.length c6), (5, .int .i64 t8), (6, .int .i64 t11), (8, .int .i64 t14.2.1), (9, .int .i64 t14.2.2), (10, .bool i.2.1.1), (11, .int .i64 i.2.1.2)]) (fun (i : Nat × (Bool × Int) × (Unit)) => own 5 1 A5 c6 (t3.map (Value.int .u8)) :: G) (fun (i : Nat × (Bool × Int) × (Unit)) => EscapeBack.l1 t3 i.1 i.2.1 = some o38 ∧ (True)) (fun i => i.1) (K, (t20, 0), ()) ⟨H, trivial⟩ (by exact ⟨rfl, rfl, rfl, rfl, rfl, rfl, rfl, rfl, rfl, trivial⟩) (by exact fun w h => (St.pick [1] [_, _] h rfl)) ?_
    rintro ⟨k67, i59, j60⟩ ⟨H, _⟩
    replace H : EscapeBack.l1 t3 k67 i59 = some o38 := H
    obtain ⟨k58, rfl⟩ : ∃ m, k67 = m + 1 := by cases k67 with | zero => exact absurd H (by simp [EscapeBack.l1]) | succ m => exact ⟨m, rfl⟩
    rw [EscapeBack.l1] at H
    refine C.at (s' := [(0, .slice Aa0 a0.length ca0), (3, .bool t1), (4, .slice A5 t3.length c6), (5, .int .i64 t8), (6, .int .i64 t11), (8, .int .i64 t14.2.1), (9, .int .i64 t14.2.2), (10, .bool i59.1), (11, .int .i64 i59.2)]) (G' := own 5 1 A5 c6 (t3.map (Value.int .u8)) :: G) rfl rfl ?_
    refine C.seq ?_
    refine C.rs ?_
    refine J.p rfl rfl rfl rfl (Y.mv rfl) ?_
    refine J.p rfl rfl rfl rfl (Y.mv rfl) ?_
    refine J.p rfl rfl rfl rfl (Y.lenS Try.underlying25 rfl) ?_
    refine J.p rfl rfl rfl rfl (Y.bin rfl rfl rfl) ?_
    refine J.nx ?_
    refine split2 H (fun c61 H => ?_) (fun c61 H => ?_)
    · refine C.condT (congrArg (fun b => some (Value.bool b)) (decide_eq_true c61)) ?_
      refine C.skip ?_
      refine N.nx ?_
      refine C.seq ?_
      refine C.blk ?_
      refine C.reg ?_
      refine J.p rfl rfl rfl rfl (Y.mv rfl) ?_
      refine J.p rfl rfl rfl rfl (Y.mv rfl) ?_
      refine split2 H (fun c62 H => ?_) (fun c62 H => ?_)
      · refine J.as (k := 35) rfl (congrArg Value.bool (c62)) ?_
        refine J.p rfl rfl rfl rfl (Y.mv rfl) ?_
        refine J.p rfl rfl rfl rfl (Y.mv rfl) ?_
        obtain ⟨p65, H⟩ := gd_some H
        refine J.know ((RdG.own 0 rfl).some_ (j := Int.toNat i59.2) (by rw [List.length_map]; exact idx_lt p65)) (fun hh => ?_)
        obtain ⟨a63, ha64⟩ := hh
        refine J.p rfl rfl rfl rfl (Y.ixa Try.underlying25 ti5 rfl rfl p65 ha64) ?_
        obtain ⟨p66, H⟩ := gd_some H
        refine J.r rfl rfl rfl rfl (Y.ldE Try.underlying5 rfl rfl ha64 p66 (RdG.own 0 rfl)) ?_
        refine J.p rfl rfl rfl rfl (Y.bin rfl rfl rfl) ?_
        refine J.p rfl rfl rfl rfl (Y.pickT rfl rfl) ?_
        refine J.p rfl rfl rfl rfl (Y.asg rfl) ?_
        refine J.nil ?_
        refine N.ib ?_
        refine N.nx ?_
        refine C.reg ?_
        refine J.p rfl rfl rfl rfl (Y.mv rfl) ?_
        refine J.p rfl rfl rfl rfl (Y.bin rfl rfl rfl) ?_
        refine J.p rfl rfl rfl rfl (Y.asg rfl) ?_
        refine J.nil ?_
        exact N.again (k58, (decide ((rd t3 i59.2) ≠ 167), IntKind.wrap .i64 (i59.2 + 1)), ()) ⟨H, trivial⟩ (Nat.lt_succ_self _) (by exact ⟨rfl, rfl, rfl, rfl, rfl, rfl, rfl, rfl, rfl, trivial⟩) (by exact fun w h => h)
      · refine J.as (k := 35) rfl (congrArg Value.bool (nt c62)) ?_
        refine J.skip rfl rfl ?_
        refine J.skip rfl rfl ?_
        refine J.skip rfl rfl ?_
        refine J.skip rfl rfl ?_
        refine J.skip rfl rfl ?_
        refine J.p rfl rfl rfl rfl (Y.pickF rfl rfl) ?_
        refine J.p rfl rfl rfl rfl (Y.asg rfl) ?_
        refine J.nil ?_
        refine N.ib ?_
        refine N.nx ?_
        refine C.reg ?_
        refine J.p rfl rfl rfl rfl (Y.mv rfl) ?_
        refine J.p rfl rfl rfl rfl (Y.bin rfl rfl rfl) ?_
        refine J.p rfl rfl rfl rfl (Y.asg rfl) ?_
        refine J.nil ?_
        exact N.again (k58, (false, IntKind.wrap .i64 (i59.2 + 1)), ()) ⟨H, trivial⟩ (Nat.lt_succ_self _) (by exact ⟨rfl, rfl, rfl, rfl, rfl, rfl, rfl, rfl, rfl, trivial⟩) (by exact fun w h => h)
    · refine C.condF (congrArg (fun b => some (Value.bool b)) (decide_eq_false c61)) ?_
      refine C.exit ?_
      refine X.th ?_
      refine X.th ?_
      refine X.hit ?_
      obtain rfl := Option.some.inj H
      exact N.meet (i59.1, ()) ⟨HK39, trivial⟩ (by exact ⟨rfl, rfl, rfl, rfl, rfl, rfl, rfl, rfl, trivial⟩) (by exact fun w h => h)
  · refine N.at (s' := [(0, .slice Aa0 a0.length ca0), (3, .bool t1), (4, .slice A5 t3.length c6), (5, .int .i64 t8), (6, .int .i64 t11), (8, .int .i64 t14.2.1), (9, .int .i64 t14.2.2), (10, .bool o40)]) (G' := own 5 1 A5 c6 (t3.map (Value.int .u8)) :: G) rfl rfl ?_
    refine N.nx ?_
    refine C.rs ?_
    refine J.p rfl rfl rfl rfl (Y.mv rfl) ?_
    refine J.p rfl rfl rfl rfl (Y.mv rfl) ?_
    refine split2 H (fun c68 H => ?_) (fun c68 H => ?_)
    · refine J.as (k := 43) rfl (congrArg Value.bool (c68)) ?_
      refine J.p rfl rfl rfl rfl (Y.mv rfl) ?_
      refine J.p rfl rfl rfl rfl (Y.pickT rfl rfl) ?_
      refine J.p rfl rfl rfl rfl (Y.mv rfl) ?_
      refine split2 H (fun c69 H => ?_) (fun c69 H => ?_)
      · refine J.as (k := 46) rfl (congrArg Value.bool (c69)) ?_
        refine J.p rfl rfl rfl rfl (Y.mv rfl) ?_
        refine J.p rfl rfl rfl rfl (Y.bin rfl rfl rfl) ?_
        refine J.p rfl rfl rfl rfl (Y.pickT rfl rfl) ?_
        refine J.p rfl rfl rfl rfl (Y.mv rfl) ?_
        refine split2 H (fun c70 H => ?_) (fun c70 H => ?_)
        · refine J.as (k := 50) rfl (congrArg Value.bool (decide_eq_true c70)) ?_
          refine J.p rfl rfl rfl rfl (Y.mv rfl) ?_
          refine J.p rfl rfl rfl rfl (Y.bin rfl rfl rfl) ?_
          refine J.p rfl rfl rfl rfl (Y.pickT rfl rfl) ?_
          refine J.p rfl rfl rfl rfl (Y.mv rfl) ?_
          refine split2 H (fun c71 H => ?_) (fun c71 H => ?_)
          · refine J.as (k := 54) rfl (congrArg Value.bool (decide_eq_true c71)) ?_
            refine J.p rfl rfl rfl rfl (Y.mv rfl) ?_
            refine J.p rfl rfl rfl rfl (Y.mv rfl) ?_
            refine J.p rfl rfl rfl rfl (Y.lenS Try.underlying25 rfl) ?_
            refine J.p rfl rfl rfl rfl (Y.bin rfl rfl rfl) ?_
            refine J.p rfl rfl rfl rfl (Y.pickT rfl rfl) ?_
            refine J.p rfl rfl rfl rfl (Y.mv rfl) ?_
            refine split2 H (fun c72 H => ?_) (fun c72 H => ?_)
            · refine J.as (k := 60) rfl (congrArg Value.bool (decide_eq_true c72)) ?_
              refine J.p rfl rfl rfl rfl (Y.mv rfl) ?_
              refine J.p rfl rfl rfl rfl (Y.mv rfl) ?_
              refine J.p rfl rfl rfl rfl (Y.lenS Try.underlying25 rfl) ?_
              refine J.p rfl rfl rfl rfl (Y.bin rfl rfl rfl) ?_
              refine J.p rfl rfl rfl rfl (Y.pickT rfl rfl) ?_
              refine J.p rfl rfl rfl rfl (Y.mv rfl) ?_
              refine split2 H (fun c73 H => ?_) (fun c73 H => ?_)
              · refine J.as (k := 66) rfl (congrArg Value.bool (decide_eq_true c73)) ?_
                refine J.p rfl rfl rfl rfl (Y.mv rfl) ?_
                refine J.p rfl rfl rfl rfl (Y.mv rfl) ?_
                refine J.p rfl rfl rfl rfl (Y.lenS Try.underlying25 rfl) ?_
                refine J.p rfl rfl rfl rfl (Y.bin rfl rfl rfl) ?_
                refine J.p rfl rfl rfl rfl (Y.pickT rfl rfl) ?_
                refine J.p rfl rfl rfl rfl (Y.mv rfl) ?_
                refine split2 H (fun c74 H => ?_) (fun c74 H => ?_)
                · refine J.as (k := 72) rfl (congrArg Value.bool (decide_eq_true c74)) ?_
                  refine J.p rfl rfl rfl rfl (Y.mv rfl) ?_
                  refine J.p rfl rfl rfl rfl (Y.mv rfl) ?_
                  refine J.p rfl rfl rfl rfl (Y.lenS Try.underlying25 rfl) ?_
                  refine J.p rfl rfl rfl rfl (Y.bin rfl rfl rfl) ?_
                  refine J.p rfl rfl rfl rfl (Y.bin rfl rfl rfl) ?_
                  refine J.p rfl rfl rfl rfl (Y.pickT rfl rfl) ?_
                  refine J.p rfl rfl rfl rfl (Y.asg rfl) ?_
                  refine J.nx ?_
                  refine C.ret ?_
                  obtain rfl := Option.some.inj H
                  exact ret_ok (ks := [2]) rfl rfl (fun w h => ⟨rfl, (St.pick [] [_] h rfl)⟩)
                · refine J.as (k := 72) rfl (congrArg Value.bool (decide_eq_false c74)) ?_
                  refine J.skip rfl rfl ?_
                  refine J.skip rfl rfl ?_
                  refine J.skip rfl rfl ?_
                  refine J.skip rfl rfl ?_
                  refine J.skip rfl rfl ?_
                  refine J.p rfl rfl rfl rfl (Y.pickF rfl rfl) ?_
                  refine J.p rfl rfl rfl rfl (Y.asg rfl) ?_
                  refine J.nx ?_
                  refine C.ret ?_
                  obtain rfl := Option.some.inj H
                  exact ret_ok (ks := [2]) rfl rfl (fun w h => ⟨rfl, (St.pick [] [_] h rfl)⟩)
              · refine J.as (k := 66) rfl (congrArg Value.bool (decide_eq_false c73)) ?_
                refine J.skip rfl rfl ?_
                refine J.skip rfl rfl ?_
                refine J.skip rfl rfl ?_
                refine J.skip rfl rfl ?_
                refine J.p rfl rfl rfl rfl (Y.pickF rfl rfl) ?_
                refine J.p rfl rfl rfl rfl (Y.mv rfl) ?_
                refine J.skip rfl rfl ?_
                refine J.skip rfl rfl ?_
                refine J.skip rfl rfl ?_
                refine J.skip rfl rfl ?_
                refine J.skip rfl rfl ?_
                refine J.p rfl rfl rfl rfl (Y.pickF rfl rfl) ?_
                refine J.p rfl rfl rfl rfl (Y.asg rfl) ?_
                refine J.nx ?_
                refine C.ret ?_
                obtain rfl := Option.some.inj H
                exact ret_ok (ks := [2]) rfl rfl (fun w h => ⟨rfl, (St.pick [] [_] h rfl)⟩)
            · refine J.as (k := 60) rfl (congrArg Value.bool (decide_eq_false c72)) ?_
              refine J.skip rfl rfl ?_
              refine J.skip rfl rfl ?_
              refine J.skip rfl rfl ?_
              refine J.skip rfl rfl ?_
              refine J.p rfl rfl rfl rfl (Y.pickF rfl rfl) ?_
              refine J.p rfl rfl rfl rfl (Y.mv rfl) ?_
              refine J.skip rfl rfl ?_
              refine J.skip rfl rfl ?_
              refine J.skip rfl rfl ?_
              refine J.skip rfl rfl ?_
              refine J.p rfl rfl rfl rfl (Y.pickF rfl rfl) ?_
              refine J.p rfl rfl rfl rfl (Y.mv rfl) ?_
              refine J.skip rfl rfl ?_
              refine J.skip rfl rfl ?_
              refine J.skip rfl rfl ?_
              refine J.skip rfl rfl ?_
              refine J.skip rfl rfl ?_
              refine J.p rfl rfl rfl rfl (Y.pickF rfl rfl) ?_
              refine J.p rfl rfl rfl rfl (Y.asg rfl) ?_
              refine J.nx ?_
              refine C.ret ?_
              obtain rfl := Option.some.inj H
              exact ret_ok (ks := [2]) rfl rfl (fun w h => ⟨rfl, (St.pick [] [_] h rfl)⟩)
          · refine J.as (k := 54) rfl (congrArg Value.bool (decide_eq_false c71)) ?_
            refine J.skip rfl rfl ?_
            refine J.skip rfl rfl ?_
            refine J.skip rfl rfl ?_
            refine J.skip rfl rfl ?_
            refine J.p rfl rfl rfl rfl (Y.pickF rfl rfl) ?_
            refine J.p rfl rfl rfl rfl (Y.mv rfl) ?_
            refine J.skip rfl rfl ?_
            refine J.skip rfl rfl ?_
            refine J.skip rfl rfl ?_
            refine J.skip rfl rfl ?_
            refine J.p rfl rfl rfl rfl (Y.pickF rfl rfl) ?_
            refine J.p rfl rfl rfl rfl (Y.mv rfl) ?_
            refine J.skip rfl rfl ?_
            refine J.skip rfl rfl ?_
            refine J.skip rfl rfl ?_
            refine J.skip rfl rfl ?_
            refine J.p rfl rfl rfl rfl (Y.pickF rfl rfl) ?_
            refine J.p rfl rfl rfl rfl (Y.mv rfl) ?_
            refine J.skip rfl rfl ?_
            refine J.skip rfl rfl ?_
            refine J.skip rfl rfl ?_
            refine J.skip rfl rfl ?_
            refine J.skip rfl rfl ?_
            refine J.p rfl rfl rfl rfl (Y.pickF rfl rfl) ?_
            refine J.p rfl rfl rfl rfl (Y.asg rfl) ?_
            refine J.nx ?_
            refine C.ret ?_
            obtain rfl := Option.some.inj H
            exact ret_ok (ks := [2]) rfl rfl (fun w h => ⟨rfl, (St.pick [] [_] h rfl)⟩)
        · refine J.as (k := 50) rfl (congrArg Value.bool (decide_eq_false c70)) ?_
          refine J.skip rfl rfl ?_
          refine J.skip rfl rfl ?_
          refine J.p rfl rfl rfl rfl (Y.pickF rfl rfl) ?_
          refine J.p rfl rfl rfl rfl (Y.mv rfl) ?_
          refine J.skip rfl rfl ?_
          refine J.skip rfl rfl ?_
          refine J.skip rfl rfl ?_
          refine J.skip rfl rfl ?_
          refine J.p rfl rfl rfl rfl (Y.pickF rfl rfl) ?_
          refine J.p rfl rfl rfl rfl (Y.mv rfl) ?_
          refine J.skip rfl rfl ?_
          refine J.skip rfl rfl ?_
          refine J.skip rfl rfl ?_
          refine J.skip rfl rfl ?_
          refine J.p rfl rfl rfl rfl (Y.pickF rfl rfl) ?_
          refine J.p rfl rfl rfl rfl (Y.mv rfl) ?_
          refine J.skip rfl rfl ?_
          refine J.skip rfl rfl ?_
          refine J.skip rfl rfl ?_
          refine J.skip rfl rfl ?_
          refine J.p rfl rfl rfl rfl (Y.pickF rfl rfl) ?_
          refine J.p rfl rfl rfl rfl (Y.mv rfl) ?_
          refine J.skip rfl rfl ?_
          refine J.skip rfl rfl ?_
          refine J.skip rfl rfl ?_
          refine J.skip rfl rfl ?_
          refine J.skip rfl rfl ?_
          refine J.p rfl rfl rfl rfl (Y.pickF rfl rfl) ?_
          refine J.p rfl rfl rfl rfl (Y.asg rfl) ?_
          refine J.nx ?_
          refine C.ret ?_
          obtain rfl := Option.some.inj H
          exact ret_ok (ks := [2]) rfl rfl (fun w h => ⟨rfl, (St.pick [] [_] h rfl)⟩)
      · refine J.as (k := 46) rfl (congrArg Value.bool (nt c69)) ?_
        refine J.skip rfl rfl ?_
        refine J.skip rfl rfl ?_
        refine J.p rfl rfl rfl rfl (Y.pickF rfl rfl) ?_
        refine J.p rfl rfl rfl rfl (Y.mv rfl) ?_
        refine J.skip rfl rfl ?_
        refine J.skip rfl rfl ?_
        refine J.p rfl rfl rfl rfl (Y.pickF rfl rfl) ?_
        refine J.p rfl rfl rfl rfl (Y.mv rfl) ?_
        refine J.skip rfl rfl ?_
        refine J.skip rfl rfl ?_
        refine J.skip rfl rfl ?_
        refine J.skip rfl rfl ?_
        refine J.p rfl rfl rfl rfl (Y.pickF rfl rfl) ?_
        refine J.p rfl rfl rfl rfl (Y.mv rfl) ?_
        refine J.skip rfl rfl ?_
        refine J.skip rfl rfl ?_
        refine J.skip rfl rfl ?_
        refine J.skip rfl rfl ?_
        refine J.p rfl rfl rfl rfl (Y.pickF rfl rfl) ?_
        refine J.p rfl rfl rfl rfl (Y.mv rfl) ?_
        refine J.skip rfl rfl ?_
        refine J.skip rfl rfl ?_
        refine J.skip rfl rfl ?_
        refine J.skip rfl rfl ?_
        refine J.p rfl rfl rfl rfl (Y.pickF rfl rfl) ?_
        refine J.p rfl rfl rfl rfl (Y.mv rfl) ?_
        refine J.skip rfl rfl ?_
        refine J.skip rfl rfl ?_
        refine J.skip rfl rfl ?_
        refine J.skip rfl rfl ?_
        refine J.skip rfl rfl ?_
        refine J.p rfl rfl rfl rfl (Y.pickF rfl rfl) ?_
        refine J.p rfl rfl rfl rfl (Y.asg rfl) ?_
        refine J.nx ?_
        refine C.ret ?_
        obtain rfl := Option.some.inj H
        exact ret_ok (ks := [2]) rfl rfl (fun w h => ⟨rfl, (St.pick [] [_] h rfl)⟩)
    · refine J.as (k := 43) rfl (congrArg Value.bool (nt c68)) ?_
      refine J.skip rfl rfl ?_
      refine J.p rfl rfl rfl rfl (Y.pickF rfl rfl) ?_
      refine J.p rfl rfl rfl rfl (Y.mv rfl) ?_
      refine J.skip rfl rfl ?_
      refine J.skip rfl rfl ?_
      refine J.p rfl rfl rfl rfl (Y.pickF rfl rfl) ?_
      refine J.p rfl rfl rfl rfl (Y.mv rfl) ?_
      refine J.skip rfl rfl ?_
      refine J.skip rfl rfl ?_
      refine J.p rfl rfl rfl rfl (Y.pickF rfl rfl) ?_
      refine J.p rfl rfl rfl rfl (Y.mv rfl) ?_
      refine J.skip rfl rfl ?_
      refine J.skip rfl rfl ?_
      refine J.skip rfl rfl ?_
      refine J.skip rfl rfl ?_
      refine J.p rfl rfl rfl rfl (Y.pickF rfl rfl) ?_
      refine J.p rfl rfl rfl rfl (Y.mv rfl) ?_
      refine J.skip rfl rfl ?_
      refine J.skip rfl rfl ?_
      refine J.skip rfl rfl ?_
      refine J.skip rfl rfl ?_
      refine J.p rfl rfl rfl rfl (Y.pickF rfl rfl) ?_
      refine J.p rfl rfl rfl rfl (Y.mv rfl) ?_
      refine J.skip rfl rfl ?_
      refine J.skip rfl rfl ?_
      refine J.skip rfl rfl ?_
      refine J.skip rfl rfl ?_
      refine J.p rfl rfl rfl rfl (Y.pickF rfl rfl) ?_
      refine J.p rfl rfl rfl rfl (Y.mv rfl) ?_
      refine J.skip rfl rfl ?_
      refine J.skip rfl rfl ?_
      refine J.skip rfl rfl ?_
      refine J.skip rfl rfl ?_
      refine J.skip rfl rfl ?_
      refine J.p rfl rfl rfl rfl (Y.pickF rfl rfl) ?_
      refine J.p rfl rfl rfl rfl (Y.asg rfl) ?_
      refine J.nx ?_
      refine C.ret ?_
      obtain rfl := Option.some.inj H
      exact ret_ok (ks := [2]) rfl rfl (fun w h => ⟨rfl, (St.pick [] [_] h rfl)⟩)
/-! ### salvor/salvorlaw3.EscapeOnly: function 9 -/
def EscapeOnly.f (K : Nat) (a0 : List Int) : Option (Bool) := (awake.f K).bind fun t1 => (Open.f K a0).bind fun t3 => (if t1 = true then (if t3.2.2 < 0 then (some true) else (some (decide ((a0.length : Int) < t3.2.2)))) else (some true)).bind fun o10 => if o10 = true then (some false) else (if t3.2.1 ≠ 0 then (if (t3.1.length : Int) = 0 then (if t3.2.2 < (a0.length : Int) then (if t3.2.1 = 31 then (gd ((0 : Int) ≤ t3.2.2 ∧ t3.2.2 < (a0.length : Int)) (gd ((0 : Int) ≤ t3.2.2 ∧ t3.2.2 < (a0.length : Int)) (if (rd a0 t3.2.2) = 167 then (some true) else (if t3.2.1 = 32 then (gd ((0 : Int) ≤ t3.2.2 ∧ t3.2.2 < (a0.length : Int)) (gd ((0 : Int) ≤ t3.2.2 ∧ t3.2.2 < (a0.length : Int)) (some (decide ((rd a0 t3.2.2) = 166))))) else (some false))))) else (if t3.2.1 = 32 then (gd ((0 : Int) ≤ t3.2.2 ∧ t3.2.2 < (a0.length : Int)) (gd ((0 : Int) ≤ t3.2.2 ∧ t3.2.2 < (a0.length : Int)) (some (decide ((rd a0 t3.2.2) = 166))))) else (some false))) else (some false)) else (some false)) else ((Wrap.f K t3.1).bind fun t37 => (same.f t37 a0).bind fun t43 => some t43))
theorem EscapeOnly.calls {B : Nat} {w0 : World} {G : List HP} (K : Nat) (a0 : List Int) (Aa0 : Option Addr) (ca0 : Nat) (ha0 : RdG B w0 G Aa0 (a0.map (Value.int .u8))) (ka0 : a0.length ≤ ca0) (r : Bool) (H : EscapeOnly.f K a0 = some r) (w : World) (hw : St B w0 (G) w) :
    Calls Try.prog 9 [.slice Aa0 a0.length ca0].toArray w (fun e w' => e = .returned (.bool r) ∧ St B w0 (G) w') := by
  unfold EscapeOnly.f at H
  refine calls_of (n := 65) (s := [(0, .slice Aa0 a0.length ca0)]) Try.func9 rfl rfl rfl rfl ?_ hw
  refine C.rs ?_
  refine J.p rfl rfl rfl rfl (Y.asg rfl) ?_
  refine J.nx ?_
  refine C.rs ?_
  obtain ⟨t1, hC2, H⟩ := bind_some H
  refine J.call (us := []) (cap := []) rfl rfl rfl go24 (fun w hw => awake.calls K t1 hC2 w hw) (fun e w1 h1 => ?_)
  obtain ⟨rfl, hw48⟩ := h1
  refine ⟨_, _, rfl, hw48, ?_⟩
  refine J.p rfl rfl rfl rfl (Y.asg rfl) ?_
  refine J.nx ?_
  refine C.rs ?_
  refine J.p rfl rfl rfl rfl (Y.mv rfl) ?_
  obtain ⟨t3, hC4, H⟩ := bind_some H
  refine J.call (us := []) (cap := []) rfl rfl rfl go29 (fun w hw => Open.calls K a0 Aa0 ca0 ha0 ka0 t3 hC4 w hw) (fun e w1 h1 => ?_)
  obtain ⟨A5, c6, rfl, hw47⟩ := h1
  refine ⟨_, _, rfl, hw47, ?_⟩
  refine J.p rfl rfl rfl rfl (Y.mv rfl) ?_
  refine J.p rfl rfl rfl rfl (Y.ext rfl rfl) ?_
  refine J.p rfl rfl rfl rfl (Y.ext rfl rfl) ?_
  refine J.p rfl rfl rfl rfl (Y.ext rfl rfl) ?_
  refine J.p rfl rfl rfl rfl (Y.asg rfl) ?_
  refine J.p rfl rfl rfl rfl (Y.asg rfl) ?_
  refine J.p rfl rfl rfl rfl (Y.asg rfl) ?_
  refine J.nx ?_
  refine C.seq ?_
  refine C.rs ?_
  refine J.joinB H (fun (o10 : Bool) (j11 : Unit) => [(0, .slice Aa0 a0.length ca0), (4, .slice A5 t3.1.length c6), (5, .int .i64 t3.2.1), (6, .int .i64 t3.2.2), (26, .bool o10)]) (fun (o10 : Bool) (j11 : Unit) => own 5 1 A5 c6 (t3.1.map (Value.int .u8)) :: G) (fun (o10 : Bool) (j11 : Unit) => True) (fun o12 H HK13 => ?_) (fun o10 j11 H _ => ?_)
  · refine J.p rfl rfl rfl rfl (Y.mv rfl) ?_
    refine J.p rfl rfl rfl rfl (Y.notb rfl) ?_
    refine J.p rfl rfl rfl rfl (Y.mv rfl) ?_
    refine split2 H (fun c14 H => ?_) (fun c14 H => ?_)
    · refine J.as (k := 17) rfl (congrArg Value.bool (congrArg Bool.not (c14))) ?_
      refine J.p rfl rfl rfl rfl (Y.mv rfl) ?_
      refine J.p rfl rfl rfl rfl (Y.bin rfl rfl rfl) ?_
      refine J.p rfl rfl rfl rfl (Y.pickF rfl rfl) ?_
      refine J.p rfl rfl rfl rfl (Y.mv rfl) ?_
      refine split2 H (fun c15 H => ?_) (fun c15 H => ?_)
      · refine J.as (k := 21) rfl (congrArg Value.bool (decide_eq_true c15)) ?_
        refine J.skip rfl rfl ?_
        refine J.skip rfl rfl ?_
        refine J.skip rfl rfl ?_
        refine J.skip rfl rfl ?_
        refine J.p rfl rfl rfl rfl (Y.pickT rfl rfl) ?_
        refine J.nil ?_
        obtain rfl := Option.some.inj H
        exact N.meet (true, ()) ⟨HK13, trivial⟩ (by exact ⟨rfl, rfl, rfl, rfl, rfl, trivial⟩) (by exact fun w h => h)
      · refine J.as (k := 21) rfl (congrArg Value.bool (decide_eq_false c15)) ?_
        refine J.p rfl rfl rfl rfl (Y.mv rfl) ?_
        refine J.p rfl rfl rfl rfl (Y.mv rfl) ?_
        refine J.p rfl rfl rfl rfl (Y.lenS Try.underlying25 rfl) ?_
        refine J.p rfl rfl rfl rfl (Y.bin rfl rfl rfl) ?_
        refine J.p rfl rfl rfl rfl (Y.pickF rfl rfl) ?_
        refine J.nil ?_
        obtain rfl := Option.some.inj H
        exact N.meet (decide ((a0.length : Int) < t3.2.2), ()) ⟨HK13, trivial⟩ (by exact ⟨rfl, rfl, rfl, rfl, rfl, trivial⟩) (by exact fun w h => h)
    · refine J.as (k := 17) rfl (congrArg Value.bool (congrArg Bool.not (nt c14))) ?_
      refine J.skip rfl rfl ?_
      refine J.skip rfl rfl ?_
      refine J.p rfl rfl rfl rfl (Y.pickT rfl rfl) ?_
      refine J.p rfl rfl rfl rfl (Y.mv rfl) ?_
      refine J.skip rfl rfl ?_
      refine J.skip rfl rfl ?_
      refine J.skip rfl rfl ?_
      refine J.skip rfl rfl ?_
      refine J.p rfl rfl rfl rfl (Y.pickT rfl rfl) ?_
      refine J.nil ?_
      obtain rfl := Option.some.inj H
      exact N.meet (true, ()) ⟨HK13, trivial⟩ (by exact ⟨rfl, rfl, rfl, rfl, rfl, trivial⟩) (by exact fun w h => h)
  · refine C.at (s' := [(0, .slice Aa0 a0.length ca0), (4, .slice A5 t3.1.length c6), (5, .int .i64 t3.2.1), (6, .int .i64 t3.2.2), (26, .bool o10)]) (G' := own 5 1 A5 c6 (t3.1.map (Value.int .u8)) :: G) rfl rfl ?_
    refine split2 H (fun c16 H => ?_) (fun c16 H => ?_)
    · refine C.condT (congrArg (fun b => some (Value.bool b)) (c16)) ?_
      refine C.rs ?_
      refine J.p rfl rfl rfl rfl (Y.asg rfl) ?_
      refine J.nx ?_
      refine C.ret ?_
      obtain rfl := Option.some.inj H
      refine T.th ?_
      exact ret_ok (ks := [2]) rfl rfl (fun w h => ⟨rfl, (St.pick [] [_] h rfl)⟩)
    · refine C.condF (congrArg (fun b => some (Value.bool b)) (nt c16)) ?_
      refine C.skip ?_
      refine N.nx ?_
      refine C.seq ?_
      refine C.rs ?_
      refine J.p rfl rfl rfl rfl (Y.mv rfl) ?_
      refine J.p rfl rfl rfl rfl (Y.bin rfl rfl rfl) ?_
      refine J.nx ?_
      refine split2 H (fun c17 H => ?_) (fun c17 H => ?_)
      · refine C.condT (congrArg (fun b => some (Value.bool b)) (decide_eq_true c17)) ?_
        refine C.rs ?_
        refine J.p rfl rfl rfl rfl (Y.mv rfl) ?_
        refine J.p rfl rfl rfl rfl (Y.lenS Try.underlying25 rfl) ?_
        refine J.p rfl rfl rfl rfl (Y.bin rfl rfl rfl) ?_
        refine J.p rfl rfl rfl rfl (Y.mv rfl) ?_
        refine split2 H (fun c18 H => ?_) (fun c18 H => ?_)
        · refine J.as (k := 32) rfl (congrArg Value.bool (decide_eq_true c18)) ?_
          refine J.p rfl rfl rfl rfl (Y.mv rfl) ?_
          refine J.p rfl rfl rfl rfl (Y.mv rfl) ?_
          refine J.p rfl rfl rfl rfl (Y.lenS Try.underlying25 rfl) ?_
          refine J.p rfl rfl rfl rfl (Y.bin rfl rfl rfl) ?_
          refine J.p rfl rfl rfl rfl (Y.pickT rfl rfl) ?_
          refine J.p rfl rfl rfl rfl (Y.mv rfl) ?_
          refine split2 H (fun c19 H => ?_) (fun c19 H => ?_)
          · refine J.as (k := 38) rfl (congrArg Value.bool (decide_eq_true c19)) ?_
            refine J.p rfl rfl rfl rfl (Y.mv rfl) ?_
            refine J.p rfl rfl rfl rfl (Y.bin rfl rfl rfl) ?_
            refine J.p rfl rfl rfl rfl (Y.mv rfl) ?_
            refine split2 H (fun c20 H => ?_) (fun c20 H => ?_)
            · refine J.as (k := 41) rfl (congrArg Value.bool (decide_eq_true c20)) ?_
              refine J.p rfl rfl rfl rfl (Y.mv rfl) ?_
              refine J.p rfl rfl rfl rfl (Y.mv rfl) ?_
              obtain ⟨p23, H⟩ := gd_some H
              refine J.know ((ha0.suf [_] rfl).some_ (j := Int.toNat t3.2.2) (by rw [List.length_map]; exact idx_lt p23)) (fun hh => ?_)
              obtain ⟨a21, ha22⟩ := hh
              refine J.p rfl rfl rfl rfl (Y.ixa Try.underlying25 ti5 rfl rfl p23 ha22) ?_
              obtain ⟨p24, H⟩ := gd_some H
              refine J.r rfl rfl rfl rfl (Y.ldE Try.underlying5 rfl rfl ha22 p24 (ha0.suf [_] rfl)) ?_
              refine J.p rfl rfl rfl rfl (Y.bin rfl rfl rfl) ?_
              refine J.p rfl rfl rfl rfl (Y.pickT rfl rfl) ?_
              refine J.p rfl rfl rfl rfl (Y.mv rfl) ?_
              refine split2 H (fun c25 H => ?_) (fun c25 H => ?_)
              · refine J.as (k := 48) rfl (congrArg Value.bool (decide_eq_true c25)) ?_
                refine J.skip rfl rfl ?_
                refine J.skip rfl rfl ?_
                refine J.skip rfl rfl ?_
                refine J.skip rfl rfl ?_
                refine J.skip rfl rfl ?_
                refine J.skip rfl rfl ?_
                refine J.skip rfl rfl ?_
                refine J.skip rfl rfl ?_
                refine J.skip rfl rfl ?_
                refine J.p rfl rfl rfl rfl (Y.pickT rfl rfl) ?_
                refine J.p rfl rfl rfl rfl (Y.pickT rfl rfl) ?_
                refine J.p rfl rfl rfl rfl (Y.asg rfl) ?_
                refine J.nx ?_
                refine C.ret ?_
                obtain rfl := Option.some.inj H
                refine T.th ?_
                exact ret_ok (ks := [2]) rfl rfl (fun w h => ⟨rfl, (St.pick [] [_] h rfl)⟩)
              · refine J.as (k := 48) rfl (congrArg Value.bool (decide_eq_false c25)) ?_
                refine J.p rfl rfl rfl rfl (Y.mv rfl) ?_
                refine J.p rfl rfl rfl rfl (Y.bin rfl rfl rfl) ?_
                refine J.p rfl rfl rfl rfl (Y.mv rfl) ?_
                refine split2 H (fun c26 H => ?_) (fun c26 H => ?_)
                · refine J.as (k := 51) rfl (congrArg Value.bool (decide_eq_true c26)) ?_
                  refine J.p rfl rfl rfl rfl (Y.mv rfl) ?_
                  refine J.p rfl rfl rfl rfl (Y.mv rfl) ?_
                  obtain ⟨p29, H⟩ := gd_some H
                  refine J.know ((ha0.suf [_] rfl).some_ (j := Int.toNat t3.2.2) (by rw [List.length_map]; exact idx_lt p29)) (fun hh => ?_)
                  obtain ⟨a27, ha28⟩ := hh
                  refine J.p rfl rfl rfl rfl (Y.ixa Try.underlying25 ti5 rfl rfl p29 ha28) ?_
                  obtain ⟨p30, H⟩ := gd_some H
                  refine J.r rfl rfl rfl rfl (Y.ldE Try.underlying5 rfl rfl ha28 p30 (ha0.suf [_] rfl)) ?_
                  refine J.p rfl rfl rfl rfl (Y.bin rfl rfl rfl) ?_
                  refine J.p rfl rfl rfl rfl (Y.pickT rfl rfl) ?_
                  refine J.p rfl rfl rfl rfl (Y.pickF rfl rfl) ?_
                  refine J.p rfl rfl rfl rfl (Y.pickT rfl rfl) ?_
                  refine J.p rfl rfl rfl rfl (Y.asg rfl) ?_
                  refine J.nx ?_
                  refine C.ret ?_
                  obtain rfl := Option.some.inj H
                  refine T.th ?_
                  exact ret_ok (ks := [2]) rfl rfl (fun w h => ⟨rfl, (St.pick [] [_] h rfl)⟩)
                · refine J.as (k := 51) rfl (congrArg Value.bool (decide_eq_false c26)) ?_
                  refine J.skip rfl rfl ?_
                  refine J.skip rfl rfl ?_
                  refine J.skip rfl rfl ?_
                  refine J.skip rfl rfl ?_
                  refine J.skip rfl rfl ?_
                  refine J.p rfl rfl rfl rfl (Y.pickF rfl rfl) ?_
                  refine J.p rfl rfl rfl rfl (Y.pickF rfl rfl) ?_
                  refine J.p rfl rfl rfl rfl (Y.pickT rfl rfl) ?_
                  refine J.p rfl rfl rfl rfl (Y.asg rfl) ?_
                  refine J.nx ?_
                  refine C.ret ?_
                  obtain rfl := Option.some.inj H
                  refine T.th ?_
                  exact ret_ok (ks := [2]) rfl rfl (fun w h => ⟨rfl, (St.pick [] [_] h rfl)⟩)
            · refine J.as (k := 41) rfl (congrArg Value.bool (decide_eq_false c20)) ?_
              refine J.skip rfl rfl ?_
              refine J.skip rfl rfl ?_
              refine J.skip rfl rfl ?_
              refine J.skip rfl rfl ?_
              refine J.skip rfl rfl ?_
              refine J.p rfl rfl rfl rfl (Y.pickF rfl rfl) ?_
              refine J.p rfl rfl rfl rfl (Y.mv rfl) ?_
              refine J.p rfl rfl rfl rfl (Y.mv rfl) ?_
              refine J.p rfl rfl rfl rfl (Y.bin rfl rfl rfl) ?_
              refine J.p rfl rfl rfl rfl (Y.mv rfl) ?_
              refine split2 H (fun c31 H => ?_) (fun c31 H => ?_)
              · refine J.as (k := 51) rfl (congrArg Value.bool (decide_eq_true c31)) ?_
                refine J.p rfl rfl rfl rfl (Y.mv rfl) ?_
                refine J.p rfl rfl rfl rfl (Y.mv rfl) ?_
                obtain ⟨p34, H⟩ := gd_some H
                refine J.know ((ha0.suf [_] rfl).some_ (j := Int.toNat t3.2.2) (by rw [List.length_map]; exact idx_lt p34)) (fun hh => ?_)
                obtain ⟨a32, ha33⟩ := hh
                refine J.p rfl rfl rfl rfl (Y.ixa Try.underlying25 ti5 rfl rfl p34 ha33) ?_
                obtain ⟨p35, H⟩ := gd_some H
                refine J.r rfl rfl rfl rfl (Y.ldE Try.underlying5 rfl rfl ha33 p35 (ha0.suf [_] rfl)) ?_
                refine J.p rfl rfl rfl rfl (Y.bin rfl rfl rfl) ?_
                refine J.p rfl rfl rfl rfl (Y.pickT rfl rfl) ?_
                refine J.p rfl rfl rfl rfl (Y.pickF rfl rfl) ?_
                refine J.p rfl rfl rfl rfl (Y.pickT rfl rfl) ?_
                refine J.p rfl rfl rfl rfl (Y.asg rfl) ?_
                refine J.nx ?_
                refine C.ret ?_
                obtain rfl := Option.some.inj H
                refine T.th ?_
                exact ret_ok (ks := [2]) rfl rfl (fun w h => ⟨rfl, (St.pick [] [_] h rfl)⟩)
              · refine J.as (k := 51) rfl (congrArg Value.bool (decide_eq_false c31)) ?_
                refine J.skip rfl rfl ?_
                refine J.skip rfl rfl ?_
                refine J.skip rfl rfl ?_
                refine J.skip rfl rfl ?_
                refine J.skip rfl rfl ?_
                refine J.p rfl rfl rfl rfl (Y.pickF rfl rfl) ?_
                refine J.p rfl rfl rfl rfl (Y.pickF rfl rfl) ?_
                refine J.p rfl rfl rfl rfl (Y.pickT rfl rfl) ?_
                refine J.p rfl rfl rfl rfl (Y.asg rfl) ?_
                refine J.nx ?_
                refine C.ret ?_
                obtain rfl := Option.some.inj H
                refine T.th ?_
                exact ret_ok (ks := [2]) rfl rfl (fun w h => ⟨rfl, (St.pick [] [_] h rfl)⟩)
          · refine J.as (k := 38) rfl (congrArg Value.bool (decide_eq_false c19)) ?_
            refine J.skip rfl rfl ?_
            refine J.skip rfl rfl ?_
            refine J.skip rfl rfl ?_
            refine J.skip rfl rfl ?_
            refine J.skip rfl rfl ?_
            refine J.skip rfl rfl ?_
            refine J.skip rfl rfl ?_
            refine J.skip rfl rfl ?_
            refine J.skip rfl rfl ?_
            refine J.skip rfl rfl ?_
            refine J.skip rfl rfl ?_
            refine J.skip rfl rfl ?_
            refine J.skip rfl rfl ?_
            refine J.skip rfl rfl ?_
            refine J.skip rfl rfl ?_
            refine J.skip rfl rfl ?_
            refine J.skip rfl rfl ?_
            refine J.skip rfl rfl ?_
            refine J.skip rfl rfl ?_
            refine J.skip rfl rfl ?_
            refine J.p rfl rfl rfl rfl (Y.pickF rfl rfl) ?_
            refine J.p rfl rfl rfl rfl (Y.asg rfl) ?_
            refine J.nx ?_
            refine C.ret ?_
            obtain rfl := Option.some.inj H
            refine T.th ?_
            exact ret_ok (ks := [2]) rfl rfl (fun w h => ⟨rfl, (St.pick [] [_] h rfl)⟩)
        · refine J.as (k := 32) rfl (congrArg Value.bool (decide_eq_false c18)) ?_
          refine J.skip rfl rfl ?_
          refine J.skip rfl rfl ?_
          refine J.skip rfl rfl ?_
          refine J.skip rfl rfl ?_
          refine J.p rfl rfl rfl rfl (Y.pickF rfl rfl) ?_
          refine J.p rfl rfl rfl rfl (Y.mv rfl) ?_
          refine J.skip rfl rfl ?_
          refine J.skip rfl rfl ?_
          refine J.skip rfl rfl ?_
          refine J.skip rfl rfl ?_
          refine J.skip rfl rfl ?_
          refine J.skip rfl rfl ?_
          refine J.skip rfl rfl ?_
          refine J.skip rfl rfl ?_
          refine J.skip rfl rfl ?_
          refine J.skip rfl rfl ?_
          refine J.skip rfl rfl ?_
          refine J.skip rfl rfl ?_
          refine J.skip rfl rfl ?_
          refine J.skip rfl rfl ?_
          refine J.skip rfl rfl ?_
          refine J.skip rfl rfl ?_
          refine J.skip rfl rfl ?_
          refine J.skip rfl rfl ?_
          refine J.skip rfl rfl ?_
          refine J.skip rfl rfl ?_
          refine J.p rfl rfl rfl rfl (Y.pickF rfl rfl) ?_
          refine J.p rfl rfl rfl rfl (Y.asg rfl) ?_
          refine J.nx ?_
          refine C.ret ?_
          obtain rfl := Option.some.inj H
          refine T.th ?_
          exact ret_ok (ks := [2]) rfl rfl (fun w h => ⟨rfl, (St.pick [] [_] h rfl)⟩)
      · refine C.condF (congrArg (fun b => some (Value.bool b)) (decide_eq_false c17)) ?_
        refine C.skip ?_
        refine N.nx ?_
        refine C.rs ?_
        refine J.p rfl rfl rfl rfl (Y.mv rfl) ?_
        refine J.know (own_leL 0 rfl) (fun hc36 => ?_)
        obtain ⟨t37, hC38, H⟩ := bind_some H
        refine J.call (us := []) (cap := []) rfl rfl rfl go25 (fun w hw => Wrap.calls K t3.1 A5 c6 (RdG.own 0 rfl) hc36 t37 hC38 w hw) (fun e w1 h1 => ?_)
        obtain ⟨A39, c40, rfl, hw46⟩ := h1
        refine ⟨_, _, rfl, hw46, ?_⟩
        refine J.p rfl rfl rfl rfl (Y.asg rfl) ?_
        refine J.nx ?_
        refine C.rs ?_
        refine J.p rfl rfl rfl rfl (Y.mv rfl) ?_
        refine J.p rfl rfl rfl rfl (Y.mv rfl) ?_
        refine J.know (own_leL 0 rfl) (fun hc42 => ?_)
        obtain ⟨t43, hC44, H⟩ := bind_some H
        refine J.call (us := []) (cap := []) rfl rfl rfl go28 (fun w hw => same.calls t37 a0 A39 c40 Aa0 ca0 (RdG.own 0 rfl) hc42 (ha0.suf [_, _] rfl) ka0 t43 hC44 w hw) (fun e w1 h1 => ?_)
        obtain ⟨rfl, hw45⟩ := h1
        refine ⟨_, _, rfl, hw45, ?_⟩
        refine J.p rfl rfl rfl rfl (Y.asg rfl) ?_
        refine J.nx ?_
        refine C.ret ?_
        obtain rfl := Option.some.inj H
        exact ret_ok (ks := [2]) rfl rfl (fun w h => ⟨rfl, (St.pick [] [_, _] h rfl)⟩)
/-! ### salvor/salvorlaw3.EscapeJoined: function 10 -/
def EscapeJoined.f (K : Nat) (a0 : List Int) (a1 : List Int) : Option (Bool) := (awake.f K).bind fun t1 => gd ((([] : List Int).length + a0.length) * 1 ≤ 140737488355328) (gd (((([] : List Int) ++ a0).length + a1.length) * 1 ≤ 140737488355328) ((Wrap.f K a0).bind fun t12 => (Wrap.f K a1).bind fun t17 => (Wrap.f K ((([] : List Int) ++ a0) ++ a1)).bind fun t23 => gd ((t12.length + t17.length) * 1 ≤ 140737488355328) ((same.f t23 (t12 ++ t17)).bind fun t34 => (Open.f K a0).bind fun t36 => (Open.f K a1).bind fun t41 => (Open.f K ((([] : List Int) ++ a0) ++ a1)).bind fun t47 => (if t36.2.1 = 0 then (some (decide (t41.2.1 = 0))) else (some false)).bind fun o53 => if o53 = true then ((if t34 = true then (if t47.2.1 = 0 then (gd ((t36.1.length + t41.1.length) * 1 ≤ 140737488355328) ((same.f t47.1 (t36.1 ++ t41.1)).bind fun t82 => some t82)) else (some false)) else (some false)).bind fun o70 => if t1 = true then (some o70) else (some false)) else (if t1 = true then (some t34) else (some false)))))
theorem EscapeJoined.calls {B : Nat} {w0 : World} {G : List HP} (K : Nat) (a0 : List Int) (a1 : List Int) (Aa0 : Option Addr) (ca0 : Nat) (Aa1 : Option Addr) (ca1 : Nat) (ha0 : RdG B w0 G Aa0 (a0.map (Value.int .u8))) (ka0 : a0.length ≤ ca0) (ha1 : RdG B w0 G Aa1 (a1.map (Value.int .u8))) (ka1 : a1.length ≤ ca1) (r : Bool) (H : EscapeJoined.f K a0 a1 = some r) (w : World) (hw : St B w0 (G) w) :
    Calls Try.prog 10 [.slice Aa0 a0.length ca0, .slice Aa1 a1.length ca1].toArray w (fun e w' => e = .returned (.bool r) ∧ St B w0 (G) w') := by
  unfold EscapeJoined.f at H
  refine calls_of (n := 78) (s := [(0, .slice Aa0 a0.length ca0), (1, .slice Aa1 a1.length ca1)]) Try.func10 rfl rfl rfl rfl ?_ hw
  refine C.rs ?_
  refine J.p rfl rfl rfl rfl (Y.asg rfl) ?_
  refine J.nx ?_
  refine C.rs ?_
  obtain ⟨t1, hC2, H⟩ := bind_some H
  refine J.call (us := []) (cap := []) rfl rfl rfl go24 (fun w hw => awake.calls K t1 hC2 w hw) (fun e w1 h1 => ?_)
  obtain ⟨rfl, hw94⟩ := h1
  refine ⟨_, _, rfl, hw94, ?_⟩
  refine J.p rfl rfl rfl rfl (Y.asg rfl) ?_
  refine J.nx ?_
  refine C.rs ?_
  refine J.p rfl rfl rfl rfl (Y.asg rfl) ?_
  refine J.nx ?_
  refine C.rs ?_
  refine J.p rfl rfl rfl rfl (Y.mv rfl) ?_
  refine J.p rfl rfl rfl rfl (Y.mv rfl) ?_
  refine J.nilOwn 5 1 ?_
  obtain ⟨p6, H⟩ := gd_some H
  refine J.appL (enc := (Value.int .u8)) (xs := ([] : List Int)) (ys := a0) rfl Try.underlying25 ti5 rfl (by decide) rfl rfl (fun _ => rfl) (ha0.suf [_] rfl) p6 (fun A4 c5 => ?_)
  refine J.p rfl rfl rfl rfl (Y.asg rfl) ?_
  refine J.nx ?_
  refine C.rs ?_
  refine J.p rfl rfl rfl rfl (Y.mv rfl) ?_
  refine J.p rfl rfl rfl rfl (Y.mv rfl) ?_
  obtain ⟨p10, H⟩ := gd_some H
  refine J.appL (enc := (Value.int .u8)) (xs := (([] : List Int) ++ a0)) (ys := a1) rfl Try.underlying25 ti5 rfl (by decide) rfl rfl (fun _ => rfl) (ha1.suf [_] rfl) p10 (fun A8 c9 => ?_)
  refine J.p rfl rfl rfl rfl (Y.asg rfl) ?_
  refine J.nx ?_
  refine C.rs ?_
  refine J.p rfl rfl rfl rfl (Y.mv rfl) ?_
  obtain ⟨t12, hC13, H⟩ := bind_some H
  refine J.call (us := []) (cap := []) rfl rfl rfl go25 (fun w hw => Wrap.calls K a0 Aa0 ca0 (ha0.suf [_] rfl) ka0 t12 hC13 w hw) (fun e w1 h1 => ?_)
  obtain ⟨A14, c15, rfl, hw93⟩ := h1
  refine ⟨_, _, rfl, hw93, ?_⟩
  refine J.p rfl rfl rfl rfl (Y.asg rfl) ?_
  refine J.nx ?_
  refine C.rs ?_
  refine J.p rfl rfl rfl rfl (Y.mv rfl) ?_
  obtain ⟨t17, hC18, H⟩ := bind_some H
  refine J.call (us := []) (cap := []) rfl rfl rfl go25 (fun w hw => Wrap.calls K a1 Aa1 ca1 (ha1.suf [_, _] rfl) ka1 t17 hC18 w hw) (fun e w1 h1 => ?_)
  obtain ⟨A19, c20, rfl, hw92⟩ := h1
  refine ⟨_, _, rfl, hw92, ?_⟩
  refine J.p rfl rfl rfl rfl (Y.asg rfl) ?_
  refine J.nx ?_
  refine C.rs ?_
  refine J.p rfl rfl rfl rfl (Y.mv rfl) ?_
  refine J.know (own_leL 2 rfl) (fun hc22 => ?_)
  obtain ⟨t23, hC24, H⟩ := bind_some H
  refine J.call (us := []) (cap := []) rfl rfl rfl go25 (fun w hw => Wrap.calls K ((([] : List Int) ++ a0) ++ a1) A8 c9 (RdG.own 2 rfl) hc22 t23 hC24 w hw) (fun e w1 h1 => ?_)
  obtain ⟨A25, c26, rfl, hw91⟩ := h1
  refine ⟨_, _, rfl, hw91, ?_⟩
  refine J.p rfl rfl rfl rfl (Y.asg rfl) ?_
  refine J.nx ?_
  refine C.rs ?_
  refine J.p rfl rfl rfl rfl (Y.mv rfl) ?_
  refine J.p rfl rfl rfl rfl (Y.mv rfl) ?_
  refine J.p rfl rfl rfl rfl (Y.mv rfl) ?_
  refine J.pull 2 rfl rfl ?_
  obtain ⟨p30, H⟩ := gd_some H
  refine J.appL (enc := (Value.int .u8)) (xs := t12) (ys := t17) rfl Try.underlying25 ti5 rfl (by decide) rfl rfl (fun _ => rfl) (RdG.own 2 rfl) p30 (fun A28 c29 => ?_)
  refine J.pull 2 rfl rfl (J.drop ?_)
  refine J.know (own_leL 1 rfl) (fun hc32 => ?_)
  refine J.know (own_leL 0 rfl) (fun hc33 => ?_)
  obtain ⟨t34, hC35, H⟩ := bind_some H
  refine J.call (us := []) (cap := []) rfl rfl rfl go28 (fun w hw => same.calls t23 (t12 ++ t17) A25 c26 A28 c29 (RdG.own 1 rfl) hc32 (RdG.own 0 rfl) hc33 t34 hC35 w hw) (fun e w1 h1 => ?_)
  obtain ⟨rfl, hw90⟩ := h1
  refine ⟨_, _, rfl, hw90, ?_⟩
  refine J.p rfl rfl rfl rfl (Y.asg rfl) ?_
  refine J.nx ?_
  refine C.rs ?_
  refine J.p rfl rfl rfl rfl (Y.mv rfl) ?_
  obtain ⟨t36, hC37, H⟩ := bind_some H
  refine J.call (us := []) (cap := []) rfl rfl rfl go29 (fun w hw => Open.calls K a0 Aa0 ca0 (ha0.suf [_, _, _] rfl) ka0 t36 hC37 w hw) (fun e w1 h1 => ?_)
  obtain ⟨A38, c39, rfl, hw89⟩ := h1
  refine ⟨_, _, rfl, hw89, ?_⟩
  refine J.p rfl rfl rfl rfl (Y.mv rfl) ?_
  refine J.p rfl rfl rfl rfl (Y.ext rfl rfl) ?_
  refine J.p rfl rfl rfl rfl (Y.ext rfl rfl) ?_
  refine J.p rfl rfl rfl rfl (Y.ext rfl rfl) ?_
  refine J.p rfl rfl rfl rfl (Y.asg rfl) ?_
  refine J.p rfl rfl rfl rfl (Y.asg rfl) ?_
  refine J.p rfl rfl rfl rfl (Y.asg rfl) ?_
  refine J.nx ?_
  refine C.rs ?_
  refine J.p rfl rfl rfl rfl (Y.mv rfl) ?_
  obtain ⟨t41, hC42, H⟩ := bind_some H
  refine J.call (us := []) (cap := []) rfl rfl rfl go29 (fun w hw => Open.calls K a1 Aa1 ca1 (ha1.suf [_, _, _, _] rfl) ka1 t41 hC42 w hw) (fun e w1 h1 => ?_)
  obtain ⟨A43, c44, rfl, hw88⟩ := h1
  refine ⟨_, _, rfl, hw88, ?_⟩
  refine J.p rfl rfl rfl rfl (Y.mv rfl) ?_
  refine J.p rfl rfl rfl rfl (Y.ext rfl rfl) ?_
  refine J.p rfl rfl rfl rfl (Y.ext rfl rfl) ?_
  refine J.p rfl rfl rfl rfl (Y.ext rfl rfl) ?_
  refine J.p rfl rfl rfl rfl (Y.asg rfl) ?_
  refine J.p rfl rfl rfl rfl (Y.asg rfl) ?_
  refine J.p rfl rfl rfl rfl (Y.asg rfl) ?_
  refine J.nx ?_
  refine C.rs ?_
  refine J.p rfl rfl rfl rfl (Y.mv rfl) ?_
  refine J.know (own_leL 4 rfl) (fun hc46 => ?_)
  obtain ⟨t47, hC48, H⟩ := bind_some H
  refine J.call (us := []) (cap := []) rfl rfl rfl go29 (fun w hw => Open.calls K ((([] : List Int) ++ a0) ++ a1) A8 c9 (RdG.own 4 rfl) hc46 t47 hC48 w hw) (fun e w1 h1 => ?_)
  obtain ⟨A49, c50, rfl, hw87⟩ := h1
  refine ⟨_, _, rfl, hw87, ?_⟩
  refine J.p rfl rfl rfl rfl (Y.mv rfl) ?_
  refine J.p rfl rfl rfl rfl (Y.ext rfl rfl) ?_
  refine J.p rfl rfl rfl rfl (Y.ext rfl rfl) ?_
  refine J.p rfl rfl rfl rfl (Y.ext rfl rfl) ?_
  refine J.p rfl rfl rfl rfl (Y.asg rfl) ?_
  refine J.p rfl rfl rfl rfl (Y.asg rfl) ?_
  refine J.p rfl rfl rfl rfl (Y.asg rfl) ?_
  refine J.nx ?_
  refine C.seq ?_
  refine C.rs ?_
  refine J.joinB H (fun (o53 : Bool) (j54 : Unit) => [(5, .bool t1), (10, .bool t34), (11, .slice A38 t36.1.length c39), (14, .slice A43 t41.1.length c44), (17, .slice A49 t47.1.length c50), (18, .int .i64 t47.2.1), (61, .bool o53)]) (fun (o53 : Bool) (j54 : Unit) => own 5 1 A38 c39 (t36.1.map (Value.int .u8)) :: own 5 1 A43 c44 (t41.1.map (Value.int .u8)) :: own 5 1 A49 c50 (t47.1.map (Value.int .u8)) :: G) (fun (o53 : Bool) (j54 : Unit) => True) (fun o55 H HK56 => ?_) (fun o53 j54 H _ => ?_)
  · refine J.p rfl rfl rfl rfl (Y.mv rfl) ?_
    refine J.p rfl rfl rfl rfl (Y.bin rfl rfl rfl) ?_
    refine J.p rfl rfl rfl rfl (Y.mv rfl) ?_
    refine split2 H (fun c57 H => ?_) (fun c57 H => ?_)
    · refine J.as (k := 58) rfl (congrArg Value.bool (decide_eq_true c57)) ?_
      refine J.p rfl rfl rfl rfl (Y.mv rfl) ?_
      refine J.p rfl rfl rfl rfl (Y.bin rfl rfl rfl) ?_
      refine J.p rfl rfl rfl rfl (Y.pickT rfl rfl) ?_
      refine J.nil ?_
      obtain rfl := Option.some.inj H
      exact N.meet (decide (t41.2.1 = 0), ()) ⟨HK56, trivial⟩ (by exact ⟨rfl, rfl, rfl, rfl, rfl, rfl, rfl, trivial⟩) (by exact fun w h => (St.pick [2, 1, 0] [_, _, _, _, _, _] h rfl))
    · refine J.as (k := 58) rfl (congrArg Value.bool (decide_eq_false c57)) ?_
      refine J.skip rfl rfl ?_
      refine J.skip rfl rfl ?_
      refine J.p rfl rfl rfl rfl (Y.pickF rfl rfl) ?_
      refine J.nil ?_
      obtain rfl := Option.some.inj H
      exact N.meet (false, ()) ⟨HK56, trivial⟩ (by exact ⟨rfl, rfl, rfl, rfl, rfl, rfl, rfl, trivial⟩) (by exact fun w h => (St.pick [2, 1, 0] [_, _, _, _, _, _] h rfl))
  · refine C.at (s' := [(5, .bool t1), (10, .bool t34), (11, .slice A38 t36.1.length c39), (14, .slice A43 t41.1.length c44), (17, .slice A49 t47.1.length c50), (18, .int .i64 t47.2.1), (61, .bool o53)]) (G' := own 5 1 A38 c39 (t36.1.map (Value.int .u8)) :: own 5 1 A43 c44 (t41.1.map (Value.int .u8)) :: own 5 1 A49 c50 (t47.1.map (Value.int .u8)) :: G) rfl rfl ?_
    refine split2 H (fun c58 H => ?_) (fun c58 H => ?_)
    · refine C.condT (congrArg (fun b => some (Value.bool b)) (c58)) ?_
      refine C.reg ?_
      refine J.joinB H (fun (o70 : Bool) (j71 : Unit) => [(5, .bool t1), (10, .bool o70)]) (fun (o70 : Bool) (j71 : Unit) => G) (fun (o70 : Bool) (j71 : Unit) => True) (fun o72 H HK73 => ?_) (fun o70 j71 H _ => ?_)
      · refine J.p rfl rfl rfl rfl (Y.mv rfl) ?_
        refine J.p rfl rfl rfl rfl (Y.mv rfl) ?_
        refine split2 H (fun c74 H => ?_) (fun c74 H => ?_)
        · refine J.as (k := 63) rfl (congrArg Value.bool (c74)) ?_
          refine J.p rfl rfl rfl rfl (Y.mv rfl) ?_
          refine J.p rfl rfl rfl rfl (Y.bin rfl rfl rfl) ?_
          refine J.p rfl rfl rfl rfl (Y.pickT rfl rfl) ?_
          refine J.p rfl rfl rfl rfl (Y.mv rfl) ?_
          refine split2 H (fun c75 H => ?_) (fun c75 H => ?_)
          · refine J.as (k := 67) rfl (congrArg Value.bool (decide_eq_true c75)) ?_
            refine J.p rfl rfl rfl rfl (Y.mv rfl) ?_
            refine J.p rfl rfl rfl rfl (Y.mv rfl) ?_
            refine J.p rfl rfl rfl rfl (Y.mv rfl) ?_
            refine J.want rfl ?_
            obtain ⟨p78, H⟩ := gd_some H
            refine J.appL (enc := (Value.int .u8)) (xs := t36.1) (ys := t41.1) rfl Try.underlying25 ti5 rfl (by decide) rfl rfl (fun _ => rfl) (RdG.own 1 rfl) p78 (fun A76 c77 => ?_)
            refine J.pull 1 rfl rfl (J.drop ?_)
            refine J.want rfl ?_
            refine J.know (own_leL 1 rfl) (fun hc80 => ?_)
            refine J.know (own_leL 0 rfl) (fun hc81 => ?_)
            obtain ⟨t82, hC83, H⟩ := bind_some H
            refine J.call (us := []) (cap := []) rfl rfl rfl go28 (fun w hw => same.calls t47.1 (t36.1 ++ t41.1) A49 c50 A76 c77 (RdG.own 1 rfl) hc80 (RdG.own 0 rfl) hc81 t82 hC83 w hw) (fun e w1 h1 => ?_)
            obtain ⟨rfl, hw84⟩ := h1
            refine ⟨_, _, rfl, hw84, ?_⟩
            refine J.p rfl rfl rfl rfl (Y.pickT rfl rfl) ?_
            refine J.p rfl rfl rfl rfl (Y.asg rfl) ?_
            refine J.nil ?_
            obtain rfl := Option.some.inj H
            exact N.meet (t82, ()) ⟨HK73, trivial⟩ (by exact ⟨rfl, rfl, trivial⟩) (by exact fun w h => (St.pick [] [_, _] h rfl))
          · refine J.as (k := 67) rfl (congrArg Value.bool (decide_eq_false c75)) ?_
            refine J.skip rfl rfl ?_
            refine J.skip rfl rfl ?_
            refine J.skip rfl rfl ?_
            refine J.skip rfl rfl ?_
            refine J.skip rfl rfl ?_
            refine J.p rfl rfl rfl rfl (Y.pickF rfl rfl) ?_
            refine J.p rfl rfl rfl rfl (Y.asg rfl) ?_
            refine J.nil ?_
            obtain rfl := Option.some.inj H
            exact N.meet (false, ()) ⟨HK73, trivial⟩ (by exact ⟨rfl, rfl, trivial⟩) (by exact fun w h => (St.pick [] [_, _, _] h rfl))
        · refine J.as (k := 63) rfl (congrArg Value.bool (nt c74)) ?_
          refine J.skip rfl rfl ?_
          refine J.skip rfl rfl ?_
          refine J.p rfl rfl rfl rfl (Y.pickF rfl rfl) ?_
          refine J.p rfl rfl rfl rfl (Y.mv rfl) ?_
          refine J.skip rfl rfl ?_
          refine J.skip rfl rfl ?_
          refine J.skip rfl rfl ?_
          refine J.skip rfl rfl ?_
          refine J.skip rfl rfl ?_
          refine J.p rfl rfl rfl rfl (Y.pickF rfl rfl) ?_
          refine J.p rfl rfl rfl rfl (Y.asg rfl) ?_
          refine J.nil ?_
          obtain rfl := Option.some.inj H
          exact N.meet (false, ()) ⟨HK73, trivial⟩ (by exact ⟨rfl, rfl, trivial⟩) (by exact fun w h => (St.pick [] [_, _, _] h rfl))
      · refine C.at (s' := [(5, .bool t1), (10, .bool o70)]) (G' := G) rfl rfl ?_
        refine C.rs ?_
        refine J.p rfl rfl rfl rfl (Y.mv rfl) ?_
        refine J.p rfl rfl rfl rfl (Y.mv rfl) ?_
        refine split2 H (fun c85 H => ?_) (fun c85 H => ?_)
        · refine J.as (k := 75) rfl (congrArg Value.bool (c85)) ?_
          refine J.p rfl rfl rfl rfl (Y.mv rfl) ?_
          refine J.p rfl rfl rfl rfl (Y.pickT rfl rfl) ?_
          refine J.p rfl rfl rfl rfl (Y.asg rfl) ?_
          refine J.nx ?_
          refine C.ret ?_
          obtain rfl := Option.some.inj H
          exact ret_ok (ks := [4]) rfl rfl (fun w h => ⟨rfl, h⟩)
        · refine J.as (k := 75) rfl (congrArg Value.bool (nt c85)) ?_
          refine J.skip rfl rfl ?_
          refine J.p rfl rfl rfl rfl (Y.pickF rfl rfl) ?_
          refine J.p rfl rfl rfl rfl (Y.asg rfl) ?_
          refine J.nx ?_
          refine C.ret ?_
          obtain rfl := Option.some.inj H
          exact ret_ok (ks := [4]) rfl rfl (fun w h => ⟨rfl, h⟩)
    · refine C.condF (congrArg (fun b => some (Value.bool b)) (nt c58)) ?_
      refine C.skip ?_
      refine N.nx ?_
      refine C.rs ?_
      refine J.p rfl rfl rfl rfl (Y.mv rfl) ?_
      refine J.p rfl rfl rfl rfl (Y.mv rfl) ?_
      refine split2 H (fun c86 H => ?_) (fun c86 H => ?_)
      · refine J.as (k := 75) rfl (congrArg Value.bool (c86)) ?_
        refine J.p rfl rfl rfl rfl (Y.mv rfl) ?_
        refine J.p rfl rfl rfl rfl (Y.pickT rfl rfl) ?_
        refine J.p rfl rfl rfl rfl (Y.asg rfl) ?_
        refine J.nx ?_
        refine C.ret ?_
        obtain rfl := Option.some.inj H
        exact ret_ok (ks := [4]) rfl rfl (fun w h => ⟨rfl, (St.pick [] [_, _, _] h rfl)⟩)
      · refine J.as (k := 75) rfl (congrArg Value.bool (nt c86)) ?_
        refine J.skip rfl rfl ?_
        refine J.p rfl rfl rfl rfl (Y.pickF rfl rfl) ?_
        refine J.p rfl rfl rfl rfl (Y.asg rfl) ?_
        refine J.nx ?_
        refine C.ret ?_
        obtain rfl := Option.some.inj H
        exact ret_ok (ks := [4]) rfl rfl (fun w h => ⟨rfl, (St.pick [] [_, _, _] h rfl)⟩)
/-! ### salvor/salvorlaw3.EscapeHeads: function 11 -/
def EscapeHeads.f (K : Nat) (a0 : List Int) (a1 : List Int) : Option (Bool) := (awake.f K).bind fun t1 => (Open.f K a0).bind fun t3 => if t1 = true then (if t3.2.1 = 0 then (some true) else ((if t3.2.2 < 0 then (some true) else (some (decide ((a0.length : Int) ≤ t3.2.2)))).bind fun o11 => if o11 = true then (some false) else (gd ((0 : Int) ≤ t3.2.2 ∧ (0 ≤ (Int.toNat t3.2.2) ∧ (Int.toNat t3.2.2) ≤ a0.length)) ((Open.f K ((a0.take (Int.toNat t3.2.2)).drop 0)).bind fun t18 => (if t3.2.1 = 32 then (some (decide ((IntKind.wrap .i64 (t3.2.2 + 1)) < (a0.length : Int)))) else (some false)).bind fun o24 => if o24 = true then (gd ((0 : Int) ≤ (IntKind.wrap .i64 ((IntKind.wrap .i64 (t3.2.2 + 1)) + 1)) ∧ (0 ≤ (Int.toNat (IntKind.wrap .i64 ((IntKind.wrap .i64 (t3.2.2 + 1)) + 1))) ∧ (Int.toNat (IntKind.wrap .i64 ((IntKind.wrap .i64 (t3.2.2 + 1)) + 1))) ≤ a0.length)) (gd ((([] : List Int).length + ((a0.take (Int.toNat (IntKind.wrap .i64 ((IntKind.wrap .i64 (t3.2.2 + 1)) + 1)))).drop 0).length) * 1 ≤ 140737488355328) ((if t3.2.1 = 31 then (some true) else (some (decide ((IntKind.wrap .i64 ((IntKind.wrap .i64 (t3.2.2 + 1)) + 1)) = (IntKind.wrap .i64 (t3.2.2 + 2)))))).bind fun o37 => if o37 = true then (gd (((([] : List Int) ++ ((a0.take (Int.toNat (IntKind.wrap .i64 ((IntKind.wrap .i64 (t3.2.2 + 1)) + 1)))).drop 0)).length + a1.length) * 1 ≤ 140737488355328) ((Open.f K ((([] : List Int) ++ ((a0.take (Int.toNat (IntKind.wrap .i64 ((IntKind.wrap .i64 (t3.2.2 + 1)) + 1)))).drop 0)) ++ a1)).bind fun t48 => if t18.2.1 = 0 then (if t48.2.1 = t3.2.1 then (some (decide (t48.2.2 = t3.2.2))) else (some false)) else (some false))) else ((Open.f K (([] : List Int) ++ ((a0.take (Int.toNat (IntKind.wrap .i64 ((IntKind.wrap .i64 (t3.2.2 + 1)) + 1)))).drop 0))).bind fun t57 => if t18.2.1 = 0 then (if t57.2.1 = t3.2.1 then (some (decide (t57.2.2 = t3.2.2))) else (some false)) else (some false))))) else (gd ((0 : Int) ≤ (IntKind.wrap .i64 (t3.2.2 + 1)) ∧ (0 ≤ (Int.toNat (IntKind.wrap .i64 (t3.2.2 + 1))) ∧ (Int.toNat (IntKind.wrap .i64 (t3.2.2 + 1))) ≤ a0.length)) (gd ((([] : List Int).length + ((a0.take (Int.toNat (IntKind.wrap .i64 (t3.2.2 + 1)))).drop 0).length) * 1 ≤ 140737488355328) ((if t3.2.1 = 31 then (some true) else (some (decide ((IntKind.wrap .i64 (t3.2.2 + 1)) = (IntKind.wrap .i64 (t3.2.2 + 2)))))).bind fun o72 => if o72 = true then (gd (((([] : List Int) ++ ((a0.take (Int.toNat (IntKind.wrap .i64 (t3.2.2 + 1)))).drop 0)).length + a1.length) * 1 ≤ 140737488355328) ((Open.f K ((([] : List Int) ++ ((a0.take (Int.toNat (IntKind.wrap .i64 (t3.2.2 + 1)))).drop 0)) ++ a1)).bind fun t83 => if t18.2.1 = 0 then (if t83.2.1 = t3.2.1 then (some (decide (t83.2.2 = t3.2.2))) else (some false)) else (some false))) else ((Open.f K (([] : List Int) ++ ((a0.take (Int.toNat (IntKind.wrap .i64 (t3.2.2 + 1)))).drop 0))).bind fun t92 => if t18.2.1 = 0 then (if t92.2.1 = t3.2.1 then (some (decide (t92.2.2 = t3.2.2))) else (some false)) else (some false))))))))) else (some false)
theorem EscapeHeads.calls {B : Nat} {w0 : World} {G : List HP} (K : Nat) (a0 : List Int) (a1 : List Int) (Aa0 : Option Addr) (ca0 : Nat) (Aa1 : Option Addr) (ca1 : Nat) (ha0 : RdG B w0 G Aa0 (a0.map (Value.int .u8))) (ka0 : a0.length ≤ ca0) (ha1 : RdG B w0 G Aa1 (a1.map (Value.int .u8))) (ka1 : a1.length ≤ ca1) (r : Bool) (H : EscapeHeads.f K a0 a1 = some r) (w : World) (hw : St B w0 (G) w) :
    Calls Try.prog 11 [.slice Aa0 a0.length ca0, .slice Aa1 a1.length ca1].toArray w (fun e w' => e = .returned (.bool r) ∧ St B w0 (G) w') := by
  unfold EscapeHeads.f at H
  refine calls_of (n := 90) (s := [(0, .slice Aa0 a0.length ca0), (1, .slice Aa1 a1.length ca1)]) Try.func11 rfl rfl rfl rfl ?_ hw
  refine C.rs ?_
  refine J.p rfl rfl rfl rfl (Y.asg rfl) ?_
  refine J.nx ?_
  refine C.rs ?_
  obtain ⟨t1, hC2, H⟩ := bind_some H
  refine J.call (us := []) (cap := []) rfl rfl rfl go24 (fun w hw => awake.calls K t1 hC2 w hw) (fun e w1 h1 => ?_)
  obtain ⟨rfl, hw102⟩ := h1
  refine ⟨_, _, rfl, hw102, ?_⟩
  refine J.p rfl rfl rfl rfl (Y.asg rfl) ?_
  refine J.nx ?_
  refine C.rs ?_
  refine J.p rfl rfl rfl rfl (Y.mv rfl) ?_
  obtain ⟨t3, hC4, H⟩ := bind_some H
  refine J.call (us := []) (cap := []) rfl rfl rfl go29 (fun w hw => Open.calls K a0 Aa0 ca0 ha0 ka0 t3 hC4 w hw) (fun e w1 h1 => ?_)
  obtain ⟨A5, c6, rfl, hw101⟩ := h1
  refine ⟨_, _, rfl, hw101, ?_⟩
  refine J.p rfl rfl rfl rfl (Y.mv rfl) ?_
  refine J.p rfl rfl rfl rfl (Y.ext rfl rfl) ?_
  refine J.p rfl rfl rfl rfl (Y.ext rfl rfl) ?_
  refine J.p rfl rfl rfl rfl (Y.ext rfl rfl) ?_
  refine J.p rfl rfl rfl rfl (Y.asg rfl) ?_
  refine J.p rfl rfl rfl rfl (Y.asg rfl) ?_
  refine J.p rfl rfl rfl rfl (Y.asg rfl) ?_
  refine J.nx ?_
  refine C.seq ?_
  refine C.rs ?_
  refine J.p rfl rfl rfl rfl (Y.mv rfl) ?_
  refine J.p rfl rfl rfl rfl (Y.notb rfl) ?_
  refine J.nx ?_
  refine split2 H (fun c8 H => ?_) (fun c8 H => ?_)
  · refine C.condF (congrArg (fun b => some (Value.bool b)) (congrArg Bool.not (c8))) ?_
    refine C.skip ?_
    refine N.nx ?_
    refine C.seq ?_
    refine C.rs ?_
    refine J.p rfl rfl rfl rfl (Y.mv rfl) ?_
    refine J.p rfl rfl rfl rfl (Y.bin rfl rfl rfl) ?_
    refine J.nx ?_
    refine split2 H (fun c9 H => ?_) (fun c9 H => ?_)
    · refine C.condT (congrArg (fun b => some (Value.bool b)) (decide_eq_true c9)) ?_
      refine C.rs ?_
      refine J.p rfl rfl rfl rfl (Y.asg rfl) ?_
      refine J.nx ?_
      refine C.ret ?_
      obtain rfl := Option.some.inj H
      refine T.th ?_
      exact ret_ok (ks := [4]) rfl rfl (fun w h => ⟨rfl, (St.pick [] [_] h rfl)⟩)
    · refine C.condF (congrArg (fun b => some (Value.bool b)) (decide_eq_false c9)) ?_
      refine C.skip ?_
      refine N.nx ?_
      refine C.seq ?_
      refine C.rs ?_
      refine J.joinB H (fun (o11 : Bool) (j12 : Unit) => [(0, .slice Aa0 a0.length ca0), (1, .slice Aa1 a1.length ca1), (7, .int .i64 t3.2.1), (8, .int .i64 t3.2.2), (35, .bool o11)]) (fun (o11 : Bool) (j12 : Unit) => G) (fun (o11 : Bool) (j12 : Unit) => True) (fun o13 H HK14 => ?_) (fun o11 j12 H _ => ?_)
      · refine J.p rfl rfl rfl rfl (Y.mv rfl) ?_
        refine J.p rfl rfl rfl rfl (Y.bin rfl rfl rfl) ?_
        refine J.p rfl rfl rfl rfl (Y.mv rfl) ?_
        refine split2 H (fun c15 H => ?_) (fun c15 H => ?_)
        · refine J.as (k := 30) rfl (congrArg Value.bool (decide_eq_true c15)) ?_
          refine J.skip rfl rfl ?_
          refine J.skip rfl rfl ?_
          refine J.skip rfl rfl ?_
          refine J.skip rfl rfl ?_
          refine J.p rfl rfl rfl rfl (Y.pickT rfl rfl) ?_
          refine J.nil ?_
          obtain rfl := Option.some.inj H
          exact N.meet (true, ()) ⟨HK14, trivial⟩ (by exact ⟨rfl, rfl, rfl, rfl, rfl, trivial⟩) (by exact fun w h => (St.pick [] [_] h rfl))
        · refine J.as (k := 30) rfl (congrArg Value.bool (decide_eq_false c15)) ?_
          refine J.p rfl rfl rfl rfl (Y.mv rfl) ?_
          refine J.p rfl rfl rfl rfl (Y.mv rfl) ?_
          refine J.p rfl rfl rfl rfl (Y.lenS Try.underlying25 rfl) ?_
          refine J.p rfl rfl rfl rfl (Y.bin rfl rfl rfl) ?_
          refine J.p rfl rfl rfl rfl (Y.pickF rfl rfl) ?_
          refine J.nil ?_
          obtain rfl := Option.some.inj H
          exact N.meet (decide ((a0.length : Int) ≤ t3.2.2), ()) ⟨HK14, trivial⟩ (by exact ⟨rfl, rfl, rfl, rfl, rfl, trivial⟩) (by exact fun w h => (St.pick [] [_] h rfl))
      · refine C.at (s' := [(0, .slice Aa0 a0.length ca0), (1, .slice Aa1 a1.length ca1), (7, .int .i64 t3.2.1), (8, .int .i64 t3.2.2), (35, .bool o11)]) (G' := G) rfl rfl ?_
        refine split2 H (fun c16 H => ?_) (fun c16 H => ?_)
        · refine C.condT (congrArg (fun b => some (Value.bool b)) (c16)) ?_
          refine C.rs ?_
          refine J.p rfl rfl rfl rfl (Y.asg rfl) ?_
          refine J.nx ?_
          refine C.ret ?_
          obtain rfl := Option.some.inj H
          refine T.th ?_
          exact ret_ok (ks := [4]) rfl rfl (fun w h => ⟨rfl, h⟩)
        · refine C.condF (congrArg (fun b => some (Value.bool b)) (nt c16)) ?_
          refine C.skip ?_
          refine N.nx ?_
          refine C.rs ?_
          refine J.p rfl rfl rfl rfl (Y.mv rfl) ?_
          refine J.p rfl rfl rfl rfl (Y.mv rfl) ?_
          obtain ⟨p17, H⟩ := gd_some H
          refine J.p rfl rfl rfl rfl (Y.slcL Try.underlying25 ti5 rfl bnd.no (bnd.yes rfl p17.1) p17.2 ka0) ?_
          obtain ⟨t18, hC19, H⟩ := bind_some H
          refine J.call (us := []) (cap := []) rfl rfl rfl go29 (fun w hw => Open.calls K ((a0.take (Int.toNat t3.2.2)).drop 0) (subA 1 Aa0 ca0 0) (ca0 - 0) (RdG.subL (l := 0) (h := (Int.toNat t3.2.2)) ha0 ka0) (hc_sub ka0) t18 hC19 w hw) (fun e w1 h1 => ?_)
          obtain ⟨A20, c21, rfl, hw100⟩ := h1
          refine ⟨_, _, rfl, hw100, ?_⟩
          refine J.p rfl rfl rfl rfl (Y.mv rfl) ?_
          refine J.p rfl rfl rfl rfl (Y.ext rfl rfl) ?_
          refine J.p rfl rfl rfl rfl (Y.ext rfl rfl) ?_
          refine J.p rfl rfl rfl rfl (Y.ext rfl rfl) ?_
          refine J.p rfl rfl rfl rfl (Y.asg rfl) ?_
          refine J.p rfl rfl rfl rfl (Y.asg rfl) ?_
          refine J.p rfl rfl rfl rfl (Y.asg rfl) ?_
          refine J.nx ?_
          refine C.rs ?_
          refine J.p rfl rfl rfl rfl (Y.mv rfl) ?_
          refine J.p rfl rfl rfl rfl (Y.bin rfl rfl rfl) ?_
          refine J.p rfl rfl rfl rfl (Y.asg rfl) ?_
          refine J.nx ?_
          refine C.seq ?_
          refine C.rs ?_
          refine J.joinB H (fun (o24 : Bool) (j25 : Unit) => [(0, .slice Aa0 a0.length ca0), (1, .slice Aa1 a1.length ca1), (7, .int .i64 t3.2.1), (8, .int .i64 t3.2.2), (10, .int .i64 t18.2.1), (12, .int .i64 (IntKind.wrap .i64 (t3.2.2 + 1))), (53, .bool o24)]) (fun (o24 : Bool) (j25 : Unit) => G) (fun (o24 : Bool) (j25 : Unit) => True) (fun o26 H HK27 => ?_) (fun o24 j25 H _ => ?_)
          · refine J.p rfl rfl rfl rfl (Y.mv rfl) ?_
            refine J.p rfl rfl rfl rfl (Y.bin rfl rfl rfl) ?_
            refine J.p rfl rfl rfl rfl (Y.mv rfl) ?_
            refine split2 H (fun c28 H => ?_) (fun c28 H => ?_)
            · refine J.as (k := 48) rfl (congrArg Value.bool (decide_eq_true c28)) ?_
              refine J.p rfl rfl rfl rfl (Y.mv rfl) ?_
              refine J.p rfl rfl rfl rfl (Y.mv rfl) ?_
              refine J.p rfl rfl rfl rfl (Y.lenS Try.underlying25 rfl) ?_
              refine J.p rfl rfl rfl rfl (Y.bin rfl rfl rfl) ?_
              refine J.p rfl rfl rfl rfl (Y.pickT rfl rfl) ?_
              refine J.nil ?_
              obtain rfl := Option.some.inj H
              exact N.meet (decide ((IntKind.wrap .i64 (t3.2.2 + 1)) < (a0.length : Int)), ()) ⟨HK27, trivial⟩ (by exact ⟨rfl, rfl, rfl, rfl, rfl, rfl, rfl, trivial⟩) (by exact fun w h => (St.pick [] [_] h rfl))
            · refine J.as (k := 48) rfl (congrArg Value.bool (decide_eq_false c28)) ?_
              refine J.skip rfl rfl ?_
              refine J.skip rfl rfl ?_
              refine J.skip rfl rfl ?_
              refine J.skip rfl rfl ?_
              refine J.p rfl rfl rfl rfl (Y.pickF rfl rfl) ?_
              refine J.nil ?_
              obtain rfl := Option.some.inj H
              exact N.meet (false, ()) ⟨HK27, trivial⟩ (by exact ⟨rfl, rfl, rfl, rfl, rfl, rfl, rfl, trivial⟩) (by exact fun w h => (St.pick [] [_] h rfl))
          · refine C.at (s' := [(0, .slice Aa0 a0.length ca0), (1, .slice Aa1 a1.length ca1), (7, .int .i64 t3.2.1), (8, .int .i64 t3.2.2), (10, .int .i64 t18.2.1), (12, .int .i64 (IntKind.wrap .i64 (t3.2.2 + 1))), (53, .bool o24)]) (G' := G) rfl rfl ?_
            refine split2 H (fun c29 H => ?_) (fun c29 H => ?_)
            · refine C.condT (congrArg (fun b => some (Value.bool b)) (c29)) ?_
              refine C.reg ?_
              refine J.p rfl rfl rfl rfl (Y.mv rfl) ?_
              refine J.p rfl rfl rfl rfl (Y.bin rfl rfl rfl) ?_
              refine J.p rfl rfl rfl rfl (Y.asg rfl) ?_
              refine J.nx ?_
              refine C.rs ?_
              refine J.p rfl rfl rfl rfl (Y.asg rfl) ?_
              refine J.nx ?_
              refine C.rs ?_
              refine J.p rfl rfl rfl rfl (Y.mv rfl) ?_
              refine J.p rfl rfl rfl rfl (Y.mv rfl) ?_
              refine J.p rfl rfl rfl rfl (Y.mv rfl) ?_
              obtain ⟨p30, H⟩ := gd_some H
              refine J.p rfl rfl rfl rfl (Y.slcL Try.underlying25 ti5 rfl bnd.no (bnd.yes rfl p30.1) p30.2 ka0) ?_
              refine J.nilOwn 5 1 ?_
              obtain ⟨p34, H⟩ := gd_some H
              refine J.appL (enc := (Value.int .u8)) (xs := ([] : List Int)) (ys := ((a0.take (Int.toNat (IntKind.wrap .i64 ((IntKind.wrap .i64 (t3.2.2 + 1)) + 1)))).drop 0)) rfl Try.underlying25 ti5 rfl (by decide) rfl rfl (fun _ => rfl) (RdG.subL (l := 0) (h := (Int.toNat (IntKind.wrap .i64 ((IntKind.wrap .i64 (t3.2.2 + 1)) + 1)))) (ha0.suf [_] rfl) ka0) p34 (fun A32 c33 => ?_)
              refine J.p rfl rfl rfl rfl (Y.asg rfl) ?_
              refine J.nx ?_
              refine C.seq ?_
              refine C.rs ?_
              refine J.joinB H (fun (o37 : Bool) (j38 : Unit) => [(1, .slice Aa1 a1.length ca1), (7, .int .i64 t3.2.1), (8, .int .i64 t3.2.2), (10, .int .i64 t18.2.1), (13, .slice A32 (([] : List Int) ++ ((a0.take (Int.toNat (IntKind.wrap .i64 ((IntKind.wrap .i64 (t3.2.2 + 1)) + 1)))).drop 0)).length c33), (68, .bool o37)]) (fun (o37 : Bool) (j38 : Unit) => own 5 1 A32 c33 ((([] : List Int) ++ ((a0.take (Int.toNat (IntKind.wrap .i64 ((IntKind.wrap .i64 (t3.2.2 + 1)) + 1)))).drop 0)).map (Value.int .u8)) :: G) (fun (o37 : Bool) (j38 : Unit) => True) (fun o39 H HK40 => ?_) (fun o37 j38 H _ => ?_)
              · refine J.p rfl rfl rfl rfl (Y.mv rfl) ?_
                refine J.p rfl rfl rfl rfl (Y.bin rfl rfl rfl) ?_
                refine J.p rfl rfl rfl rfl (Y.mv rfl) ?_
                refine split2 H (fun c41 H => ?_) (fun c41 H => ?_)
                · refine J.as (k := 63) rfl (congrArg Value.bool (decide_eq_true c41)) ?_
                  refine J.skip rfl rfl ?_
                  refine J.skip rfl rfl ?_
                  refine J.skip rfl rfl ?_
                  refine J.skip rfl rfl ?_
                  refine J.p rfl rfl rfl rfl (Y.pickT rfl rfl) ?_
                  refine J.nil ?_
                  obtain rfl := Option.some.inj H
                  exact N.meet (true, ()) ⟨HK40, trivial⟩ (by exact ⟨rfl, rfl, rfl, rfl, rfl, rfl, trivial⟩) (by exact fun w h => h)
                · refine J.as (k := 63) rfl (congrArg Value.bool (decide_eq_false c41)) ?_
                  refine J.p rfl rfl rfl rfl (Y.mv rfl) ?_
                  refine J.p rfl rfl rfl rfl (Y.mv rfl) ?_
                  refine J.p rfl rfl rfl rfl (Y.bin rfl rfl rfl) ?_
                  refine J.p rfl rfl rfl rfl (Y.bin rfl rfl rfl) ?_
                  refine J.p rfl rfl rfl rfl (Y.pickF rfl rfl) ?_
                  refine J.nil ?_
                  obtain rfl := Option.some.inj H
                  exact N.meet (decide ((IntKind.wrap .i64 ((IntKind.wrap .i64 (t3.2.2 + 1)) + 1)) = (IntKind.wrap .i64 (t3.2.2 + 2))), ()) ⟨HK40, trivial⟩ (by exact ⟨rfl, rfl, rfl, rfl, rfl, rfl, trivial⟩) (by exact fun w h => h)
              · refine C.at (s' := [(1, .slice Aa1 a1.length ca1), (7, .int .i64 t3.2.1), (8, .int .i64 t3.2.2), (10, .int .i64 t18.2.1), (13, .slice A32 (([] : List Int) ++ ((a0.take (Int.toNat (IntKind.wrap .i64 ((IntKind.wrap .i64 (t3.2.2 + 1)) + 1)))).drop 0)).length c33), (68, .bool o37)]) (G' := own 5 1 A32 c33 ((([] : List Int) ++ ((a0.take (Int.toNat (IntKind.wrap .i64 ((IntKind.wrap .i64 (t3.2.2 + 1)) + 1)))).drop 0)).map (Value.int .u8)) :: G) rfl rfl ?_
                refine split2 H (fun c42 H => ?_) (fun c42 H => ?_)
                · refine C.condT (congrArg (fun b => some (Value.bool b)) (c42)) ?_
                  refine C.reg ?_
                  refine J.p rfl rfl rfl rfl (Y.mv rfl) ?_
                  refine J.p rfl rfl rfl rfl (Y.mv rfl) ?_
                  obtain ⟨p45, H⟩ := gd_some H
                  refine J.appL (enc := (Value.int .u8)) (xs := (([] : List Int) ++ ((a0.take (Int.toNat (IntKind.wrap .i64 ((IntKind.wrap .i64 (t3.2.2 + 1)) + 1)))).drop 0))) (ys := a1) rfl Try.underlying25 ti5 rfl (by decide) rfl rfl (fun _ => rfl) (ha1.suf [_] rfl) p45 (fun A43 c44 => ?_)
                  refine J.p rfl rfl rfl rfl (Y.asg rfl) ?_
                  refine J.nx ?_
                  refine C.rs ?_
                  refine J.p rfl rfl rfl rfl (Y.mv rfl) ?_
                  refine J.know (own_leL 0 rfl) (fun hc47 => ?_)
                  obtain ⟨t48, hC49, H⟩ := bind_some H
                  refine J.call (us := []) (cap := []) rfl rfl rfl go29 (fun w hw => Open.calls K ((([] : List Int) ++ ((a0.take (Int.toNat (IntKind.wrap .i64 ((IntKind.wrap .i64 (t3.2.2 + 1)) + 1)))).drop 0)) ++ a1) A43 c44 (RdG.own 0 rfl) hc47 t48 hC49 w hw) (fun e w1 h1 => ?_)
                  obtain ⟨A50, c51, rfl, hw55⟩ := h1
                  refine ⟨_, _, rfl, hw55, ?_⟩
                  refine J.p rfl rfl rfl rfl (Y.mv rfl) ?_
                  refine J.p rfl rfl rfl rfl (Y.ext rfl rfl) ?_
                  refine J.p rfl rfl rfl rfl (Y.ext rfl rfl) ?_
                  refine J.p rfl rfl rfl rfl (Y.ext rfl rfl) ?_
                  refine J.p rfl rfl rfl rfl (Y.asg rfl) ?_
                  refine J.p rfl rfl rfl rfl (Y.asg rfl) ?_
                  refine J.p rfl rfl rfl rfl (Y.asg rfl) ?_
                  refine J.nx ?_
                  refine C.rs ?_
                  refine J.p rfl rfl rfl rfl (Y.mv rfl) ?_
                  refine J.p rfl rfl rfl rfl (Y.bin rfl rfl rfl) ?_
                  refine J.p rfl rfl rfl rfl (Y.mv rfl) ?_
                  refine split2 H (fun c53 H => ?_) (fun c53 H => ?_)
                  · refine J.as (k := 80) rfl (congrArg Value.bool (decide_eq_true c53)) ?_
                    refine J.p rfl rfl rfl rfl (Y.mv rfl) ?_
                    refine J.p rfl rfl rfl rfl (Y.mv rfl) ?_
                    refine J.p rfl rfl rfl rfl (Y.bin rfl rfl rfl) ?_
                    refine J.p rfl rfl rfl rfl (Y.pickT rfl rfl) ?_
                    refine J.p rfl rfl rfl rfl (Y.mv rfl) ?_
                    refine split2 H (fun c54 H => ?_) (fun c54 H => ?_)
                    · refine J.as (k := 85) rfl (congrArg Value.bool (decide_eq_true c54)) ?_
                      refine J.p rfl rfl rfl rfl (Y.mv rfl) ?_
                      refine J.p rfl rfl rfl rfl (Y.mv rfl) ?_
                      refine J.p rfl rfl rfl rfl (Y.bin rfl rfl rfl) ?_
                      refine J.p rfl rfl rfl rfl (Y.pickT rfl rfl) ?_
                      refine J.p rfl rfl rfl rfl (Y.asg rfl) ?_
                      refine J.nx ?_
                      refine C.ret ?_
                      obtain rfl := Option.some.inj H
                      exact ret_ok (ks := [4]) rfl rfl (fun w h => ⟨rfl, (St.pick [] [_, _] h rfl)⟩)
                    · refine J.as (k := 85) rfl (congrArg Value.bool (decide_eq_false c54)) ?_
                      refine J.skip rfl rfl ?_
                      refine J.skip rfl rfl ?_
                      refine J.skip rfl rfl ?_
                      refine J.p rfl rfl rfl rfl (Y.pickF rfl rfl) ?_
                      refine J.p rfl rfl rfl rfl (Y.asg rfl) ?_
                      refine J.nx ?_
                      refine C.ret ?_
                      obtain rfl := Option.some.inj H
                      exact ret_ok (ks := [4]) rfl rfl (fun w h => ⟨rfl, (St.pick [] [_, _] h rfl)⟩)
                  · refine J.as (k := 80) rfl (congrArg Value.bool (decide_eq_false c53)) ?_
                    refine J.skip rfl rfl ?_
                    refine J.skip rfl rfl ?_
                    refine J.skip rfl rfl ?_
                    refine J.p rfl rfl rfl rfl (Y.pickF rfl rfl) ?_
                    refine J.p rfl rfl rfl rfl (Y.mv rfl) ?_
                    refine J.skip rfl rfl ?_
                    refine J.skip rfl rfl ?_
                    refine J.skip rfl rfl ?_
                    refine J.p rfl rfl rfl rfl (Y.pickF rfl rfl) ?_
                    refine J.p rfl rfl rfl rfl (Y.asg rfl) ?_
                    refine J.nx ?_
                    refine C.ret ?_
                    obtain rfl := Option.some.inj H
                    exact ret_ok (ks := [4]) rfl rfl (fun w h => ⟨rfl, (St.pick [] [_, _] h rfl)⟩)
                · refine C.condF (congrArg (fun b => some (Value.bool b)) (nt c42)) ?_
                  refine C.skip ?_
                  refine N.nx ?_
                  refine C.rs ?_
                  refine J.p rfl rfl rfl rfl (Y.mv rfl) ?_
                  refine J.know (own_leL 0 rfl) (fun hc56 => ?_)
                  obtain ⟨t57, hC58, H⟩ := bind_some H
                  refine J.call (us := []) (cap := []) rfl rfl rfl go29 (fun w hw => Open.calls K (([] : List Int) ++ ((a0.take (Int.toNat (IntKind.wrap .i64 ((IntKind.wrap .i64 (t3.2.2 + 1)) + 1)))).drop 0)) A32 c33 (RdG.own 0 rfl) hc56 t57 hC58 w hw) (fun e w1 h1 => ?_)
                  obtain ⟨A59, c60, rfl, hw64⟩ := h1
                  refine ⟨_, _, rfl, hw64, ?_⟩
                  refine J.p rfl rfl rfl rfl (Y.mv rfl) ?_
                  refine J.p rfl rfl rfl rfl (Y.ext rfl rfl) ?_
                  refine J.p rfl rfl rfl rfl (Y.ext rfl rfl) ?_
                  refine J.p rfl rfl rfl rfl (Y.ext rfl rfl) ?_
                  refine J.p rfl rfl rfl rfl (Y.asg rfl) ?_
                  refine J.p rfl rfl rfl rfl (Y.asg rfl) ?_
                  refine J.p rfl rfl rfl rfl (Y.asg rfl) ?_
                  refine J.nx ?_
                  refine C.rs ?_
                  refine J.p rfl rfl rfl rfl (Y.mv rfl) ?_
                  refine J.p rfl rfl rfl rfl (Y.bin rfl rfl rfl) ?_
                  refine J.p rfl rfl rfl rfl (Y.mv rfl) ?_
                  refine split2 H (fun c62 H => ?_) (fun c62 H => ?_)
                  · refine J.as (k := 80) rfl (congrArg Value.bool (decide_eq_true c62)) ?_
                    refine J.p rfl rfl rfl rfl (Y.mv rfl) ?_
                    refine J.p rfl rfl rfl rfl (Y.mv rfl) ?_
                    refine J.p rfl rfl rfl rfl (Y.bin rfl rfl rfl) ?_
                    refine J.p rfl rfl rfl rfl (Y.pickT rfl rfl) ?_
                    refine J.p rfl rfl rfl rfl (Y.mv rfl) ?_
                    refine split2 H (fun c63 H => ?_) (fun c63 H => ?_)
                    · refine J.as (k := 85) rfl (congrArg Value.bool (decide_eq_true c63)) ?_
                      refine J.p rfl rfl rfl rfl (Y.mv rfl) ?_
                      refine J.p rfl rfl rfl rfl (Y.mv rfl) ?_
                      refine J.p rfl rfl rfl rfl (Y.bin rfl rfl rfl) ?_
                      refine J.p rfl rfl rfl rfl (Y.pickT rfl rfl) ?_
                      refine J.p rfl rfl rfl rfl (Y.asg rfl) ?_
                      refine J.nx ?_
                      refine C.ret ?_
                      obtain rfl := Option.some.inj H
                      exact ret_ok (ks := [4]) rfl rfl (fun w h => ⟨rfl, (St.pick [] [_, _] h rfl)⟩)
                    · refine J.as (k := 85) rfl (congrArg Value.bool (decide_eq_false c63)) ?_
                      refine J.skip rfl rfl ?_
                      refine J.skip rfl rfl ?_
                      refine J.skip rfl rfl ?_
                      refine J.p rfl rfl rfl rfl (Y.pickF rfl rfl) ?_
                      refine J.p rfl rfl rfl rfl (Y.asg rfl) ?_
                      refine J.nx ?_
                      refine C.ret ?_
                      obtain rfl := Option.some.inj H
                      exact ret_ok (ks := [4]) rfl rfl (fun w h => ⟨rfl, (St.pick [] [_, _] h rfl)⟩)
                  · refine J.as (k := 80) rfl (congrArg Value.bool (decide_eq_false c62)) ?_
                    refine J.skip rfl rfl ?_
                    refine J.skip rfl rfl ?_
                    refine J.skip rfl rfl ?_
                    refine J.p rfl rfl rfl rfl (Y.pickF rfl rfl) ?_
                    refine J.p rfl rfl rfl rfl (Y.mv rfl) ?_
                    refine J.skip rfl rfl ?_
                    refine J.skip rfl rfl ?_
                    refine J.skip rfl rfl ?_
                    refine J.p rfl rfl rfl rfl (Y.pickF rfl rfl) ?_
                    refine J.p rfl rfl rfl rfl (Y.asg rfl) ?_
                    refine J.nx ?_
                    refine C.ret ?_
                    obtain rfl := Option.some.inj H
                    exact ret_ok (ks := [4]) rfl rfl (fun w h => ⟨rfl, (St.pick [] [_, _] h rfl)⟩)
            · refine C.condF (congrArg (fun b => some (Value.bool b)) (nt c29)) ?_
              refine C.skip ?_
              refine N.nx ?_
              refine C.rs ?_
              refine J.p rfl rfl rfl rfl (Y.asg rfl) ?_
              refine J.nx ?_
              refine C.rs ?_
              refine J.p rfl rfl rfl rfl (Y.mv rfl) ?_
              refine J.p rfl rfl rfl rfl (Y.mv rfl) ?_
              refine J.p rfl rfl rfl rfl (Y.mv rfl) ?_
              obtain ⟨p65, H⟩ := gd_some H
              refine J.p rfl rfl rfl rfl (Y.slcL Try.underlying25 ti5 rfl bnd.no (bnd.yes rfl p65.1) p65.2 ka0) ?_
              refine J.nilOwn 5 1 ?_
              obtain ⟨p69, H⟩ := gd_some H
              refine J.appL (enc := (Value.int .u8)) (xs := ([] : List Int)) (ys := ((a0.take (Int.toNat (IntKind.wrap .i64 (t3.2.2 + 1)))).drop 0)) rfl Try.underlying25 ti5 rfl (by decide) rfl rfl (fun _ => rfl) (RdG.subL (l := 0) (h := (Int.toNat (IntKind.wrap .i64 (t3.2.2 + 1)))) (ha0.suf [_] rfl) ka0) p69 (fun A67 c68 => ?_)
              refine J.p rfl rfl rfl rfl (Y.asg rfl) ?_
              refine J.nx ?_
              refine C.seq ?_
              refine C.rs ?_
              refine J.joinB H (fun (o72 : Bool) (j73 : Unit) => [(1, .slice Aa1 a1.length ca1), (7, .int .i64 t3.2.1), (8, .int .i64 t3.2.2), (10, .int .i64 t18.2.1), (13, .slice A67 (([] : List Int) ++ ((a0.take (Int.toNat (IntKind.wrap .i64 (t3.2.2 + 1)))).drop 0)).length c68), (68, .bool o72)]) (fun (o72 : Bool) (j73 : Unit) => own 5 1 A67 c68 ((([] : List Int) ++ ((a0.take (Int.toNat (IntKind.wrap .i64 (t3.2.2 + 1)))).drop 0)).map (Value.int .u8)) :: G) (fun (o72 : Bool) (j73 : Unit) => True) (fun o74 H HK75 => ?_) (fun o72 j73 H _ => ?_)
              · refine J.p rfl rfl rfl rfl (Y.mv rfl) ?_
                refine J.p rfl rfl rfl rfl (Y.bin rfl rfl rfl) ?_
                refine J.p rfl rfl rfl rfl (Y.mv rfl) ?_
                refine split2 H (fun c76 H => ?_) (fun c76 H => ?_)
                · refine J.as (k := 63) rfl (congrArg Value.bool (decide_eq_true c76)) ?_
                  refine J.skip rfl rfl ?_
                  refine J.skip rfl rfl ?_
                  refine J.skip rfl rfl ?_
                  refine J.skip rfl rfl ?_
                  refine J.p rfl rfl rfl rfl (Y.pickT rfl rfl) ?_
                  refine J.nil ?_
                  obtain rfl := Option.some.inj H
                  exact N.meet (true, ()) ⟨HK75, trivial⟩ (by exact ⟨rfl, rfl, rfl, rfl, rfl, rfl, trivial⟩) (by exact fun w h => h)
                · refine J.as (k := 63) rfl (congrArg Value.bool (decide_eq_false c76)) ?_
                  refine J.p rfl rfl rfl rfl (Y.mv rfl) ?_
                  refine J.p rfl rfl rfl rfl (Y.mv rfl) ?_
                  refine J.p rfl rfl rfl rfl (Y.bin rfl rfl rfl) ?_
                  refine J.p rfl rfl rfl rfl (Y.bin rfl rfl rfl) ?_
                  refine J.p rfl rfl rfl rfl (Y.pickF rfl rfl) ?_
                  refine J.nil ?_
                  obtain rfl := Option.some.inj H
                  exact N.meet (decide ((IntKind.wrap .i64 (t3.2.2 + 1)) = (IntKind.wrap .i64 (t3.2.2 + 2))), ()) ⟨HK75, trivial⟩ (by exact ⟨rfl, rfl, rfl, rfl, rfl, rfl, trivial⟩) (by exact fun w h => h)
              · refine C.at (s' := [(1, .slice Aa1 a1.length ca1), (7, .int .i64 t3.2.1), (8, .int .i64 t3.2.2), (10, .int .i64 t18.2.1), (13, .slice A67 (([] : List Int) ++ ((a0.take (Int.toNat (IntKind.wrap .i64 (t3.2.2 + 1)))).drop 0)).length c68), (68, .bool o72)]) (G' := own 5 1 A67 c68 ((([] : List Int) ++ ((a0.take (Int.toNat (IntKind.wrap .i64 (t3.2.2 + 1)))).drop 0)).map (Value.int .u8)) :: G) rfl rfl ?_
                refine split2 H (fun c77 H => ?_) (fun c77 H => ?_)
                · refine C.condT (congrArg (fun b => some (Value.bool b)) (c77)) ?_
                  refine C.reg ?_
                  refine J.p rfl rfl rfl rfl (Y.mv rfl) ?_
                  refine J.p rfl rfl rfl rfl (Y.mv rfl) ?_
                  obtain ⟨p80, H⟩ := gd_some H
                  refine J.appL (enc := (Value.int .u8)) (xs := (([] : List Int) ++ ((a0.take (Int.toNat (IntKind.wrap .i64 (t3.2.2 + 1)))).drop 0))) (ys := a1) rfl Try.underlying25 ti5 rfl (by decide) rfl rfl (fun _ => rfl) (ha1.suf [_] rfl) p80 (fun A78 c79 => ?_)
                  refine J.p rfl rfl rfl rfl (Y.asg rfl) ?_
                  refine J.nx ?_
                  refine C.rs ?_
                  refine J.p rfl rfl rfl rfl (Y.mv rfl) ?_
                  refine J.know (own_leL 0 rfl) (fun hc82 => ?_)
                  obtain ⟨t83, hC84, H⟩ := bind_some H
                  refine J.call (us := []) (cap := []) rfl rfl rfl go29 (fun w hw => Open.calls K ((([] : List Int) ++ ((a0.take (Int.toNat (IntKind.wrap .i64 (t3.2.2 + 1)))).drop 0)) ++ a1) A78 c79 (RdG.own 0 rfl) hc82 t83 hC84 w hw) (fun e w1 h1 => ?_)
                  obtain ⟨A85, c86, rfl, hw90⟩ := h1
                  refine ⟨_, _, rfl, hw90, ?_⟩
                  refine J.p rfl rfl rfl rfl (Y.mv rfl) ?_
                  refine J.p rfl rfl rfl rfl (Y.ext rfl rfl) ?_
                  refine J.p rfl rfl rfl rfl (Y.ext rfl rfl) ?_
                  refine J.p rfl rfl rfl rfl (Y.ext rfl rfl) ?_
                  refine J.p rfl rfl rfl rfl (Y.asg rfl) ?_
                  refine J.p rfl rfl rfl rfl (Y.asg rfl) ?_
                  refine J.p rfl rfl rfl rfl (Y.asg rfl) ?_
                  refine J.nx ?_
                  refine C.rs ?_
                  refine J.p rfl rfl rfl rfl (Y.mv rfl) ?_
                  refine J.p rfl rfl rfl rfl (Y.bin rfl rfl rfl) ?_
                  refine J.p rfl rfl rfl rfl (Y.mv rfl) ?_
                  refine split2 H (fun c88 H => ?_) (fun c88 H => ?_)
                  · refine J.as (k := 80) rfl (congrArg Value.bool (decide_eq_true c88)) ?_
                    refine J.p rfl rfl rfl rfl (Y.mv rfl) ?_
                    refine J.p rfl rfl rfl rfl (Y.mv rfl) ?_
                    refine J.p rfl rfl rfl rfl (Y.bin rfl rfl rfl) ?_
                    refine J.p rfl rfl rfl rfl (Y.pickT rfl rfl) ?_
                    refine J.p rfl rfl rfl rfl (Y.mv rfl) ?_
                    refine split2 H (fun c89 H => ?_) (fun c89 H => ?_)
                    · refine J.as (k := 85) rfl (congrArg Value.bool (decide_eq_true c89)) ?_
                      refine J.p rfl rfl rfl rfl (Y.mv rfl) ?_
                      refine J.p rfl rfl rfl rfl (Y.mv rfl) ?_
                      refine J.p rfl rfl rfl rfl (Y.bin rfl rfl rfl) ?_
                      refine J.p rfl rfl rfl rfl (Y.pickT rfl rfl) ?_
                      refine J.p rfl rfl rfl rfl (Y.asg rfl) ?_
                      refine J.nx ?_
                      refine C.ret ?_
                      obtain rfl := Option.some.inj H
                      exact ret_ok (ks := [4]) rfl rfl (fun w h => ⟨rfl, (St.pick [] [_, _] h rfl)⟩)
                    · refine J.as (k := 85) rfl (congrArg Value.bool (decide_eq_false c89)) ?_
                      refine J.skip rfl rfl ?_
                      refine J.skip rfl rfl ?_
                      refine J.skip rfl rfl ?_
                      refine J.p rfl rfl rfl rfl (Y.pickF rfl rfl) ?_
                      refine J.p rfl rfl rfl rfl (Y.asg rfl) ?_
                      refine J.nx ?_
                      refine C.ret ?_
                      obtain rfl := Option.some.inj H
                      exact ret_ok (ks := [4]) rfl rfl (fun w h => ⟨rfl, (St.pick [] [_, _] h rfl)⟩)
                  · refine J.as (k := 80) rfl (congrArg Value.bool (decide_eq_false c88)) ?_
                    refine J.skip rfl rfl ?_
                    refine J.skip rfl rfl ?_
                    refine J.skip rfl rfl ?_
                    refine J.p rfl rfl rfl rfl (Y.pickF rfl rfl) ?_
                    refine J.p rfl rfl rfl rfl (Y.mv rfl) ?_
                    refine J.skip rfl rfl ?_
                    refine J.skip rfl rfl ?_
                    refine J.skip rfl rfl ?_
                    refine J.p rfl rfl rfl rfl (Y.pickF rfl rfl) ?_
                    refine J.p rfl rfl rfl rfl (Y.asg rfl) ?_
                    refine J.nx ?_
                    refine C.ret ?_
                    obtain rfl := Option.some.inj H
                    exact ret_ok (ks := [4]) rfl rfl (fun w h => ⟨rfl, (St.pick [] [_, _] h rfl)⟩)
                · refine C.condF (congrArg (fun b => some (Value.bool b)) (nt c77)) ?_
                  refine C.skip ?_
                  refine N.nx ?_
                  refine C.rs ?_
                  refine J.p rfl rfl rfl rfl (Y.mv rfl) ?_
                  refine J.know (own_leL 0 rfl) (fun hc91 => ?_)
                  obtain ⟨t92, hC93, H⟩ := bind_some H
                  refine J.call (us := []) (cap := []) rfl rfl rfl go29 (fun w hw => Open.calls K (([] : List Int) ++ ((a0.take (Int.toNat (IntKind.wrap .i64 (t3.2.2 + 1)))).drop 0)) A67 c68 (RdG.own 0 rfl) hc91 t92 hC93 w hw) (fun e w1 h1 => ?_)
                  obtain ⟨A94, c95, rfl, hw99⟩ := h1
                  refine ⟨_, _, rfl, hw99, ?_⟩
                  refine J.p rfl rfl rfl rfl (Y.mv rfl) ?_
                  refine J.p rfl rfl rfl rfl (Y.ext rfl rfl) ?_
                  refine J.p rfl rfl rfl rfl (Y.ext rfl rfl) ?_
                  refine J.p rfl rfl rfl rfl (Y.ext rfl rfl) ?_
                  refine J.p rfl rfl rfl rfl (Y.asg rfl) ?_
                  refine J.p rfl rfl rfl rfl (Y.asg rfl) ?_
                  refine J.p rfl rfl rfl rfl (Y.asg rfl) ?_
                  refine J.nx ?_
                  refine C.rs ?_
                  refine J.p rfl rfl rfl rfl (Y.mv rfl) ?_
                  refine J.p rfl rfl rfl rfl (Y.bin rfl rfl rfl) ?_
                  refine J.p rfl rfl rfl rfl (Y.mv rfl) ?_
                  refine split2 H (fun c97 H => ?_) (fun c97 H => ?_)
                  · refine J.as (k := 80) rfl (congrArg Value.bool (decide_eq_true c97)) ?_
                    refine J.p rfl rfl rfl rfl (Y.mv rfl) ?_
                    refine J.p rfl rfl rfl rfl (Y.mv rfl) ?_
                    refine J.p rfl rfl rfl rfl (Y.bin rfl rfl rfl) ?_
                    refine J.p rfl rfl rfl rfl (Y.pickT rfl rfl) ?_
                    refine J.p rfl rfl rfl rfl (Y.mv rfl) ?_
                    refine split2 H (fun c98 H => ?_) (fun c98 H => ?_)
                    · refine J.as (k := 85) rfl (congrArg Value.bool (decide_eq_true c98)) ?_
                      refine J.p rfl rfl rfl rfl (Y.mv rfl) ?_
                      refine J.p rfl rfl rfl rfl (Y.mv rfl) ?_
                      refine J.p rfl rfl rfl rfl (Y.bin rfl rfl rfl) ?_
                      refine J.p rfl rfl rfl rfl (Y.pickT rfl rfl) ?_
                      refine J.p rfl rfl rfl rfl (Y.asg rfl) ?_
                      refine J.nx ?_
                      refine C.ret ?_
                      obtain rfl := Option.some.inj H
                      exact ret_ok (ks := [4]) rfl rfl (fun w h => ⟨rfl, (St.pick [] [_, _] h rfl)⟩)
                    · refine J.as (k := 85) rfl (congrArg Value.bool (decide_eq_false c98)) ?_
                      refine J.skip rfl rfl ?_
                      refine J.skip rfl rfl ?_
                      refine J.skip rfl rfl ?_
                      refine J.p rfl rfl rfl rfl (Y.pickF rfl rfl) ?_
                      refine J.p rfl rfl rfl rfl (Y.asg rfl) ?_
                      refine J.nx ?_
                      refine C.ret ?_
                      obtain rfl := Option.some.inj H
                      exact ret_ok (ks := [4]) rfl rfl (fun w h => ⟨rfl, (St.pick [] [_, _] h rfl)⟩)
                  · refine J.as (k := 80) rfl (congrArg Value.bool (decide_eq_false c97)) ?_
                    refine J.skip rfl rfl ?_
                    refine J.skip rfl rfl ?_
                    refine J.skip rfl rfl ?_
                    refine J.p rfl rfl rfl rfl (Y.pickF rfl rfl) ?_
                    refine J.p rfl rfl rfl rfl (Y.mv rfl) ?_
                    refine J.skip rfl rfl ?_
                    refine J.skip rfl rfl ?_
                    refine J.skip rfl rfl ?_
                    refine J.p rfl rfl rfl rfl (Y.pickF rfl rfl) ?_
                    refine J.p rfl rfl rfl rfl (Y.asg rfl) ?_
                    refine J.nx ?_
                    refine C.ret ?_
                    obtain rfl := Option.some.inj H
                    exact ret_ok (ks := [4]) rfl rfl (fun w h => ⟨rfl, (St.pick [] [_, _] h rfl)⟩)
  · refine C.condT (congrArg (fun b => some (Value.bool b)) (congrArg Bool.not (nt c8))) ?_
    refine C.rs ?_
    refine J.p rfl rfl rfl rfl (Y.asg rfl) ?_
    refine J.nx ?_
    refine C.ret ?_
    obtain rfl := Option.some.inj H
    refine T.th ?_
    exact ret_ok (ks := [4]) rfl rfl (fun w h => ⟨rfl, (St.pick [] [_] h rfl)⟩)
end Go.Proofs.Ytgikgekddnfheaa
