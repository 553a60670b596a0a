/- Own text, printed by the lifting program: each Go function beside a plain function, and the proof that a call of the one comes to the other. Conditions: what came in can be read. -/
import Derived.Test.YtakolnamobkkkaaSxIter
import Derived.Test.YtakolnamobkkkaaSxLib
import Derived.Test.YtakolnamobkkkaaProg
set_option linter.unusedVariables false
set_option linter.unusedSimpArgs false
set_option maxRecDepth 10000
set_option maxHeartbeats 4000000
namespace Go.Proofs.Ytakolnamobkkkaa
open Go Go.Sx
theorem ti5 : TI Try.prog 5 1 1 (.int .u8 0) := TI.of (by kernel_rfl)
theorem ti22 : TI Try.prog 22 1 24 (.slice none 0 0) := TI.of (by kernel_rfl)
theorem ti24 : TI Try.prog 24 1 8 (.int .i64 0) := TI.of (by kernel_rfl)
theorem ti25 : TI Try.prog 25 1 8 (.int .u64 0) := TI.of (by kernel_rfl)
theorem ti27 : TI Try.prog 27 4 48 (.agg #[.int .u64 0, .int .i64 0, .string ByteArray.empty, .string ByteArray.empty]) := TI.of (by kernel_rfl)
theorem ti36 : TI Try.prog 36 14 136 (.agg #[.int .i64 0, .int .u64 0, .int .i64 0, .string ByteArray.empty, .string ByteArray.empty, .int .u64 0, .int .i64 0, .int .i64 0, .int .i64 0, .string ByteArray.empty, .int .i64 0, .int .i64 0, .int .i64 0, .int .u32 0]) := TI.of (by kernel_rfl)
theorem fa27_1 : FA Try.prog 27 1 1 := FA.of Try.underlying27 rfl ti24 (by decide) rfl
theorem pl27 : PL Try.prog 27 [(0, 1), (1, 1), (2, 1), (3, 1)] := PL.of Try.underlying27 (by kernel_rfl)
theorem pl36 : PL Try.prog 36 [(0, 1), (1, 4), (5, 5), (10, 4)] := PL.of Try.underlying36 (by kernel_rfl)
theorem mx : Try.prog.follows .mixedOrders = true := by kernel_rfl
theorem ex79 : ExF Try.prog 79 Extern.BytealgIndexByte.indexByte := ExF.of Try.func79 (by kernel_rfl) (by kernel_rfl) (by kernel_rfl) (by kernel_rfl)
theorem ex88 : ExF Try.prog 88 Extern.BytealgCount.count := ExF.of Try.func88 (by kernel_rfl) (by kernel_rfl) (by kernel_rfl) (by kernel_rfl)
theorem go45 : GoF Try.prog 45 := GoF.of Try.func45 (by kernel_rfl) (by kernel_rfl)
theorem go60 : GoF Try.prog 60 := GoF.of Try.func60 (by kernel_rfl) (by kernel_rfl)
theorem go61 : GoF Try.prog 61 := GoF.of Try.func61 (by kernel_rfl) (by kernel_rfl)
theorem go70 : GoF Try.prog 70 := GoF.of Try.func70 (by kernel_rfl) (by kernel_rfl)
theorem go73 : GoF Try.prog 73 := GoF.of Try.func73 (by kernel_rfl) (by kernel_rfl)
theorem go84 : GoF Try.prog 84 := GoF.of Try.func84 (by kernel_rfl) (by kernel_rfl)
theorem go85 : GoF Try.prog 85 := GoF.of Try.func85 (by kernel_rfl) (by kernel_rfl)
theorem go86 : GoF Try.prog 86 := GoF.of Try.func86 (by kernel_rfl) (by kernel_rfl)
/-! ### salvor/escape.one: function 61 -/
def one.f (a0 : List Int) (a1 : Int) : Option (Int × Int × Int) := gd ((0 : Int) ≤ a1 ∧ a1 < (a0.length : Int)) (if (rd a0 a1) = 167 then (some (0, 0, 31)) else (if (rd a0 a1) = 166 then ((if (IntKind.wrap .i64 (a1 + 1)) = (a0.length : Int) then (some true) else (gd ((0 : Int) ≤ (IntKind.wrap .i64 (a1 + 1)) ∧ (IntKind.wrap .i64 (a1 + 1)) < (a0.length : Int)) (gd ((0 : Int) ≤ (IntKind.wrap .i64 (a1 + 1)) ∧ (IntKind.wrap .i64 (a1 + 1)) < (a0.length : Int)) (some (decide (1 < (rd a0 (IntKind.wrap .i64 (a1 + 1))))))))).bind fun o9 => if o9 = true then (some (0, 0, 32)) else (gd ((0 : Int) ≤ (IntKind.wrap .i64 (a1 + 1)) ∧ (IntKind.wrap .i64 (a1 + 1)) < (a0.length : Int)) (some (IntKind.wrap .u8 (166 + (rd a0 (IntKind.wrap .i64 (a1 + 1)))), 2, 0)))) else (some (rd a0 a1, 1, 0))))
theorem one.calls {B : Nat} {w0 : World} {G : List HP} (a0 : List Int) (a1 : Int) (Aa0 : Option Addr) (ca0 : Nat) (ha0 : RdG B w0 G Aa0 (a0.map (Value.int .u8))) (ka0 : a0.length ≤ ca0) (r : Int × Int × Int) (H : one.f a0 a1 = some r) (w : World) (hw : St B w0 (G) w) :
    Calls Try.prog 61 [.slice Aa0 a0.length ca0, .int .i64 a1].toArray w (fun e w' => e = .returned (.tuple #[.int .u8 r.1, .int .i64 r.2.1, .int .i64 r.2.2]) ∧ St B w0 (G) w') := by
  unfold one.f at H
  refine calls_of (n := 37) (s := [(0, .slice Aa0 a0.length ca0), (1, .int .i64 a1)]) Try.func61 rfl rfl rfl rfl ?_ hw
  refine C.rs ?_
  refine J.p rfl rfl rfl rfl (Y.asg rfl) ?_
  refine J.p rfl rfl rfl rfl (Y.asg rfl) ?_
  refine J.p rfl rfl rfl rfl (Y.asg rfl) ?_
  refine J.nx ?_
  refine C.rs ?_
  refine J.p rfl rfl rfl rfl (Y.mv rfl) ?_
  refine J.p rfl rfl rfl rfl (Y.mv rfl) ?_
  obtain ⟨p1, H⟩ := gd_some H
  refine J.el rfl rfl rfl Try.underlying22 ti5 Try.underlying5 rfl rfl rfl p1 ha0 ?_
  refine J.p rfl rfl rfl rfl (Y.asg rfl) ?_
  refine J.nx ?_
  refine C.rs ?_
  refine J.p rfl rfl rfl rfl (Y.mv rfl) ?_
  refine J.nx ?_
  refine C.blk ?_
  refine C.rs ?_
  refine J.p rfl rfl rfl rfl (Y.bin rfl rfl rfl) ?_
  refine J.p rfl rfl rfl rfl (Y.asg rfl) ?_
  refine J.nx ?_
  refine split2 H (fun c2 H => ?_) (fun c2 H => ?_)
  · refine C.condT (congrArg (fun b => some (Value.bool b)) (decide_eq_true c2)) ?_
    refine C.rs ?_
    refine J.p rfl rfl rfl rfl (Y.asg rfl) ?_
    refine J.p rfl rfl rfl rfl (Y.asg rfl) ?_
    refine J.p rfl rfl rfl rfl (Y.asg rfl) ?_
    refine J.nx ?_
    refine C.ret ?_
    obtain rfl := Option.some.inj H
    refine T.ib ?_
    exact ret_ok (ks := [4, 5, 6]) rfl rfl (fun w h => ⟨rfl, h⟩)
  · refine C.condF (congrArg (fun b => some (Value.bool b)) (decide_eq_false c2)) ?_
    refine C.rs ?_
    refine J.p rfl rfl rfl rfl (Y.bin rfl rfl rfl) ?_
    refine J.p rfl rfl rfl rfl (Y.asg rfl) ?_
    refine J.nx ?_
    refine split2 H (fun c3 H => ?_) (fun c3 H => ?_)
    · refine C.condT (congrArg (fun b => some (Value.bool b)) (decide_eq_true c3)) ?_
      refine C.seq ?_
      refine C.rs ?_
      refine J.joinB H (fun (o9 : Bool) (j10 : Unit) => [(0, .slice Aa0 a0.length ca0), (1, .int .i64 a1), (30, .bool o9)]) (fun (o9 : Bool) (j10 : Unit) => G) (fun (o9 : Bool) (j10 : Unit) => True) (fun o11 H HK12 => ?_) (fun o9 j10 H _ => ?_)
      · refine J.p rfl rfl rfl rfl (Y.mv rfl) ?_
        refine J.p rfl rfl rfl rfl (Y.bin rfl rfl rfl) ?_
        refine J.p rfl rfl rfl rfl (Y.mv rfl) ?_
        refine J.p rfl rfl rfl rfl (Y.lenS Try.underlying22 rfl) ?_
        refine J.p rfl rfl rfl rfl (Y.bin rfl rfl rfl) ?_
        refine J.p rfl rfl rfl rfl (Y.mv rfl) ?_
        refine split2 H (fun c13 H => ?_) (fun c13 H => ?_)
        · refine J.as (k := 23) rfl (congrArg Value.bool (decide_eq_true c13)) ?_
          refine J.skip rfl rfl ?_
          refine J.skip rfl rfl ?_
          refine J.skip rfl rfl ?_
          refine J.skip rfl rfl ?_
          refine J.skip rfl rfl ?_
          refine J.skip rfl rfl ?_
          refine J.p rfl rfl rfl rfl (Y.pickT rfl rfl) ?_
          refine J.nil ?_
          obtain rfl := Option.some.inj H
          exact N.meet (true, ()) ⟨HK12, trivial⟩ (by exact ⟨rfl, rfl, rfl, trivial⟩) (by exact fun w h => h)
        · refine J.as (k := 23) rfl (congrArg Value.bool (decide_eq_false c13)) ?_
          refine J.p rfl rfl rfl rfl (Y.mv rfl) ?_
          refine J.p rfl rfl rfl rfl (Y.mv rfl) ?_
          refine J.p rfl rfl rfl rfl (Y.bin rfl rfl rfl) ?_
          obtain ⟨p16, H⟩ := gd_some H
          refine J.know (ha0.some_ (j := Int.toNat (IntKind.wrap .i64 (a1 + 1))) (by rw [List.length_map]; exact idx_lt p16)) (fun hh => ?_)
          obtain ⟨a14, ha15⟩ := hh
          refine J.p rfl rfl rfl rfl (Y.ixa Try.underlying22 ti5 rfl rfl p16 ha15) ?_
          obtain ⟨p17, H⟩ := gd_some H
          refine J.r rfl rfl rfl rfl (Y.ldE Try.underlying5 rfl rfl ha15 p17 ha0) ?_
          refine J.p rfl rfl rfl rfl (Y.bin rfl rfl rfl) ?_
          refine J.p rfl rfl rfl rfl (Y.pickF rfl rfl) ?_
          refine J.nil ?_
          obtain rfl := Option.some.inj H
          exact N.meet (decide (1 < (rd a0 (IntKind.wrap .i64 (a1 + 1)))), ()) ⟨HK12, trivial⟩ (by exact ⟨rfl, rfl, rfl, trivial⟩) (by exact fun w h => h)
      · refine C.at (s' := [(0, .slice Aa0 a0.length ca0), (1, .int .i64 a1), (30, .bool o9)]) (G' := G) rfl rfl ?_
        refine split2 H (fun c18 H => ?_) (fun c18 H => ?_)
        · refine C.condT (congrArg (fun b => some (Value.bool b)) (c18)) ?_
          refine C.rs ?_
          refine J.p rfl rfl rfl rfl (Y.asg rfl) ?_
          refine J.p rfl rfl rfl rfl (Y.asg rfl) ?_
          refine J.p rfl rfl rfl rfl (Y.asg rfl) ?_
          refine J.nx ?_
          refine C.ret ?_
          obtain rfl := Option.some.inj H
          refine T.th ?_
          refine T.ib ?_
          exact ret_ok (ks := [4, 5, 6]) rfl rfl (fun w h => ⟨rfl, h⟩)
        · refine C.condF (congrArg (fun b => some (Value.bool b)) (nt c18)) ?_
          refine C.skip ?_
          refine N.nx ?_
          refine C.rs ?_
          refine J.p rfl rfl rfl rfl (Y.mv rfl) ?_
          refine J.p rfl rfl rfl rfl (Y.mv rfl) ?_
          refine J.p rfl rfl rfl rfl (Y.bin rfl rfl rfl) ?_
          obtain ⟨p19, H⟩ := gd_some H
          refine J.el rfl rfl rfl Try.underlying22 ti5 Try.underlying5 rfl rfl rfl p19 ha0 ?_
          refine J.p rfl rfl rfl rfl (Y.bin rfl rfl rfl) ?_
          refine J.p rfl rfl rfl rfl (Y.asg rfl) ?_
          refine J.p rfl rfl rfl rfl (Y.asg rfl) ?_
          refine J.p rfl rfl rfl rfl (Y.asg rfl) ?_
          refine J.nx ?_
          refine C.ret ?_
          obtain rfl := Option.some.inj H
          refine T.ib ?_
          exact ret_ok (ks := [4, 5, 6]) rfl rfl (fun w h => ⟨rfl, h⟩)
    · refine C.condF (congrArg (fun b => some (Value.bool b)) (decide_eq_false c3)) ?_
      refine C.rs ?_
      refine J.p rfl rfl rfl rfl (Y.mv rfl) ?_
      refine J.p rfl rfl rfl rfl (Y.asg rfl) ?_
      refine J.p rfl rfl rfl rfl (Y.asg rfl) ?_
      refine J.p rfl rfl rfl rfl (Y.asg rfl) ?_
      refine J.nx ?_
      refine C.ret ?_
      obtain rfl := Option.some.inj H
      refine T.ib ?_
      exact ret_ok (ks := [4, 5, 6]) rfl rfl (fun w h => ⟨rfl, h⟩)
/-! ### bytes.IndexByte: function 60 -/
def IndexByte.f (a0 : List Int) (a1 : Int) : Option (Int) := some (idxB a0 a1)
theorem IndexByte.calls {B : Nat} {w0 : World} {G : List HP} (a0 : List Int) (a1 : Int) (Aa0 : Option Addr) (ca0 : Nat) (ha0 : RdG B w0 G Aa0 (a0.map (Value.int .u8))) (ka0 : a0.length ≤ ca0) (r : Int) (H : IndexByte.f a0 a1 = some r) (w : World) (hw : St B w0 (G) w) :
    Calls Try.prog 60 [.slice Aa0 a0.length ca0, .int .u8 a1].toArray w (fun e w' => e = .returned (.int .i64 r) ∧ St B w0 (G) w') := by
  unfold IndexByte.f at H
  refine calls_of (n := 8) (s := [(0, .slice Aa0 a0.length ca0), (1, .int .u8 a1)]) Try.func60 rfl rfl rfl rfl ?_ hw
  refine C.rs ?_
  refine J.p rfl rfl rfl rfl (Y.asg rfl) ?_
  refine J.nx ?_
  refine C.rs ?_
  refine J.p rfl rfl rfl rfl (Y.mv rfl) ?_
  refine J.p rfl rfl rfl rfl (Y.mv rfl) ?_
  refine J.r rfl rfl rfl rfl (Y.idx ex79 rfl rfl ha0) ?_
  refine J.p rfl rfl rfl rfl (Y.asg rfl) ?_
  refine J.nx ?_
  refine C.ret ?_
  obtain rfl := Option.some.inj H
  exact ret_ok (ks := [4]) rfl rfl (fun w h => ⟨rfl, h⟩)
/-! ### salvor/escape.Next: function 33 -/
def Next.f (a0 : List Int) (a1 : Int) : Option (Int) := gd ((0 : Int) ≤ (min (max a1 0) (a0.length : Int)) ∧ ((Int.toNat (min (max a1 0) (a0.length : Int))) ≤ a0.length ∧ a0.length ≤ a0.length)) ((IndexByte.f ((a0.take a0.length).drop (Int.toNat (min (max a1 0) (a0.length : Int)))) 167).bind fun t2 => if 0 ≤ t2 then (some (IntKind.wrap .i64 ((min (max a1 0) (a0.length : Int)) + t2))) else (some (a0.length : Int)))
theorem Next.calls {B : Nat} {w0 : World} {G : List HP} (a0 : List Int) (a1 : Int) (Aa0 : Option Addr) (ca0 : Nat) (ha0 : RdG B w0 G Aa0 (a0.map (Value.int .u8))) (ka0 : a0.length ≤ ca0) (r : Int) (H : Next.f a0 a1 = some r) (w : World) (hw : St B w0 (G) w) :
    Calls Try.prog 33 [.slice Aa0 a0.length ca0, .int .i64 a1].toArray w (fun e w' => e = .returned (.int .i64 r) ∧ St B w0 (G) w') := by
  unfold Next.f at H
  refine calls_of (n := 22) (s := [(0, .slice Aa0 a0.length ca0), (1, .int .i64 a1)]) Try.func33 rfl rfl rfl rfl ?_ hw
  refine C.rs ?_
  refine J.p rfl rfl rfl rfl (Y.asg rfl) ?_
  refine J.nx ?_
  refine C.rs ?_
  refine J.p rfl rfl rfl rfl (Y.mv rfl) ?_
  refine J.p rfl rfl rfl rfl (Y.mx rfl rfl) ?_
  refine J.p rfl rfl rfl rfl (Y.mv rfl) ?_
  refine J.p rfl rfl rfl rfl (Y.lenS Try.underlying22 rfl) ?_
  refine J.p rfl rfl rfl rfl (Y.mn rfl rfl) ?_
  refine J.p rfl rfl rfl rfl (Y.asg rfl) ?_
  refine J.nx ?_
  refine C.seq ?_
  refine C.rs ?_
  refine J.p rfl rfl rfl rfl (Y.mv rfl) ?_
  refine J.p rfl rfl rfl rfl (Y.mv rfl) ?_
  obtain ⟨p1, H⟩ := gd_some H
  refine J.p rfl rfl rfl rfl (Y.slcL Try.underlying22 ti5 rfl (bnd.yes rfl p1.1) bnd.no p1.2 ka0) ?_
  obtain ⟨t2, hC3, H⟩ := bind_some H
  refine J.call (us := []) (cap := []) rfl rfl rfl go60 (fun w hw => by have hcc := IndexByte.calls ((a0.take a0.length).drop (Int.toNat (min (max a1 0) (a0.length : Int)))) 167 (subA 1 Aa0 ca0 (Int.toNat (min (max a1 0) (a0.length : Int)))) (ca0 - (Int.toNat (min (max a1 0) (a0.length : Int)))) (RdG.subL (l := (Int.toNat (min (max a1 0) (a0.length : Int)))) (h := a0.length) ha0 ka0) (hc_sub ka0) t2 hC3 w hw; exact hcc) (fun e w1 h1 => ?_)
  obtain ⟨rfl, hw5⟩ := h1
  refine ⟨_, _, rfl, hw5, ?_⟩
  refine J.p rfl rfl rfl rfl (Y.asg rfl) ?_
  refine J.nx ?_
  refine C.rs ?_
  refine J.p rfl rfl rfl rfl (Y.mv rfl) ?_
  refine J.p rfl rfl rfl rfl (Y.bin rfl rfl rfl) ?_
  refine J.nx ?_
  refine split2 H (fun c4 H => ?_) (fun c4 H => ?_)
  · refine C.condT (congrArg (fun b => some (Value.bool b)) (decide_eq_true c4)) ?_
    refine C.rs ?_
    refine J.p rfl rfl rfl rfl (Y.mv rfl) ?_
    refine J.p rfl rfl rfl rfl (Y.mv rfl) ?_
    refine J.p rfl rfl rfl rfl (Y.bin rfl rfl rfl) ?_
    refine J.p rfl rfl rfl rfl (Y.asg rfl) ?_
    refine J.nx ?_
    refine C.ret ?_
    obtain rfl := Option.some.inj H
    refine T.th ?_
    exact ret_ok (ks := [4]) rfl rfl (fun w h => ⟨rfl, h⟩)
  · refine C.condF (congrArg (fun b => some (Value.bool b)) (decide_eq_false c4)) ?_
    refine C.skip ?_
    refine N.nx ?_
    refine C.rs ?_
    refine J.p rfl rfl rfl rfl (Y.mv rfl) ?_
    refine J.p rfl rfl rfl rfl (Y.lenS Try.underlying22 rfl) ?_
    refine J.p rfl rfl rfl rfl (Y.asg rfl) ?_
    refine J.nx ?_
    refine C.ret ?_
    obtain rfl := Option.some.inj H
    exact ret_ok (ks := [4]) rfl rfl (fun w h => ⟨rfl, h⟩)
/-! ### bytes.Count: function 84 -/
def Count.l1 : Nat → (Unit) → Option (Int)
  | 0, _ => none
  | k + 1, i9 => none
def Count.f (K : Nat) (a0 : List Int) (a1 : List Int) : Option (Int) := if (a1.length : Int) = 0 then (none) else (if (a1.length : Int) = 1 then (gd ((0 : Int) ≤ 0 ∧ 0 < (a1.length : Int)) (some (cntB a0 (rd a1 0)))) else (Count.l1 K ()))
theorem Count.calls {B : Nat} {w0 : World} {G : List HP} (K : Nat) (a0 : List Int) (a1 : List Int) (Aa0 : Option Addr) (ca0 : Nat) (Aa1 : Option Addr) (ca1 : Nat) (ha0 : RdG B w0 G Aa0 (a0.map (Value.int .u8))) (ka0 : a0.length ≤ ca0) (ha1 : RdG B w0 G Aa1 (a1.map (Value.int .u8))) (ka1 : a1.length ≤ ca1) (r : Int) (H : Count.f K a0 a1 = some r) (w : World) (hw : St B w0 (G) w) :
    Calls Try.prog 84 [.slice Aa0 a0.length ca0, .slice Aa1 a1.length ca1].toArray w (fun e w' => e = .returned (.int .i64 r) ∧ St B w0 (G) w') := by
  unfold Count.f at H
  refine calls_of (n := 35) (s := [(0, .slice Aa0 a0.length ca0), (1, .slice Aa1 a1.length ca1)]) Try.func84 rfl rfl rfl rfl ?_ hw
  refine C.rs ?_
  refine J.p rfl rfl rfl rfl (Y.asg rfl) ?_
  refine J.nx ?_
  refine C.seq ?_
  refine C.rs ?_
  refine J.p rfl rfl rfl rfl (Y.mv rfl) ?_
  refine J.p rfl rfl rfl rfl (Y.lenS Try.underlying22 rfl) ?_
  refine J.p rfl rfl rfl rfl (Y.bin rfl rfl rfl) ?_
  refine J.nx ?_
  refine split2 H (fun c1 H => ?_) (fun c1 H => ?_)
  · refine C.condT (congrArg (fun b => some (Value.bool b)) (decide_eq_true c1)) ?_
    refine C.rs ?_
    refine J.p rfl rfl rfl rfl (Y.mv rfl) ?_
    cases H
  · refine C.condF (congrArg (fun b => some (Value.bool b)) (decide_eq_false c1)) ?_
    refine C.skip ?_
    refine N.nx ?_
    refine C.seq ?_
    refine C.rs ?_
    refine J.p rfl rfl rfl rfl (Y.mv rfl) ?_
    refine J.p rfl rfl rfl rfl (Y.lenS Try.underlying22 rfl) ?_
    refine J.p rfl rfl rfl rfl (Y.bin rfl rfl rfl) ?_
    refine J.nx ?_
    refine split2 H (fun c2 H => ?_) (fun c2 H => ?_)
    · refine C.condT (congrArg (fun b => some (Value.bool b)) (decide_eq_true c2)) ?_
      refine C.rs ?_
      refine J.p rfl rfl rfl rfl (Y.mv rfl) ?_
      refine J.p rfl rfl rfl rfl (Y.mv rfl) ?_
      obtain ⟨p3, H⟩ := gd_some H
      refine J.el rfl rfl rfl Try.underlying22 ti5 Try.underlying5 rfl rfl rfl p3 ha1 ?_
      refine J.r rfl rfl rfl rfl (Y.cnt ex88 rfl rfl ha0) ?_
      refine J.p rfl rfl rfl rfl (Y.asg rfl) ?_
      refine J.nx ?_
      refine C.ret ?_
      obtain rfl := Option.some.inj H
      refine T.th ?_
      exact ret_ok (ks := [4]) rfl rfl (fun w h => ⟨rfl, h⟩)
    · refine C.condF (congrArg (fun b => some (Value.bool b)) (decide_eq_false c2)) ?_
      refine C.skip ?_
      refine N.nx ?_
      refine C.rs ?_
      refine J.p rfl rfl rfl rfl (Y.asg rfl) ?_
      refine J.nx ?_
      refine C.blk ?_
      refine C.loop (fun (i : Nat × (Unit) × (Unit)) => [(0, .slice Aa0 a0.length ca0), (1, .slice Aa1 a1.length ca1), (5, .int .i64 0)]) (fun (i : Nat × (Unit) × (Unit)) => G) (fun (i : Nat × (Unit) × (Unit)) => Count.l1 i.1 i.2.1 = some r ∧ (True)) (fun i => i.1) (K, (), ()) ⟨H, trivial⟩ (by exact ⟨rfl, rfl, rfl, trivial⟩) (by exact fun w h => h) ?_
      rintro ⟨k11, i9, j10⟩ ⟨H, _⟩
      replace H : Count.l1 k11 i9 = some r := H
      obtain ⟨k8, rfl⟩ : ∃ m, k11 = m + 1 := by cases k11 with | zero => exact absurd H (by simp [Count.l1]) | succ m => exact ⟨m, rfl⟩
      rw [Count.l1] at H
      refine C.at (s' := [(0, .slice Aa0 a0.length ca0), (1, .slice Aa1 a1.length ca1), (5, .int .i64 0)]) (G' := G) rfl rfl ?_
      refine C.blk ?_
      refine C.rs ?_
      refine J.p rfl rfl rfl rfl (Y.mv rfl) ?_
      refine J.p rfl rfl rfl rfl (Y.mv rfl) ?_
      cases H
/-! ### salvor/escape.Size: function 70 -/
def Size.f (K : Nat) (a0 : List Int) : Option (Int) := (Count.f K a0 [167]).bind fun t3 => (Count.f K a0 [166]).bind fun t7 => some (IntKind.wrap .i64 ((IntKind.wrap .i64 ((a0.length : Int) + t3)) + t7))
theorem Size.calls {B : Nat} {w0 : World} {G : List HP} (K : Nat) (a0 : List Int) (Aa0 : Option Addr) (ca0 : Nat) (ha0 : RdG B w0 G Aa0 (a0.map (Value.int .u8))) (ka0 : a0.length ≤ ca0) (r : Int) (H : Size.f K a0 = some r) (w : World) (hw : St B w0 (G) w) :
    Calls Try.prog 70 [.slice Aa0 a0.length ca0].toArray w (fun e w' => e = .returned (.int .i64 r) ∧ St B w0 (G) w') := by
  unfold Size.f at H
  refine calls_of (n := 13) (s := [(0, .slice Aa0 a0.length ca0)]) Try.func70 rfl rfl rfl rfl ?_ hw
  refine C.rs ?_
  refine J.p rfl rfl rfl rfl (Y.asg rfl) ?_
  refine J.nx ?_
  refine C.rs ?_
  refine J.p rfl rfl rfl rfl (Y.mv rfl) ?_
  refine J.p rfl rfl rfl rfl (Y.lenS Try.underlying22 rfl) ?_
  refine J.p rfl rfl rfl rfl (Y.mv rfl) ?_
  refine J.bsL (enc := (Value.int .u8)) (xs := [167]) rfl Try.underlying22 ti5 rfl rfl rfl rfl rfl (fun A1 => ?_)
  obtain ⟨t3, hC4, H⟩ := bind_some H
  refine J.call (us := []) (cap := []) rfl rfl rfl go84 (fun w hw => by have hcc := Count.calls K a0 [167] Aa0 ca0 A1 1 (ha0.suf [_] rfl) ka0 (RdG.own 0 rfl) (show [167].length ≤ 1 from Nat.le_refl _) t3 hC4 w hw; exact hcc) (fun e w1 h1 => ?_)
  obtain ⟨rfl, hw10⟩ := h1
  refine ⟨_, _, rfl, hw10, ?_⟩
  refine J.p rfl rfl rfl rfl (Y.bin rfl rfl rfl) ?_
  refine J.p rfl rfl rfl rfl (Y.mv rfl) ?_
  refine J.bsL (enc := (Value.int .u8)) (xs := [166]) rfl Try.underlying22 ti5 rfl rfl rfl rfl rfl (fun A5 => ?_)
  obtain ⟨t7, hC8, H⟩ := bind_some H
  refine J.call (us := []) (cap := []) rfl rfl rfl go84 (fun w hw => by have hcc := Count.calls K a0 [166] Aa0 ca0 A5 1 (ha0.suf [_, _] rfl) ka0 (RdG.own 0 rfl) (show [166].length ≤ 1 from Nat.le_refl _) t7 hC8 w hw; exact hcc) (fun e w1 h1 => ?_)
  obtain ⟨rfl, hw9⟩ := h1
  refine ⟨_, _, rfl, hw9, ?_⟩
  refine J.p rfl rfl rfl rfl (Y.bin rfl rfl rfl) ?_
  refine J.p rfl rfl rfl rfl (Y.asg rfl) ?_
  refine J.nx ?_
  refine C.ret ?_
  obtain rfl := Option.some.inj H
  exact ret_ok (ks := [2]) rfl rfl (fun w h => ⟨rfl, (St.pick [] [_, _] h rfl)⟩)
/-! ### salvor/escape.Wrap: function 43 -/
def Wrap.l1 (a0 : List Int) : Nat → ((List Int) × Int) → Option ((List Int))
  | 0, _ => none
  | k + 1, i122 => if i122.2 < (a0.length : Int) then ((gd ((0 : Int) ≤ i122.2 ∧ i122.2 < (a0.length : Int)) (if (rd a0 i122.2) = 167 then (gd ((i122.1.length + [166, 1].length) * 1 ≤ 140737488355328) (some (i122.1 ++ [166, 1]))) else (if (rd a0 i122.2) = 166 then (gd ((i122.1.length + [166, 0].length) * 1 ≤ 140737488355328) (some (i122.1 ++ [166, 0]))) else (gd ((i122.1.length + [rd a0 i122.2].length) * 1 ≤ 140737488355328) (some (i122.1 ++ [rd a0 i122.2])))))).bind fun o149 => Wrap.l1 a0 k (o149, IntKind.wrap .i64 (i122.2 + 1))) else (some i122.1)
def Wrap.f (K : Nat) (a0 : List Int) : Option ((List Int)) := (Size.f K a0).bind fun t1 => gd ((0 : Int) ≤ t1 ∧ ((1 : Nat) : Int) * t1 ≤ 281474976710656) ((Wrap.l1 a0 K (([] : List Int), 0)).bind fun o63 => some o63)
theorem Wrap.calls {B : Nat} {w0 : World} {G : List HP} (K : Nat) (a0 : List Int) (Aa0 : Option Addr) (ca0 : Nat) (ha0 : RdG B w0 G Aa0 (a0.map (Value.int .u8))) (ka0 : a0.length ≤ ca0) (r : (List Int)) (H : Wrap.f K a0 = some r) (w : World) (hw : St B w0 (G) w) :
    Calls Try.prog 43 [.slice Aa0 a0.length ca0].toArray w (fun e w' => ∃ A0 c0, e = .returned (.slice A0 r.length c0) ∧ St B w0 (own 5 1 A0 c0 (r.map (Value.int .u8)) :: G) w') := by
  unfold Wrap.f at H
  refine calls_of (n := 32) (s := [(0, .slice Aa0 a0.length ca0)]) Try.func43 rfl rfl rfl rfl ?_ hw
  refine C.rs ?_
  refine J.p rfl rfl rfl rfl (Y.asg rfl) ?_
  refine J.nx ?_
  refine C.rs ?_
  refine J.p rfl rfl rfl rfl (Y.mv rfl) ?_
  obtain ⟨t1, hC2, H⟩ := bind_some H
  refine J.call (us := []) (cap := []) rfl rfl rfl go70 (fun w hw => by have hcc := Size.calls K a0 Aa0 ca0 ha0 ka0 t1 hC2 w hw; exact hcc) (fun e w1 h1 => ?_)
  obtain ⟨rfl, hw174⟩ := h1
  refine ⟨_, _, rfl, hw174, ?_⟩
  obtain ⟨p4, H⟩ := gd_some H
  refine J.mk0 (enc := (Value.int .u8)) rfl Try.underlying22 ti5 rfl rfl rfl p4 (by decide) (fun A3 => ?_)
  refine J.p rfl rfl rfl rfl (Y.asg rfl) ?_
  refine J.nx ?_
  refine C.seq ?_
  refine C.rs ?_
  refine J.p rfl rfl rfl rfl (Y.mv rfl) ?_
  refine J.p rfl rfl rfl rfl (Y.lenS Try.underlying22 rfl) ?_
  refine J.p rfl rfl rfl rfl (Y.mv rfl) ?_
  refine J.nx ?_
  refine C.joinN H (fun (o63 : (List Int)) (j64 : (Option Addr) × Nat) => [(3, .slice j64.1 o63.length j64.2)]) (fun (o63 : (List Int)) (j64 : (Option Addr) × Nat) => own 5 1 j64.1 j64.2 (o63.map (Value.int .u8)) :: G) (fun (o63 : (List Int)) (j64 : (Option Addr) × Nat) => True) (fun o61 H HK62 => ?_) (fun o63 j64 H _ => ?_)
  · refine C.blk ?_
    refine C.loop (fun (i : Nat × ((List Int) × Int) × ((Option Addr) × Nat)) => [(3, .slice i.2.2.1 i.2.1.1.length i.2.2.2), (9, .slice Aa0 a0.length ca0), (10, .int .i64 (a0.length : Int)), (11, .int .i64 i.2.1.2)]) (fun (i : Nat × ((List Int) × Int) × ((Option Addr) × Nat)) => own 5 1 i.2.2.1 i.2.2.2 (i.2.1.1.map (Value.int .u8)) :: G) (fun (i : Nat × ((List Int) × Int) × ((Option Addr) × Nat)) => Wrap.l1 a0 i.1 i.2.1 = some o61 ∧ (True)) (fun i => i.1) (K, (([] : List Int), 0), (A3, (Int.toNat t1))) ⟨H, trivial⟩ (by exact ⟨rfl, rfl, rfl, rfl, trivial⟩) (by exact fun w h => h) ?_
    rintro ⟨k173, i122, j123⟩ ⟨H, _⟩
    replace H : Wrap.l1 a0 k173 i122 = some o61 := H
    obtain ⟨k121, rfl⟩ : ∃ m, k173 = m + 1 := by cases k173 with | zero => exact absurd H (by simp [Wrap.l1]) | succ m => exact ⟨m, rfl⟩
    rw [Wrap.l1] at H
    refine C.at (s' := [(3, .slice j123.1 i122.1.length j123.2), (9, .slice Aa0 a0.length ca0), (10, .int .i64 (a0.length : Int)), (11, .int .i64 i122.2)]) (G' := own 5 1 j123.1 j123.2 (i122.1.map (Value.int .u8)) :: G) rfl rfl ?_
    refine C.rs ?_
    refine J.p rfl rfl rfl rfl (Y.bin rfl rfl rfl) ?_
    refine J.nx ?_
    refine C.seq ?_
    refine split2 H (fun c125 H => ?_) (fun c125 H => ?_)
    · refine C.condT (congrArg (fun b => some (Value.bool b)) (decide_eq_true c125)) ?_
      refine C.skip ?_
      refine N.nx ?_
      refine C.joinB H (fun (o149 : (List Int)) (j150 : (Option Addr) × Nat) => [(3, .slice j150.1 o149.length j150.2), (9, .slice Aa0 a0.length ca0), (10, .int .i64 (a0.length : Int)), (11, .int .i64 i122.2)]) (fun (o149 : (List Int)) (j150 : (Option Addr) × Nat) => own 5 1 j150.1 j150.2 (o149.map (Value.int .u8)) :: G) (fun (o149 : (List Int)) (j150 : (Option Addr) × Nat) => True) (fun o147 H HK148 => ?_) (fun o149 j150 H _ => ?_)
      · refine C.blk ?_
        refine C.rs ?_
        obtain ⟨p152, H⟩ := gd_some H
        refine J.el rfl rfl rfl Try.underlying22 ti5 Try.underlying5 rfl rfl rfl p152 (ha0.suf [_] rfl) ?_
        refine J.p rfl rfl rfl rfl (Y.asg rfl) ?_
        refine J.nx ?_
        refine C.rs ?_
        refine J.p rfl rfl rfl rfl (Y.mv rfl) ?_
        refine J.nx ?_
        refine C.blk ?_
        refine C.rs ?_
        refine J.p rfl rfl rfl rfl (Y.bin rfl rfl rfl) ?_
        refine J.p rfl rfl rfl rfl (Y.asg rfl) ?_
        refine J.nx ?_
        refine split2 H (fun c153 H => ?_) (fun c153 H => ?_)
        · refine C.condT (congrArg (fun b => some (Value.bool b)) (decide_eq_true c153)) ?_
          refine C.reg ?_
          refine J.p rfl rfl rfl rfl (Y.mv rfl) ?_
          refine J.bsL (enc := (Value.int .u8)) (xs := [166, 1]) rfl Try.underlying22 ti5 rfl rfl rfl rfl rfl (fun A154 => ?_)
          refine J.pull 1 rfl rfl ?_
          obtain ⟨p158, H⟩ := gd_some H
          refine J.appL (enc := (Value.int .u8)) (xs := i122.1) (ys := [166, 1]) rfl Try.underlying22 ti5 rfl (by decide) rfl rfl (fun _ => rfl) (RdG.own 1 rfl) p158 (fun A156 c157 => ?_)
          refine J.pull 1 rfl rfl (J.drop ?_)
          refine J.p rfl rfl rfl rfl (Y.asg rfl) ?_
          refine J.nil ?_
          refine N.ib ?_
          refine N.ib ?_
          obtain rfl := Option.some.inj H
          exact N.meet ((i122.1 ++ [166, 1]), (A156, c157)) ⟨HK148, trivial⟩ (by exact ⟨rfl, rfl, rfl, rfl, trivial⟩) (by exact fun w h => h)
        · refine C.condF (congrArg (fun b => some (Value.bool b)) (decide_eq_false c153)) ?_
          refine C.rs ?_
          refine J.p rfl rfl rfl rfl (Y.bin rfl rfl rfl) ?_
          refine J.p rfl rfl rfl rfl (Y.asg rfl) ?_
          refine J.nx ?_
          refine split2 H (fun c160 H => ?_) (fun c160 H => ?_)
          · refine C.condT (congrArg (fun b => some (Value.bool b)) (decide_eq_true c160)) ?_
            refine C.reg ?_
            refine J.p rfl rfl rfl rfl (Y.mv rfl) ?_
            refine J.bsL (enc := (Value.int .u8)) (xs := [166, 0]) rfl Try.underlying22 ti5 rfl rfl rfl rfl rfl (fun A161 => ?_)
            refine J.pull 1 rfl rfl ?_
            obtain ⟨p165, H⟩ := gd_some H
            refine J.appL (enc := (Value.int .u8)) (xs := i122.1) (ys := [166, 0]) rfl Try.underlying22 ti5 rfl (by decide) rfl rfl (fun _ => rfl) (RdG.own 1 rfl) p165 (fun A163 c164 => ?_)
            refine J.pull 1 rfl rfl (J.drop ?_)
            refine J.p rfl rfl rfl rfl (Y.asg rfl) ?_
            refine J.nil ?_
            refine N.ib ?_
            refine N.ib ?_
            obtain rfl := Option.some.inj H
            exact N.meet ((i122.1 ++ [166, 0]), (A163, c164)) ⟨HK148, trivial⟩ (by exact ⟨rfl, rfl, rfl, rfl, trivial⟩) (by exact fun w h => h)
          · refine C.condF (congrArg (fun b => some (Value.bool b)) (decide_eq_false c160)) ?_
            refine C.reg ?_
            refine J.p rfl rfl rfl rfl (Y.mv rfl) ?_
            refine J.p rfl rfl rfl rfl (Y.mv rfl) ?_
            refine J.bsL (enc := (Value.int .u8)) (xs := [rd a0 i122.2]) rfl Try.underlying22 ti5 rfl rfl rfl rfl rfl (fun A167 => ?_)
            refine J.pull 1 rfl rfl ?_
            obtain ⟨p171, H⟩ := gd_some H
            refine J.appL (enc := (Value.int .u8)) (xs := i122.1) (ys := [rd a0 i122.2]) rfl Try.underlying22 ti5 rfl (by decide) rfl rfl (fun _ => rfl) (RdG.own 1 rfl) p171 (fun A169 c170 => ?_)
            refine J.pull 1 rfl rfl (J.drop ?_)
            refine J.p rfl rfl rfl rfl (Y.asg rfl) ?_
            refine J.nil ?_
            refine N.ib ?_
            refine N.ib ?_
            obtain rfl := Option.some.inj H
            exact N.meet ((i122.1 ++ [rd a0 i122.2]), (A169, c170)) ⟨HK148, trivial⟩ (by exact ⟨rfl, rfl, rfl, rfl, trivial⟩) (by exact fun w h => h)
      · refine C.at (s' := [(3, .slice j150.1 o149.length j150.2), (9, .slice Aa0 a0.length ca0), (10, .int .i64 (a0.length : Int)), (11, .int .i64 i122.2)]) (G' := own 5 1 j150.1 j150.2 (o149.map (Value.int .u8)) :: G) rfl rfl ?_
        refine C.reg ?_
        refine J.p rfl rfl rfl rfl (Y.bin rfl rfl rfl) ?_
        refine J.p rfl rfl rfl rfl (Y.mv rfl) ?_
        refine J.nil ?_
        exact N.again (k121, (o149, IntKind.wrap .i64 (i122.2 + 1)), (j150.1, j150.2)) ⟨H, trivial⟩ (Nat.lt_succ_self _) (by exact ⟨rfl, rfl, rfl, rfl, trivial⟩) (by exact fun w h => h)
    · refine C.condF (congrArg (fun b => some (Value.bool b)) (decide_eq_false c125)) ?_
      refine C.exit ?_
      refine X.th ?_
      refine X.th ?_
      refine X.hit ?_
      obtain rfl := Option.some.inj H
      exact N.meet (i122.1, (j123.1, j123.2)) ⟨HK62, trivial⟩ (by exact ⟨rfl, trivial⟩) (by exact fun w h => h)
  · refine N.at (s' := [(3, .slice j64.1 o63.length j64.2)]) (G' := own 5 1 j64.1 j64.2 (o63.map (Value.int .u8)) :: G) rfl rfl ?_
    refine N.nx ?_
    refine C.rs ?_
    refine J.p rfl rfl rfl rfl (Y.mv rfl) ?_
    refine J.p rfl rfl rfl rfl (Y.asg rfl) ?_
    refine J.nx ?_
    refine C.ret ?_
    obtain rfl := Option.some.inj H
    exact ret_ok (ks := [2]) rfl rfl (fun w h => ⟨j64.1, j64.2, rfl, h⟩)
/-! ### salvor/escape.Open: function 37 -/
def Open.l1 (a0 : List Int) : Nat → ((List Int) × Int) → Option (((List Int) × Int × Int) ⊕ ((List Int)))
  | 0, _ => none
  | k + 1, i68 => if i68.2 < (a0.length : Int) then ((one.f a0 i68.2).bind fun t72 => if t72.2.2 ≠ 0 then (some (.inl ((([] : List Int), t72.2.2, i68.2)))) else (gd ((i68.1.length + [t72.1].length) * 1 ≤ 140737488355328) (Open.l1 a0 k ((i68.1 ++ [t72.1]), IntKind.wrap .i64 (i68.2 + t72.2.1))))) else (some (.inr i68.1))
def Open.f (K : Nat) (a0 : List Int) : Option ((List Int) × Int × Int) := gd ((0 : Int) ≤ (a0.length : Int) ∧ ((1 : Nat) : Int) * (a0.length : Int) ≤ 281474976710656) (thn (Open.l1 a0 K (([] : List Int), 0)) fun o35 => some (o35, 0, 0))
theorem Open.calls {B : Nat} {w0 : World} {G : List HP} (K : Nat) (a0 : List Int) (Aa0 : Option Addr) (ca0 : Nat) (ha0 : RdG B w0 G Aa0 (a0.map (Value.int .u8))) (ka0 : a0.length ≤ ca0) (r : (List Int) × Int × Int) (H : Open.f K a0 = some r) (w : World) (hw : St B w0 (G) w) :
    Calls Try.prog 37 [.slice Aa0 a0.length ca0].toArray w (fun e w' => ∃ A0 c0, e = .returned (.tuple #[.slice A0 r.1.length c0, .int .i64 r.2.1, .int .i64 r.2.2]) ∧ St B w0 (own 5 1 A0 c0 (r.1.map (Value.int .u8)) :: G) w') := by
  unfold Open.f at H
  refine calls_of (n := 36) (s := [(0, .slice Aa0 a0.length ca0)]) Try.func37 rfl rfl rfl rfl ?_ hw
  refine C.rs ?_
  refine J.p rfl rfl rfl rfl (Y.asg rfl) ?_
  refine J.p rfl rfl rfl rfl (Y.asg rfl) ?_
  refine J.p rfl rfl rfl rfl (Y.asg rfl) ?_
  refine J.nx ?_
  refine C.rs ?_
  refine J.p rfl rfl rfl rfl (Y.mv rfl) ?_
  refine J.p rfl rfl rfl rfl (Y.lenS Try.underlying22 rfl) ?_
  obtain ⟨p2, H⟩ := gd_some H
  refine J.mk0 (enc := (Value.int .u8)) rfl Try.underlying22 ti5 rfl rfl rfl p2 (by decide) (fun A1 => ?_)
  refine J.p rfl rfl rfl rfl (Y.asg rfl) ?_
  refine J.nx ?_
  refine C.seq ?_
  refine C.rs ?_
  refine J.p rfl rfl rfl rfl (Y.asg rfl) ?_
  refine J.nx ?_
  refine C.joinNR H (fun (o35 : (List Int)) (j36 : (Option Addr) × Nat) => [(5, .slice j36.1 o35.length j36.2)]) (fun (o35 : (List Int)) (j36 : (Option Addr) × Nat) => own 5 1 j36.1 j36.2 (o35.map (Value.int .u8)) :: G) (fun (o35 : (List Int)) (j36 : (Option Addr) × Nat) => True) (fun o33 H HK34 => ?_) (fun o35 j36 H _ => ?_)
  · refine C.blk ?_
    refine C.loop (fun (i : Nat × ((List Int) × Int) × ((Option Addr) × Nat)) => [(0, .slice Aa0 a0.length ca0), (5, .slice i.2.2.1 i.2.1.1.length i.2.2.2), (6, .int .i64 i.2.1.2)]) (fun (i : Nat × ((List Int) × Int) × ((Option Addr) × Nat)) => own 5 1 i.2.2.1 i.2.2.2 (i.2.1.1.map (Value.int .u8)) :: G) (fun (i : Nat × ((List Int) × Int) × ((Option Addr) × Nat)) => Open.l1 a0 i.1 i.2.1 = some o33 ∧ (True)) (fun i => i.1) (K, (([] : List Int), 0), (A1, (Int.toNat (a0.length : Int)))) ⟨H, trivial⟩ (by exact ⟨rfl, rfl, rfl, trivial⟩) (by exact fun w h => h) ?_
    rintro ⟨k83, i68, j69⟩ ⟨H, _⟩
    replace H : Open.l1 a0 k83 i68 = some o33 := H
    obtain ⟨k67, rfl⟩ : ∃ m, k83 = m + 1 := by cases k83 with | zero => exact absurd H (by simp [Open.l1]) | succ m => exact ⟨m, rfl⟩
    rw [Open.l1] at H
    refine C.at (s' := [(0, .slice Aa0 a0.length ca0), (5, .slice j69.1 i68.1.length j69.2), (6, .int .i64 i68.2)]) (G' := own 5 1 j69.1 j69.2 (i68.1.map (Value.int .u8)) :: G) rfl rfl ?_
    refine C.seq ?_
    refine C.rs ?_
    refine J.p rfl rfl rfl rfl (Y.mv rfl) ?_
    refine J.p rfl rfl rfl rfl (Y.mv rfl) ?_
    refine J.p rfl rfl rfl rfl (Y.lenS Try.underlying22 rfl) ?_
    refine J.p rfl rfl rfl rfl (Y.bin rfl rfl rfl) ?_
    refine J.nx ?_
    refine split2 H (fun c71 H => ?_) (fun c71 H => ?_)
    · refine C.condT (congrArg (fun b => some (Value.bool b)) (decide_eq_true c71)) ?_
      refine C.skip ?_
      refine N.nx ?_
      refine C.blk ?_
      refine C.rs ?_
      refine J.p rfl rfl rfl rfl (Y.mv rfl) ?_
      refine J.p rfl rfl rfl rfl (Y.mv rfl) ?_
      obtain ⟨t72, hC73, H⟩ := bind_some H
      refine J.call (us := []) (cap := []) rfl rfl rfl go61 (fun w hw => by have hcc := one.calls a0 i68.2 Aa0 ca0 (ha0.suf [_] rfl) ka0 t72 hC73 w hw; exact hcc) (fun e w1 h1 => ?_)
      obtain ⟨rfl, hw82⟩ := h1
      refine ⟨_, _, rfl, hw82, ?_⟩
      refine J.p rfl rfl rfl rfl (Y.mv rfl) ?_
      refine J.p rfl rfl rfl rfl (Y.ext rfl rfl) ?_
      refine J.p rfl rfl rfl rfl (Y.ext rfl rfl) ?_
      refine J.p rfl rfl rfl rfl (Y.ext rfl rfl) ?_
      refine J.p rfl rfl rfl rfl (Y.asg rfl) ?_
      refine J.p rfl rfl rfl rfl (Y.asg rfl) ?_
      refine J.p rfl rfl rfl rfl (Y.asg rfl) ?_
      refine J.nx ?_
      refine C.seq ?_
      refine C.rs ?_
      refine J.p rfl rfl rfl rfl (Y.mv rfl) ?_
      refine J.p rfl rfl rfl rfl (Y.bin rfl rfl rfl) ?_
      refine J.nx ?_
      refine split2 H (fun c74 H => ?_) (fun c74 H => ?_)
      · refine C.condT (congrArg (fun b => some (Value.bool b)) (decide_eq_true c74)) ?_
        refine C.rs ?_
        refine J.p rfl rfl rfl rfl (Y.mv rfl) ?_
        refine J.p rfl rfl rfl rfl (Y.mv rfl) ?_
        refine J.p rfl rfl rfl rfl (Y.asg rfl) ?_
        refine J.p rfl rfl rfl rfl (Y.asg rfl) ?_
        refine J.p rfl rfl rfl rfl (Y.asg rfl) ?_
        refine J.nx ?_
        refine C.ret ?_
        obtain rfl := Option.some.inj H
        obtain rfl := fin_inl HK34
        refine T.th ?_
        refine T.ib ?_
        refine T.th ?_
        refine T.ib ?_
        refine T.th ?_
        refine T.th ?_
        exact ret_ok (ks := [2, 3, 4]) rfl rfl (fun w h => ⟨none, 0, rfl, (St.pick [0] [_, _] (h.nilOwn 5 1) rfl)⟩)
      · refine C.condF (congrArg (fun b => some (Value.bool b)) (decide_eq_false c74)) ?_
        refine C.skip ?_
        refine N.nx ?_
        refine C.rs ?_
        refine J.p rfl rfl rfl rfl (Y.mv rfl) ?_
        refine J.p rfl rfl rfl rfl (Y.mv rfl) ?_
        refine J.bsL (enc := (Value.int .u8)) (xs := [t72.1]) rfl Try.underlying22 ti5 rfl rfl rfl rfl rfl (fun A76 => ?_)
        refine J.pull 1 rfl rfl ?_
        obtain ⟨p80, H⟩ := gd_some H
        refine J.appL (enc := (Value.int .u8)) (xs := i68.1) (ys := [t72.1]) rfl Try.underlying22 ti5 rfl (by decide) rfl rfl (fun _ => rfl) (RdG.own 1 rfl) p80 (fun A78 c79 => ?_)
        refine J.pull 1 rfl rfl (J.drop ?_)
        refine J.p rfl rfl rfl rfl (Y.asg rfl) ?_
        refine J.nx ?_
        refine C.reg ?_
        refine J.p rfl rfl rfl rfl (Y.mv rfl) ?_
        refine J.p rfl rfl rfl rfl (Y.mv rfl) ?_
        refine J.p rfl rfl rfl rfl (Y.bin rfl rfl rfl) ?_
        refine J.p rfl rfl rfl rfl (Y.asg rfl) ?_
        refine J.nil ?_
        refine N.ib ?_
        exact N.again (k67, ((i68.1 ++ [t72.1]), IntKind.wrap .i64 (i68.2 + t72.2.1)), (A78, c79)) ⟨H, trivial⟩ (Nat.lt_succ_self _) (by exact ⟨rfl, rfl, rfl, trivial⟩) (by exact fun w h => h)
    · refine C.condF (congrArg (fun b => some (Value.bool b)) (decide_eq_false c71)) ?_
      refine C.exit ?_
      refine X.th ?_
      refine X.th ?_
      refine X.hit ?_
      obtain rfl := Option.some.inj H
      exact N.meet (i68.1, (j69.1, j69.2)) ⟨fin_inr HK34, trivial⟩ (by exact ⟨rfl, trivial⟩) (by exact fun w h => h)
  · refine N.at (s' := [(5, .slice j36.1 o35.length j36.2)]) (G' := own 5 1 j36.1 j36.2 (o35.map (Value.int .u8)) :: G) rfl rfl ?_
    refine N.nx ?_
    refine C.rs ?_
    refine J.p rfl rfl rfl rfl (Y.mv rfl) ?_
    refine J.p rfl rfl rfl rfl (Y.asg rfl) ?_
    refine J.p rfl rfl rfl rfl (Y.asg rfl) ?_
    refine J.p rfl rfl rfl rfl (Y.asg rfl) ?_
    refine J.nx ?_
    refine C.ret ?_
    obtain rfl := Option.some.inj H
    exact ret_ok (ks := [2, 3, 4]) rfl rfl (fun w h => ⟨j36.1, j36.2, rfl, h⟩)
/-! ### salvor/vint.Decode$1: function 86 -/
def DecodeF.f (a0 : Int) : Option (Bool) := some (decide (a0 < 128))
theorem DecodeF.calls {B : Nat} {w0 : World} {G : List HP} (a0 : Int) (r : Bool) (H : DecodeF.f a0 = some r) (w : World) (hw : St B w0 (G) w) :
    Calls Try.prog 86 [.int .u8 a0].toArray w (fun e w' => e = .returned (.bool r) ∧ St B w0 (G) w') := by
  unfold DecodeF.f at H
  refine calls_of (n := 5) (s := [(0, .int .u8 a0)]) Try.func86 rfl rfl rfl rfl ?_ hw
  refine C.rs ?_
  refine J.p rfl rfl rfl rfl (Y.asg rfl) ?_
  refine J.nx ?_
  refine C.rs ?_
  refine J.p rfl rfl rfl rfl (Y.mv rfl) ?_
  refine J.p rfl rfl rfl rfl (Y.bin rfl rfl rfl) ?_
  refine J.p rfl rfl rfl rfl (Y.asg rfl) ?_
  refine J.nx ?_
  refine C.ret ?_
  obtain rfl := Option.some.inj H
  exact ret_ok (ks := [2]) rfl rfl (fun w h => ⟨rfl, h⟩)
/-! ### slices.IndexFunc[[]byte,byte]: function 85 -/
def IndexFunc.l1 (a0 : List Int) : Nat → (Int) → Option ((Int) ⊕ (Unit))
  | 0, _ => none
  | k + 1, i38 => if i38 < (a0.length : Int) then (gd ((0 : Int) ≤ i38 ∧ i38 < (a0.length : Int)) ((DecodeF.f (rd a0 i38)).bind fun t42 => if t42 = true then (some (.inl (i38))) else (IndexFunc.l1 a0 k (IntKind.wrap .i64 (i38 + 1))))) else (some (.inr ()))
def IndexFunc.f (K : Nat) (a0 : List Int) : Option (Int) := thn (IndexFunc.l1 a0 K 0) fun o19 => some (-1)
theorem IndexFunc.calls {B : Nat} {w0 : World} {G : List HP} (K : Nat) (a0 : List Int) (Aa0 : Option Addr) (ca0 : Nat) (ha0 : RdG B w0 G Aa0 (a0.map (Value.int .u8))) (ka0 : a0.length ≤ ca0) (r : Int) (H : IndexFunc.f K a0 = some r) (w : World) (hw : St B w0 (G) w) :
    Calls Try.prog 85 [.slice Aa0 a0.length ca0, .func (.func 86) #[] #[]].toArray w (fun e w' => e = .returned (.int .i64 r) ∧ St B w0 (G) w') := by
  unfold IndexFunc.f at H
  refine calls_of (n := 19) (s := [(0, .slice Aa0 a0.length ca0), (1, .func (.func 86) #[] #[])]) Try.func85 rfl rfl rfl rfl ?_ hw
  refine C.rs ?_
  refine J.p rfl rfl rfl rfl (Y.asg rfl) ?_
  refine J.nx ?_
  refine C.seq ?_
  refine C.rs ?_
  refine J.p rfl rfl rfl rfl (Y.mv rfl) ?_
  refine J.p rfl rfl rfl rfl (Y.lenS Try.underlying22 rfl) ?_
  refine J.p rfl rfl rfl rfl (Y.mv rfl) ?_
  refine J.nx ?_
  refine C.joinNR H (fun (o19 : Unit) (j20 : Unit) => []) (fun (o19 : Unit) (j20 : Unit) => G) (fun (o19 : Unit) (j20 : Unit) => True) (fun o17 H HK18 => ?_) (fun o19 j20 H _ => ?_)
  · refine C.blk ?_
    refine C.loop (fun (i : Nat × (Int) × (Unit)) => [(0, .slice Aa0 a0.length ca0), (1, .func (.func 86) #[] #[]), (7, .int .i64 (a0.length : Int)), (8, .int .i64 i.2.1)]) (fun (i : Nat × (Int) × (Unit)) => G) (fun (i : Nat × (Int) × (Unit)) => IndexFunc.l1 a0 i.1 i.2.1 = some o17 ∧ (True)) (fun i => i.1) (K, 0, ()) ⟨H, trivial⟩ (by exact ⟨rfl, rfl, rfl, rfl, trivial⟩) (by exact fun w h => h) ?_
    rintro ⟨k46, i38, j39⟩ ⟨H, _⟩
    replace H : IndexFunc.l1 a0 k46 i38 = some o17 := H
    obtain ⟨k37, rfl⟩ : ∃ m, k46 = m + 1 := by cases k46 with | zero => exact absurd H (by simp [IndexFunc.l1]) | succ m => exact ⟨m, rfl⟩
    rw [IndexFunc.l1] at H
    refine C.at (s' := [(0, .slice Aa0 a0.length ca0), (1, .func (.func 86) #[] #[]), (7, .int .i64 (a0.length : Int)), (8, .int .i64 i38)]) (G' := G) rfl rfl ?_
    refine C.rs ?_
    refine J.p rfl rfl rfl rfl (Y.bin rfl rfl rfl) ?_
    refine J.nx ?_
    refine C.seq ?_
    refine split2 H (fun c40 H => ?_) (fun c40 H => ?_)
    · refine C.condT (congrArg (fun b => some (Value.bool b)) (decide_eq_true c40)) ?_
      refine C.skip ?_
      refine N.nx ?_
      refine C.seq ?_
      refine C.blk ?_
      refine C.rs ?_
      refine J.p rfl rfl rfl rfl (Y.mv rfl) ?_
      refine J.p rfl rfl rfl rfl (Y.asg rfl) ?_
      refine J.nx ?_
      refine C.rs ?_
      refine J.p rfl rfl rfl rfl (Y.mv rfl) ?_
      refine J.p rfl rfl rfl rfl (Y.mv rfl) ?_
      refine J.p rfl rfl rfl rfl (Y.mv rfl) ?_
      obtain ⟨p41, H⟩ := gd_some H
      refine J.el rfl rfl rfl Try.underlying22 ti5 Try.underlying5 rfl rfl rfl p41 ha0 ?_
      obtain ⟨t42, hC43, H⟩ := bind_some H
      refine J.call (us := []) (cap := []) rfl rfl rfl go86 (fun w hw => by have hcc := DecodeF.calls (rd a0 i38) t42 hC43 w hw; exact hcc) (fun e w1 h1 => ?_)
      obtain ⟨rfl, hw45⟩ := h1
      refine ⟨_, _, rfl, hw45, ?_⟩
      refine J.nx ?_
      refine split2 H (fun c44 H => ?_) (fun c44 H => ?_)
      · refine C.condT (congrArg (fun b => some (Value.bool b)) (c44)) ?_
        refine C.rs ?_
        refine J.p rfl rfl rfl rfl (Y.mv rfl) ?_
        refine J.p rfl rfl rfl rfl (Y.asg rfl) ?_
        refine J.nx ?_
        refine C.ret ?_
        obtain rfl := Option.some.inj H
        obtain rfl := fin_inl HK18
        refine T.ib ?_
        refine T.th ?_
        refine T.th ?_
        refine T.ib ?_
        refine T.th ?_
        refine T.th ?_
        exact ret_ok (ks := [4]) rfl rfl (fun w h => ⟨rfl, h⟩)
      · refine C.condF (congrArg (fun b => some (Value.bool b)) (nt c44)) ?_
        refine C.skip ?_
        refine N.ib ?_
        refine N.nx ?_
        refine C.reg ?_
        refine J.p rfl rfl rfl rfl (Y.bin rfl rfl rfl) ?_
        refine J.p rfl rfl rfl rfl (Y.mv rfl) ?_
        refine J.nil ?_
        exact N.again (k37, IntKind.wrap .i64 (i38 + 1), ()) ⟨H, trivial⟩ (Nat.lt_succ_self _) (by exact ⟨rfl, rfl, rfl, rfl, trivial⟩) (by exact fun w h => h)
    · refine C.condF (congrArg (fun b => some (Value.bool b)) (decide_eq_false c40)) ?_
      refine C.exit ?_
      refine X.th ?_
      refine X.th ?_
      refine X.hit ?_
      obtain rfl := Option.some.inj H
      exact N.meet ((), ()) ⟨fin_inr HK18, trivial⟩ (by exact trivial) (by exact fun w h => h)
  · refine N.at (s' := []) (G' := G) rfl rfl ?_
    refine N.nx ?_
    refine C.rs ?_
    refine J.p rfl rfl rfl rfl (Y.asg rfl) ?_
    refine J.nx ?_
    refine C.ret ?_
    obtain rfl := Option.some.inj H
    exact ret_ok (ks := [4]) rfl rfl (fun w h => ⟨rfl, h⟩)
/-! ### salvor/vint.Decode: function 80 -/
def Decode.l1 (a0 : List Int) (t2 : Int) : Nat → (Int × (List Int) × Int) → Option (Int)
  | 0, _ => none
  | k + 1, i98 => if i98.2.2 < (((a0.take (Int.toNat (IntKind.wrap .i64 (t2 + 1)))).drop 0).length : Int) then (gd ((0 : Int) ≤ i98.2.2 ∧ i98.2.2 < (i98.2.1.length : Int)) (gd ((0 : Int) ≤ (IntKind.wrap .i64 (7 * i98.2.2))) (Decode.l1 a0 t2 k (Sx.bits .or .u64 i98.1 (Sx.shl .u64 (IntKind.wrap .u64 (Sx.bits .and .u8 (rd i98.2.1 i98.2.2) 127)) (IntKind.wrap .i64 (7 * i98.2.2))), i98.2.1, IntKind.wrap .i64 (i98.2.2 + 1))))) else (some i98.1)
def Decode.f (K : Nat) (a0 : List Int) : Option (Int × Int × Int) := gd ((0 : Int) ≤ (min (a0.length : Int) 10) ∧ (0 ≤ (Int.toNat (min (a0.length : Int) 10)) ∧ (Int.toNat (min (a0.length : Int) 10)) ≤ a0.length)) ((IndexFunc.f K ((a0.take (Int.toNat (min (a0.length : Int) 10))).drop 0)).bind fun t2 => thn ((if t2 < 0 then (some (decide ((a0.length : Int) < 10))) else (some false)).bind fun o30 => if o30 = true then (some (.inl ((0, 0, 21)))) else ((if t2 < 0 then (some (decide (t2 < 0))) else (if t2 = 9 then (gd ((0 : Int) ≤ t2 ∧ t2 < (a0.length : Int)) (gd ((0 : Int) ≤ t2 ∧ t2 < (a0.length : Int)) (some (decide (1 < (rd a0 t2)))))) else (some false))).bind fun o44 => if o44 = true then (some (.inl ((0, 0, 22)))) else ((if 0 < t2 then (gd ((0 : Int) ≤ t2 ∧ t2 < (a0.length : Int)) (gd ((0 : Int) ≤ t2 ∧ t2 < (a0.length : Int)) (some (decide ((rd a0 t2) = 0))))) else (some false)).bind fun o58 => if o58 = true then (some (.inl ((0, 0, 23)))) else (some (.inr ()))))) fun o27 => gd ((0 : Int) ≤ (IntKind.wrap .i64 (t2 + 1)) ∧ (0 ≤ (Int.toNat (IntKind.wrap .i64 (t2 + 1))) ∧ (Int.toNat (IntKind.wrap .i64 (t2 + 1))) ≤ a0.length)) ((Decode.l1 a0 t2 K (0, ((a0.take (Int.toNat (IntKind.wrap .i64 (t2 + 1)))).drop 0), 0)).bind fun o83 => some (o83, IntKind.wrap .i64 (t2 + 1), 0)))
theorem Decode.calls {B : Nat} {w0 : World} {G : List HP} (K : Nat) (a0 : List Int) (Aa0 : Option Addr) (ca0 : Nat) (ha0 : RdG B w0 G Aa0 (a0.map (Value.int .u8))) (ka0 : a0.length ≤ ca0) (r : Int × Int × Int) (H : Decode.f K a0 = some r) (w : World) (hw : St B w0 (G) w) :
    Calls Try.prog 80 [.slice Aa0 a0.length ca0].toArray w (fun e w' => e = .returned (.tuple #[.int .u64 r.1, .int .i64 r.2.1, .int .i64 r.2.2]) ∧ St B w0 (G) w') := by
  unfold Decode.f at H
  refine calls_of (n := 67) (s := [(0, .slice Aa0 a0.length ca0)]) Try.func80 rfl rfl rfl rfl ?_ hw
  refine C.rs ?_
  refine J.p rfl rfl rfl rfl (Y.asg rfl) ?_
  refine J.p rfl rfl rfl rfl (Y.asg rfl) ?_
  refine J.p rfl rfl rfl rfl (Y.asg rfl) ?_
  refine J.nx ?_
  refine C.rs ?_
  refine J.p rfl rfl rfl rfl (Y.mv rfl) ?_
  refine J.p rfl rfl rfl rfl (Y.mv rfl) ?_
  refine J.p rfl rfl rfl rfl (Y.lenS Try.underlying22 rfl) ?_
  refine J.p rfl rfl rfl rfl (Y.mn rfl rfl) ?_
  obtain ⟨p1, H⟩ := gd_some H
  refine J.p rfl rfl rfl rfl (Y.slcL Try.underlying22 ti5 rfl bnd.no (bnd.yes rfl p1.1) p1.2 ka0) ?_
  obtain ⟨t2, hC3, H⟩ := bind_some H
  refine J.call (us := []) (cap := []) rfl rfl rfl go85 (fun w hw => by have hcc := IndexFunc.calls K ((a0.take (Int.toNat (min (a0.length : Int) 10))).drop 0) (subA 1 Aa0 ca0 0) (ca0 - 0) (RdG.subL (l := 0) (h := (Int.toNat (min (a0.length : Int) 10))) ha0 ka0) (hc_sub ka0) t2 hC3 w hw; exact hcc) (fun e w1 h1 => ?_)
  obtain ⟨rfl, hw105⟩ := h1
  refine ⟨_, _, rfl, hw105, ?_⟩
  refine J.p rfl rfl rfl rfl (Y.asg rfl) ?_
  refine J.nx ?_
  refine C.joinR H (fun (o27 : Unit) (j28 : Unit) => [(0, .slice Aa0 a0.length ca0), (5, .int .i64 t2)]) (fun (o27 : Unit) (j28 : Unit) => G) (fun (o27 : Unit) (j28 : Unit) => True) (fun o25 H HK26 => ?_) (fun o27 j28 H _ => ?_)
  · refine C.blk ?_
    refine C.rs ?_
    refine J.joinB H (fun (o30 : Bool) (j31 : Unit) => [(0, .slice Aa0 a0.length ca0), (5, .int .i64 t2), (15, .bool o30)]) (fun (o30 : Bool) (j31 : Unit) => G) (fun (o30 : Bool) (j31 : Unit) => True) (fun o32 H HK33 => ?_) (fun o30 j31 H _ => ?_)
    · refine J.p rfl rfl rfl rfl (Y.mv rfl) ?_
      refine J.p rfl rfl rfl rfl (Y.bin rfl rfl rfl) ?_
      refine J.p rfl rfl rfl rfl (Y.mv rfl) ?_
      refine split2 H (fun c34 H => ?_) (fun c34 H => ?_)
      · refine J.as (k := 18) rfl (congrArg Value.bool (decide_eq_true c34)) ?_
        refine J.p rfl rfl rfl rfl (Y.mv rfl) ?_
        refine J.p rfl rfl rfl rfl (Y.lenS Try.underlying22 rfl) ?_
        refine J.p rfl rfl rfl rfl (Y.bin rfl rfl rfl) ?_
        refine J.p rfl rfl rfl rfl (Y.pickT rfl rfl) ?_
        refine J.p rfl rfl rfl rfl (Y.asg rfl) ?_
        refine J.nil ?_
        obtain rfl := Option.some.inj H
        exact N.meet (decide ((a0.length : Int) < 10), ()) ⟨HK33, trivial⟩ (by exact ⟨rfl, rfl, rfl, trivial⟩) (by exact fun w h => h)
      · refine J.as (k := 18) rfl (congrArg Value.bool (decide_eq_false c34)) ?_
        refine J.skip rfl rfl ?_
        refine J.skip rfl rfl ?_
        refine J.skip rfl rfl ?_
        refine J.p rfl rfl rfl rfl (Y.pickF rfl rfl) ?_
        refine J.p rfl rfl rfl rfl (Y.asg rfl) ?_
        refine J.nil ?_
        obtain rfl := Option.some.inj H
        exact N.meet (false, ()) ⟨HK33, trivial⟩ (by exact ⟨rfl, rfl, rfl, trivial⟩) (by exact fun w h => h)
    · refine C.at (s' := [(0, .slice Aa0 a0.length ca0), (5, .int .i64 t2), (15, .bool o30)]) (G' := G) rfl rfl ?_
      refine split2 H (fun c35 H => ?_) (fun c35 H => ?_)
      · refine C.condT (congrArg (fun b => some (Value.bool b)) (c35)) ?_
        refine C.rs ?_
        refine J.p rfl rfl rfl rfl (Y.asg rfl) ?_
        refine J.p rfl rfl rfl rfl (Y.asg rfl) ?_
        refine J.p rfl rfl rfl rfl (Y.asg rfl) ?_
        refine J.nx ?_
        refine C.ret ?_
        obtain rfl := Option.some.inj H
        obtain rfl := fin_inl HK26
        refine T.ib ?_
        refine T.th ?_
        exact ret_ok (ks := [2, 3, 4]) rfl rfl (fun w h => ⟨rfl, h⟩)
      · refine C.condF (congrArg (fun b => some (Value.bool b)) (nt c35)) ?_
        refine C.seq ?_
        refine C.rs ?_
        refine J.p rfl rfl rfl rfl (Y.mv rfl) ?_
        refine J.p rfl rfl rfl rfl (Y.bin rfl rfl rfl) ?_
        refine J.p rfl rfl rfl rfl (Y.asg rfl) ?_
        refine J.nx ?_
        refine C.joinN H (fun (o44 : Bool) (j45 : Unit) => [(0, .slice Aa0 a0.length ca0), (5, .int .i64 t2), (23, .bool o44)]) (fun (o44 : Bool) (j45 : Unit) => G) (fun (o44 : Bool) (j45 : Unit) => True) (fun o42 H HK43 => ?_) (fun o44 j45 H _ => ?_)
        · refine split2 H (fun c46 H => ?_) (fun c46 H => ?_)
          · refine C.condT (congrArg (fun b => some (Value.bool b)) (decide_eq_true c46)) ?_
            refine C.skip ?_
            obtain rfl := Option.some.inj H
            exact N.meet (decide (t2 < 0), ()) ⟨HK43, trivial⟩ (by exact ⟨rfl, rfl, rfl, trivial⟩) (by exact fun w h => h)
          · refine C.condF (congrArg (fun b => some (Value.bool b)) (decide_eq_false c46)) ?_
            refine C.reg ?_
            refine J.p rfl rfl rfl rfl (Y.mv rfl) ?_
            refine J.p rfl rfl rfl rfl (Y.bin rfl rfl rfl) ?_
            refine J.p rfl rfl rfl rfl (Y.mv rfl) ?_
            refine split2 H (fun c47 H => ?_) (fun c47 H => ?_)
            · refine J.as (k := 28) rfl (congrArg Value.bool (decide_eq_true c47)) ?_
              refine J.p rfl rfl rfl rfl (Y.mv rfl) ?_
              refine J.p rfl rfl rfl rfl (Y.mv rfl) ?_
              obtain ⟨p50, H⟩ := gd_some H
              refine J.know (ha0.some_ (j := Int.toNat t2) (by rw [List.length_map]; exact idx_lt p50)) (fun hh => ?_)
              obtain ⟨a48, ha49⟩ := hh
              refine J.p rfl rfl rfl rfl (Y.ixa Try.underlying22 ti5 rfl rfl p50 ha49) ?_
              obtain ⟨p51, H⟩ := gd_some H
              refine J.r rfl rfl rfl rfl (Y.ldE Try.underlying5 rfl rfl ha49 p51 ha0) ?_
              refine J.p rfl rfl rfl rfl (Y.bin rfl rfl rfl) ?_
              refine J.p rfl rfl rfl rfl (Y.pickT rfl rfl) ?_
              refine J.p rfl rfl rfl rfl (Y.asg rfl) ?_
              refine J.nil ?_
              obtain rfl := Option.some.inj H
              exact N.meet (decide (1 < (rd a0 t2)), ()) ⟨HK43, trivial⟩ (by exact ⟨rfl, rfl, rfl, trivial⟩) (by exact fun w h => h)
            · refine J.as (k := 28) rfl (congrArg Value.bool (decide_eq_false c47)) ?_
              refine J.skip rfl rfl ?_
              refine J.skip rfl rfl ?_
              refine J.skip rfl rfl ?_
              refine J.skip rfl rfl ?_
              refine J.skip rfl rfl ?_
              refine J.p rfl rfl rfl rfl (Y.pickF rfl rfl) ?_
              refine J.p rfl rfl rfl rfl (Y.asg rfl) ?_
              refine J.nil ?_
              obtain rfl := Option.some.inj H
              exact N.meet (false, ()) ⟨HK43, trivial⟩ (by exact ⟨rfl, rfl, rfl, trivial⟩) (by exact fun w h => h)
        · refine N.at (s' := [(0, .slice Aa0 a0.length ca0), (5, .int .i64 t2), (23, .bool o44)]) (G' := G) rfl rfl ?_
          refine N.nx ?_
          refine split2 H (fun c52 H => ?_) (fun c52 H => ?_)
          · refine C.condT (congrArg (fun b => some (Value.bool b)) (c52)) ?_
            refine C.rs ?_
            refine J.p rfl rfl rfl rfl (Y.asg rfl) ?_
            refine J.p rfl rfl rfl rfl (Y.asg rfl) ?_
            refine J.p rfl rfl rfl rfl (Y.asg rfl) ?_
            refine J.nx ?_
            refine C.ret ?_
            obtain rfl := Option.some.inj H
            obtain rfl := fin_inl HK26
            refine T.ib ?_
            refine T.th ?_
            exact ret_ok (ks := [2, 3, 4]) rfl rfl (fun w h => ⟨rfl, h⟩)
          · refine C.condF (congrArg (fun b => some (Value.bool b)) (nt c52)) ?_
            refine C.rs ?_
            refine J.joinB H (fun (o58 : Bool) (j59 : Unit) => [(0, .slice Aa0 a0.length ca0), (5, .int .i64 t2), (35, .bool o58)]) (fun (o58 : Bool) (j59 : Unit) => G) (fun (o58 : Bool) (j59 : Unit) => True) (fun o60 H HK61 => ?_) (fun o58 j59 H _ => ?_)
            · refine J.p rfl rfl rfl rfl (Y.mv rfl) ?_
              refine J.p rfl rfl rfl rfl (Y.bin rfl rfl rfl) ?_
              refine J.p rfl rfl rfl rfl (Y.mv rfl) ?_
              refine split2 H (fun c62 H => ?_) (fun c62 H => ?_)
              · refine J.as (k := 38) rfl (congrArg Value.bool (decide_eq_true c62)) ?_
                refine J.p rfl rfl rfl rfl (Y.mv rfl) ?_
                refine J.p rfl rfl rfl rfl (Y.mv rfl) ?_
                obtain ⟨p65, H⟩ := gd_some H
                refine J.know (ha0.some_ (j := Int.toNat t2) (by rw [List.length_map]; exact idx_lt p65)) (fun hh => ?_)
                obtain ⟨a63, ha64⟩ := hh
                refine J.p rfl rfl rfl rfl (Y.ixa Try.underlying22 ti5 rfl rfl p65 ha64) ?_
                obtain ⟨p66, H⟩ := gd_some H
                refine J.r rfl rfl rfl rfl (Y.ldE Try.underlying5 rfl rfl ha64 p66 ha0) ?_
                refine J.p rfl rfl rfl rfl (Y.bin rfl rfl rfl) ?_
                refine J.p rfl rfl rfl rfl (Y.pickT rfl rfl) ?_
                refine J.p rfl rfl rfl rfl (Y.asg rfl) ?_
                refine J.nil ?_
                obtain rfl := Option.some.inj H
                exact N.meet (decide ((rd a0 t2) = 0), ()) ⟨HK61, trivial⟩ (by exact ⟨rfl, rfl, rfl, trivial⟩) (by exact fun w h => h)
              · refine J.as (k := 38) rfl (congrArg Value.bool (decide_eq_false c62)) ?_
                refine J.skip rfl rfl ?_
                refine J.skip rfl rfl ?_
                refine J.skip rfl rfl ?_
                refine J.skip rfl rfl ?_
                refine J.skip rfl rfl ?_
                refine J.p rfl rfl rfl rfl (Y.pickF rfl rfl) ?_
                refine J.p rfl rfl rfl rfl (Y.asg rfl) ?_
                refine J.nil ?_
                obtain rfl := Option.some.inj H
                exact N.meet (false, ()) ⟨HK61, trivial⟩ (by exact ⟨rfl, rfl, rfl, trivial⟩) (by exact fun w h => h)
            · refine C.at (s' := [(0, .slice Aa0 a0.length ca0), (5, .int .i64 t2), (35, .bool o58)]) (G' := G) rfl rfl ?_
              refine split2 H (fun c67 H => ?_) (fun c67 H => ?_)
              · refine C.condT (congrArg (fun b => some (Value.bool b)) (c67)) ?_
                refine C.rs ?_
                refine J.p rfl rfl rfl rfl (Y.asg rfl) ?_
                refine J.p rfl rfl rfl rfl (Y.asg rfl) ?_
                refine J.p rfl rfl rfl rfl (Y.asg rfl) ?_
                refine J.nx ?_
                refine C.ret ?_
                obtain rfl := Option.some.inj H
                obtain rfl := fin_inl HK26
                refine T.ib ?_
                refine T.th ?_
                exact ret_ok (ks := [2, 3, 4]) rfl rfl (fun w h => ⟨rfl, h⟩)
              · refine C.condF (congrArg (fun b => some (Value.bool b)) (nt c67)) ?_
                refine C.skip ?_
                refine N.ib ?_
                obtain rfl := Option.some.inj H
                exact N.meet ((), ()) ⟨fin_inr HK26, trivial⟩ (by exact ⟨rfl, rfl, trivial⟩) (by exact fun w h => h)
  · refine C.at (s' := [(0, .slice Aa0 a0.length ca0), (5, .int .i64 t2)]) (G' := G) rfl rfl ?_
    refine C.rs ?_
    refine J.p rfl rfl rfl rfl (Y.asg rfl) ?_
    refine J.nx ?_
    refine C.seq ?_
    refine C.rs ?_
    refine J.p rfl rfl rfl rfl (Y.mv rfl) ?_
    refine J.p rfl rfl rfl rfl (Y.mv rfl) ?_
    refine J.p rfl rfl rfl rfl (Y.bin rfl rfl rfl) ?_
    obtain ⟨p68, H⟩ := gd_some H
    refine J.p rfl rfl rfl rfl (Y.slcL Try.underlying22 ti5 rfl bnd.no (bnd.yes rfl p68.1) p68.2 ka0) ?_
    refine J.p rfl rfl rfl rfl (Y.lenS Try.underlying22 rfl) ?_
    refine J.p rfl rfl rfl rfl (Y.mv rfl) ?_
    refine J.nx ?_
    refine C.joinN H (fun (o83 : Int) (j84 : Unit) => [(5, .int .i64 t2), (6, .int .u64 o83)]) (fun (o83 : Int) (j84 : Unit) => G) (fun (o83 : Int) (j84 : Unit) => True) (fun o81 H HK82 => ?_) (fun o83 j84 H _ => ?_)
    · refine C.blk ?_
      refine C.loop (fun (i : Nat × (Int × (List Int) × Int) × ((Option Addr) × Nat)) => [(5, .int .i64 t2), (6, .int .u64 i.2.1.1), (48, .slice i.2.2.1 i.2.1.2.1.length i.2.2.2), (49, .int .i64 (((a0.take (Int.toNat (IntKind.wrap .i64 (t2 + 1)))).drop 0).length : Int)), (50, .int .i64 i.2.1.2.2)]) (fun (i : Nat × (Int × (List Int) × Int) × ((Option Addr) × Nat)) => G) (fun (i : Nat × (Int × (List Int) × Int) × ((Option Addr) × Nat)) => Decode.l1 a0 t2 i.1 i.2.1 = some o81 ∧ ((RdG B w0 G i.2.2.1 (i.2.1.2.1.map (Value.int .u8)) ∧ i.2.1.2.1.length ≤ i.2.2.2))) (fun i => i.1) (K, (0, ((a0.take (Int.toNat (IntKind.wrap .i64 (t2 + 1)))).drop 0), 0), (subA 1 Aa0 ca0 0, ca0 - 0)) ⟨H, ⟨(RdG.subL (l := 0) (h := (Int.toNat (IntKind.wrap .i64 (t2 + 1)))) ha0 ka0), (hc_sub ka0)⟩⟩ (by exact ⟨rfl, rfl, rfl, rfl, rfl, trivial⟩) (by exact fun w h => h) ?_
      rintro ⟨k104, i98, j99⟩ ⟨H, hx100⟩
      replace H : Decode.l1 a0 t2 k104 i98 = some o81 := H
      obtain ⟨k97, rfl⟩ : ∃ m, k104 = m + 1 := by cases k104 with | zero => exact absurd H (by simp [Decode.l1]) | succ m => exact ⟨m, rfl⟩
      rw [Decode.l1] at H
      refine C.at (s' := [(5, .int .i64 t2), (6, .int .u64 i98.1), (48, .slice j99.1 i98.2.1.length j99.2), (49, .int .i64 (((a0.take (Int.toNat (IntKind.wrap .i64 (t2 + 1)))).drop 0).length : Int)), (50, .int .i64 i98.2.2)]) (G' := G) rfl rfl ?_
      refine C.rs ?_
      refine J.p rfl rfl rfl rfl (Y.bin rfl rfl rfl) ?_
      refine J.nx ?_
      refine C.seq ?_
      refine split2 H (fun c101 H => ?_) (fun c101 H => ?_)
      · refine C.condT (congrArg (fun b => some (Value.bool b)) (decide_eq_true c101)) ?_
        refine C.skip ?_
        refine N.nx ?_
        refine C.seq ?_
        refine C.blk ?_
        refine C.rs ?_
        refine J.p rfl rfl rfl rfl (Y.mv rfl) ?_
        obtain ⟨p102, H⟩ := gd_some H
        refine J.el rfl rfl rfl Try.underlying22 ti5 Try.underlying5 rfl rfl rfl p102 hx100.1 ?_
        refine J.p rfl rfl rfl rfl (Y.asg rfl) ?_
        refine J.p rfl rfl rfl rfl (Y.asg rfl) ?_
        refine J.nx ?_
        refine C.reg ?_
        refine J.p rfl rfl rfl rfl (Y.mv rfl) ?_
        refine J.p rfl rfl rfl rfl (Y.mv rfl) ?_
        refine J.p rfl rfl rfl rfl (Y.bin rfl rfl rfl) ?_
        refine J.p rfl rfl rfl rfl (Y.conv Try.underlying5 Try.underlying25 rfl) ?_
        refine J.p rfl rfl rfl rfl (Y.mv rfl) ?_
        refine J.p rfl rfl rfl rfl (Y.bin rfl rfl rfl) ?_
        obtain ⟨p103, H⟩ := gd_some H
        refine J.p rfl rfl rfl rfl (Y.shl rfl rfl p103) ?_
        refine J.p rfl rfl rfl rfl (Y.bin rfl rfl rfl) ?_
        refine J.p rfl rfl rfl rfl (Y.asg rfl) ?_
        refine J.nil ?_
        refine N.ib ?_
        refine N.nx ?_
        refine C.reg ?_
        refine J.p rfl rfl rfl rfl (Y.bin rfl rfl rfl) ?_
        refine J.p rfl rfl rfl rfl (Y.mv rfl) ?_
        refine J.nil ?_
        exact N.again (k97, (Sx.bits .or .u64 i98.1 (Sx.shl .u64 (IntKind.wrap .u64 (Sx.bits .and .u8 (rd i98.2.1 i98.2.2) 127)) (IntKind.wrap .i64 (7 * i98.2.2))), i98.2.1, IntKind.wrap .i64 (i98.2.2 + 1)), (j99.1, j99.2)) ⟨H, ⟨hx100.1, hx100.2⟩⟩ (Nat.lt_succ_self _) (by exact ⟨rfl, rfl, rfl, rfl, rfl, trivial⟩) (by exact fun w h => h)
      · refine C.condF (congrArg (fun b => some (Value.bool b)) (decide_eq_false c101)) ?_
        refine C.exit ?_
        refine X.th ?_
        refine X.th ?_
        refine X.hit ?_
        obtain rfl := Option.some.inj H
        exact N.meet (i98.1, ()) ⟨HK82, trivial⟩ (by exact ⟨rfl, rfl, trivial⟩) (by exact fun w h => h)
    · refine N.at (s' := [(5, .int .i64 t2), (6, .int .u64 o83)]) (G' := G) rfl rfl ?_
      refine N.nx ?_
      refine C.rs ?_
      refine J.p rfl rfl rfl rfl (Y.mv rfl) ?_
      refine J.p rfl rfl rfl rfl (Y.mv rfl) ?_
      refine J.p rfl rfl rfl rfl (Y.bin rfl rfl rfl) ?_
      refine J.p rfl rfl rfl rfl (Y.asg rfl) ?_
      refine J.p rfl rfl rfl rfl (Y.asg rfl) ?_
      refine J.p rfl rfl rfl rfl (Y.asg rfl) ?_
      refine J.nx ?_
      refine C.ret ?_
      obtain rfl := Option.some.inj H
      exact ret_ok (ks := [2, 3, 4]) rfl rfl (fun w h => ⟨rfl, h⟩)
/-! ### salvor/vint.Digits: function 44 -/
def Digits.l1 (a1 : Int) (a0 : Int) : Nat → ((List Int) × Int) → Option ((List Int))
  | 0, _ => none
  | k + 1, i55 => if i55.2 < ((List.replicate (Int.toNat a1) (0 : Int)).length : Int) then (gd ((0 : Int) ≤ (IntKind.wrap .i64 (7 * i55.2))) (gd ((0 : Int) ≤ (IntKind.wrap .i64 ((IntKind.wrap .i64 (a1 - 1)) - i55.2)) ∧ (IntKind.wrap .i64 ((IntKind.wrap .i64 (a1 - 1)) - i55.2)) < (i55.1.length : Int)) (gd ((0 : Int) ≤ (IntKind.wrap .i64 ((IntKind.wrap .i64 (a1 - 1)) - i55.2)) ∧ (IntKind.wrap .i64 ((IntKind.wrap .i64 (a1 - 1)) - i55.2)) < (i55.1.length : Int)) (Digits.l1 a1 a0 k ((i55.1.set (Int.toNat (IntKind.wrap .i64 ((IntKind.wrap .i64 (a1 - 1)) - i55.2))) (Sx.bits .and .u8 (IntKind.wrap .u8 (Sx.shr .u64 a0 (IntKind.wrap .i64 (7 * i55.2)))) 127)), IntKind.wrap .i64 (i55.2 + 1)))))) else (some i55.1)
def Digits.f (K : Nat) (a0 : Int) (a1 : Int) : Option ((List Int) × Int) := (if a1 < 1 then (some true) else (some (decide (9 < a1)))).bind fun o2 => if o2 = true then (some (([] : List Int), 20)) else (gd ((0 : Int) ≤ (IntKind.wrap .i64 (7 * a1))) (if 0 < (Sx.shr .u64 a0 (IntKind.wrap .i64 (7 * a1))) then (some (([] : List Int), 24)) else (gd ((0 : Int) ≤ a1 ∧ (a1 : Int) ≤ a1 ∧ ((1 : Nat) : Int) * a1 ≤ 281474976710656) ((Digits.l1 a1 a0 K ((List.replicate (Int.toNat a1) (0 : Int)), 0)).bind fun o34 => some (o34, 0)))))
theorem Digits.calls {B : Nat} {w0 : World} {G : List HP} (K : Nat) (a0 : Int) (a1 : Int) (r : (List Int) × Int) (H : Digits.f K a0 a1 = some r) (w : World) (hw : St B w0 (G) w) :
    Calls Try.prog 44 [.int .u64 a0, .int .i64 a1].toArray w (fun e w' => ∃ A0 c0, e = .returned (.tuple #[.slice A0 r.1.length c0, .int .i64 r.2]) ∧ St B w0 (own 5 1 A0 c0 (r.1.map (Value.int .u8)) :: G) w') := by
  unfold Digits.f at H
  refine calls_of (n := 42) (s := [(0, .int .u64 a0), (1, .int .i64 a1)]) Try.func44 rfl rfl rfl rfl ?_ hw
  refine C.rs ?_
  refine J.p rfl rfl rfl rfl (Y.asg rfl) ?_
  refine J.p rfl rfl rfl rfl (Y.asg rfl) ?_
  refine J.nx ?_
  refine C.seq ?_
  refine C.blk ?_
  refine C.rs ?_
  refine J.joinB H (fun (o2 : Bool) (j3 : Unit) => [(0, .int .u64 a0), (1, .int .i64 a1), (8, .bool o2)]) (fun (o2 : Bool) (j3 : Unit) => G) (fun (o2 : Bool) (j3 : Unit) => True) (fun o4 H HK5 => ?_) (fun o2 j3 H _ => ?_)
  · refine J.p rfl rfl rfl rfl (Y.mv rfl) ?_
    refine J.p rfl rfl rfl rfl (Y.bin rfl rfl rfl) ?_
    refine J.p rfl rfl rfl rfl (Y.mv rfl) ?_
    refine split2 H (fun c6 H => ?_) (fun c6 H => ?_)
    · refine J.as (k := 11) rfl (congrArg Value.bool (decide_eq_true c6)) ?_
      refine J.skip rfl rfl ?_
      refine J.skip rfl rfl ?_
      refine J.p rfl rfl rfl rfl (Y.pickT rfl rfl) ?_
      refine J.p rfl rfl rfl rfl (Y.asg rfl) ?_
      refine J.nil ?_
      obtain rfl := Option.some.inj H
      exact N.meet (true, ()) ⟨HK5, trivial⟩ (by exact ⟨rfl, rfl, rfl, trivial⟩) (by exact fun w h => h)
    · refine J.as (k := 11) rfl (congrArg Value.bool (decide_eq_false c6)) ?_
      refine J.p rfl rfl rfl rfl (Y.mv rfl) ?_
      refine J.p rfl rfl rfl rfl (Y.bin rfl rfl rfl) ?_
      refine J.p rfl rfl rfl rfl (Y.pickF rfl rfl) ?_
      refine J.p rfl rfl rfl rfl (Y.asg rfl) ?_
      refine J.nil ?_
      obtain rfl := Option.some.inj H
      exact N.meet (decide (9 < a1), ()) ⟨HK5, trivial⟩ (by exact ⟨rfl, rfl, rfl, trivial⟩) (by exact fun w h => h)
  · refine C.at (s' := [(0, .int .u64 a0), (1, .int .i64 a1), (8, .bool o2)]) (G' := G) rfl rfl ?_
    refine split2 H (fun c7 H => ?_) (fun c7 H => ?_)
    · refine C.condT (congrArg (fun b => some (Value.bool b)) (c7)) ?_
      refine C.rs ?_
      refine J.p rfl rfl rfl rfl (Y.asg rfl) ?_
      refine J.p rfl rfl rfl rfl (Y.asg rfl) ?_
      refine J.nx ?_
      refine C.ret ?_
      obtain rfl := Option.some.inj H
      refine T.ib ?_
      refine T.th ?_
      exact ret_ok (ks := [4, 5]) rfl rfl (fun w h => ⟨none, 0, rfl, (h.nilOwn 5 1)⟩)
    · refine C.condF (congrArg (fun b => some (Value.bool b)) (nt c7)) ?_
      refine C.rs ?_
      refine J.p rfl rfl rfl rfl (Y.mv rfl) ?_
      refine J.p rfl rfl rfl rfl (Y.mv rfl) ?_
      refine J.p rfl rfl rfl rfl (Y.bin rfl rfl rfl) ?_
      obtain ⟨p9, H⟩ := gd_some H
      refine J.p rfl rfl rfl rfl (Y.shr rfl rfl p9) ?_
      refine J.p rfl rfl rfl rfl (Y.bin rfl rfl rfl) ?_
      refine J.p rfl rfl rfl rfl (Y.asg rfl) ?_
      refine J.nx ?_
      refine split2 H (fun c10 H => ?_) (fun c10 H => ?_)
      · refine C.condT (congrArg (fun b => some (Value.bool b)) (decide_eq_true c10)) ?_
        refine C.rs ?_
        refine J.p rfl rfl rfl rfl (Y.asg rfl) ?_
        refine J.p rfl rfl rfl rfl (Y.asg rfl) ?_
        refine J.nx ?_
        refine C.ret ?_
        obtain rfl := Option.some.inj H
        refine T.ib ?_
        refine T.th ?_
        exact ret_ok (ks := [4, 5]) rfl rfl (fun w h => ⟨none, 0, rfl, (h.nilOwn 5 1)⟩)
      · refine C.condF (congrArg (fun b => some (Value.bool b)) (decide_eq_false c10)) ?_
        refine C.skip ?_
        refine N.ib ?_
        refine N.nx ?_
        refine C.rs ?_
        refine J.p rfl rfl rfl rfl (Y.mv rfl) ?_
        obtain ⟨p13, H⟩ := gd_some H
        refine J.mkL (enc := (Value.int .u8)) (z := 0) rfl Try.underlying22 ti5 rfl rfl rfl p13 (by decide) (fun A12 => ?_)
        refine J.p rfl rfl rfl rfl (Y.asg rfl) ?_
        refine J.nx ?_
        refine C.seq ?_
        refine C.rs ?_
        refine J.p rfl rfl rfl rfl (Y.mv rfl) ?_
        refine J.p rfl rfl rfl rfl (Y.lenS Try.underlying22 rfl) ?_
        refine J.p rfl rfl rfl rfl (Y.mv rfl) ?_
        refine J.nx ?_
        refine C.joinN H (fun (o34 : (List Int)) (j35 : (Option Addr) × Nat) => [(6, .slice j35.1 o34.length j35.2)]) (fun (o34 : (List Int)) (j35 : (Option Addr) × Nat) => own 5 1 j35.1 j35.2 (o34.map (Value.int .u8)) :: G) (fun (o34 : (List Int)) (j35 : (Option Addr) × Nat) => True) (fun o32 H HK33 => ?_) (fun o34 j35 H _ => ?_)
        · refine C.blk ?_
          refine C.loop (fun (i : Nat × ((List Int) × Int) × ((Option Addr) × Nat)) => [(0, .int .u64 a0), (1, .int .i64 a1), (6, .slice i.2.2.1 i.2.1.1.length i.2.2.2), (24, .int .i64 ((List.replicate (Int.toNat a1) (0 : Int)).length : Int)), (25, .int .i64 i.2.1.2)]) (fun (i : Nat × ((List Int) × Int) × ((Option Addr) × Nat)) => own 5 1 i.2.2.1 i.2.2.2 (i.2.1.1.map (Value.int .u8)) :: G) (fun (i : Nat × ((List Int) × Int) × ((Option Addr) × Nat)) => Digits.l1 a1 a0 i.1 i.2.1 = some o32 ∧ (True)) (fun i => i.1) (K, ((List.replicate (Int.toNat a1) (0 : Int)), 0), (A12, (Int.toNat a1))) ⟨H, trivial⟩ (by exact ⟨rfl, rfl, rfl, rfl, rfl, trivial⟩) (by exact fun w h => h) ?_
          rintro ⟨k64, i55, j56⟩ ⟨H, _⟩
          replace H : Digits.l1 a1 a0 k64 i55 = some o32 := H
          obtain ⟨k54, rfl⟩ : ∃ m, k64 = m + 1 := by cases k64 with | zero => exact absurd H (by simp [Digits.l1]) | succ m => exact ⟨m, rfl⟩
          rw [Digits.l1] at H
          refine C.at (s' := [(0, .int .u64 a0), (1, .int .i64 a1), (6, .slice j56.1 i55.1.length j56.2), (24, .int .i64 ((List.replicate (Int.toNat a1) (0 : Int)).length : Int)), (25, .int .i64 i55.2)]) (G' := own 5 1 j56.1 j56.2 (i55.1.map (Value.int .u8)) :: G) rfl rfl ?_
          refine C.rs ?_
          refine J.p rfl rfl rfl rfl (Y.bin rfl rfl rfl) ?_
          refine J.nx ?_
          refine C.seq ?_
          refine split2 H (fun c58 H => ?_) (fun c58 H => ?_)
          · refine C.condT (congrArg (fun b => some (Value.bool b)) (decide_eq_true c58)) ?_
            refine C.skip ?_
            refine N.nx ?_
            refine C.seq ?_
            refine C.blk ?_
            refine C.rs ?_
            refine J.p rfl rfl rfl rfl (Y.mv rfl) ?_
            refine J.p rfl rfl rfl rfl (Y.asg rfl) ?_
            refine J.nx ?_
            refine C.reg ?_
            refine J.p rfl rfl rfl rfl (Y.mv rfl) ?_
            refine J.p rfl rfl rfl rfl (Y.mv rfl) ?_
            refine J.p rfl rfl rfl rfl (Y.bin rfl rfl rfl) ?_
            refine J.p rfl rfl rfl rfl (Y.mv rfl) ?_
            refine J.p rfl rfl rfl rfl (Y.bin rfl rfl rfl) ?_
            refine J.p rfl rfl rfl rfl (Y.mv rfl) ?_
            refine J.p rfl rfl rfl rfl (Y.mv rfl) ?_
            refine J.p rfl rfl rfl rfl (Y.bin rfl rfl rfl) ?_
            obtain ⟨p59, H⟩ := gd_some H
            refine J.p rfl rfl rfl rfl (Y.shr rfl rfl p59) ?_
            refine J.p rfl rfl rfl rfl (Y.conv Try.underlying25 Try.underlying5 rfl) ?_
            refine J.p rfl rfl rfl rfl (Y.bin rfl rfl rfl) ?_
            obtain ⟨p62, H⟩ := gd_some H
            refine J.know ((RdG.own 0 rfl).some_ (j := Int.toNat (IntKind.wrap .i64 ((IntKind.wrap .i64 (a1 - 1)) - i55.2))) (by rw [List.length_map]; exact idx_lt p62)) (fun hh => ?_)
            obtain ⟨a60, ha61⟩ := hh
            refine J.p rfl rfl rfl rfl (Y.ixa Try.underlying22 ti5 rfl rfl p62 ha61) ?_
            obtain ⟨p63, H⟩ := gd_some H
            refine J.stoL (enc := (Value.int .u8)) ti5 ha61 rfl rfl rfl p63 ?_
            refine J.as (k := 6) rfl (set_len i55.1 (Int.toNat (IntKind.wrap .i64 ((IntKind.wrap .i64 (a1 - 1)) - i55.2))) (Sx.bits .and .u8 (IntKind.wrap .u8 (Sx.shr .u64 a0 (IntKind.wrap .i64 (7 * i55.2)))) 127)) ?_
            refine J.nil ?_
            refine N.ib ?_
            refine N.nx ?_
            refine C.reg ?_
            refine J.p rfl rfl rfl rfl (Y.bin rfl rfl rfl) ?_
            refine J.p rfl rfl rfl rfl (Y.mv rfl) ?_
            refine J.nil ?_
            exact N.again (k54, ((i55.1.set (Int.toNat (IntKind.wrap .i64 ((IntKind.wrap .i64 (a1 - 1)) - i55.2))) (Sx.bits .and .u8 (IntKind.wrap .u8 (Sx.shr .u64 a0 (IntKind.wrap .i64 (7 * i55.2)))) 127)), IntKind.wrap .i64 (i55.2 + 1)), (j56.1, j56.2)) ⟨H, trivial⟩ (Nat.lt_succ_self _) (by exact ⟨rfl, rfl, rfl, rfl, rfl, trivial⟩) (by exact fun w h => h)
          · refine C.condF (congrArg (fun b => some (Value.bool b)) (decide_eq_false c58)) ?_
            refine C.exit ?_
            refine X.th ?_
            refine X.th ?_
            refine X.hit ?_
            obtain rfl := Option.some.inj H
            exact N.meet (i55.1, (j56.1, j56.2)) ⟨HK33, trivial⟩ (by exact ⟨rfl, trivial⟩) (by exact fun w h => h)
        · refine N.at (s' := [(6, .slice j35.1 o34.length j35.2)]) (G' := own 5 1 j35.1 j35.2 (o34.map (Value.int .u8)) :: G) rfl rfl ?_
          refine N.nx ?_
          refine C.rs ?_
          refine J.p rfl rfl rfl rfl (Y.mv rfl) ?_
          refine J.p rfl rfl rfl rfl (Y.asg rfl) ?_
          refine J.p rfl rfl rfl rfl (Y.asg rfl) ?_
          refine J.nx ?_
          refine C.ret ?_
          obtain rfl := Option.some.inj H
          exact ret_ok (ks := [4, 5]) rfl rfl (fun w h => ⟨j35.1, j35.2, rfl, h⟩)
/-! ### salvor/vint.Number: function 32 -/
def Number.l1 (a0 : List Int) (a1 : Int) : Nat → (Int × (List Int) × Int) → Option ((Int × Int) ⊕ (Int))
  | 0, _ => none
  | k + 1, i40 => if i40.2.2 < (((a0.take (Int.toNat a1)).drop 0).length : Int) then (gd ((0 : Int) ≤ i40.2.2 ∧ i40.2.2 < (i40.2.1.length : Int)) (if 127 < (rd i40.2.1 i40.2.2) then (some (.inl ((0, 24)))) else (Number.l1 a0 a1 k (Sx.bits .or .u64 (Sx.shl .u64 i40.1 7) (IntKind.wrap .u64 (rd i40.2.1 i40.2.2)), i40.2.1, IntKind.wrap .i64 (i40.2.2 + 1))))) else (some (.inr i40.1))
def Number.f (K : Nat) (a0 : List Int) (a1 : Int) : Option (Int × Int) := (if a1 < 1 then (some true) else (some (decide (9 < a1)))).bind fun o2 => if o2 = true then (some (0, 20)) else (if (a0.length : Int) < a1 then (some (0, 21)) else (gd ((0 : Int) ≤ a1 ∧ (0 ≤ (Int.toNat a1) ∧ (Int.toNat a1) ≤ a0.length)) (thn (Number.l1 a0 a1 K (0, ((a0.take (Int.toNat a1)).drop 0), 0)) fun o25 => some (o25, 0))))
theorem Number.calls {B : Nat} {w0 : World} {G : List HP} (K : Nat) (a0 : List Int) (a1 : Int) (Aa0 : Option Addr) (ca0 : Nat) (ha0 : RdG B w0 G Aa0 (a0.map (Value.int .u8))) (ka0 : a0.length ≤ ca0) (r : Int × Int) (H : Number.f K a0 a1 = some r) (w : World) (hw : St B w0 (G) w) :
    Calls Try.prog 32 [.slice Aa0 a0.length ca0, .int .i64 a1].toArray w (fun e w' => e = .returned (.tuple #[.int .u64 r.1, .int .i64 r.2]) ∧ St B w0 (G) w') := by
  unfold Number.f at H
  refine calls_of (n := 38) (s := [(0, .slice Aa0 a0.length ca0), (1, .int .i64 a1)]) Try.func32 rfl rfl rfl rfl ?_ hw
  refine C.rs ?_
  refine J.p rfl rfl rfl rfl (Y.asg rfl) ?_
  refine J.p rfl rfl rfl rfl (Y.asg rfl) ?_
  refine J.nx ?_
  refine C.seq ?_
  refine C.blk ?_
  refine C.rs ?_
  refine J.joinB H (fun (o2 : Bool) (j3 : Unit) => [(0, .slice Aa0 a0.length ca0), (1, .int .i64 a1), (9, .bool o2)]) (fun (o2 : Bool) (j3 : Unit) => G) (fun (o2 : Bool) (j3 : Unit) => True) (fun o4 H HK5 => ?_) (fun o2 j3 H _ => ?_)
  · refine J.p rfl rfl rfl rfl (Y.mv rfl) ?_
    refine J.p rfl rfl rfl rfl (Y.bin rfl rfl rfl) ?_
    refine J.p rfl rfl rfl rfl (Y.mv rfl) ?_
    refine split2 H (fun c6 H => ?_) (fun c6 H => ?_)
    · refine J.as (k := 12) rfl (congrArg Value.bool (decide_eq_true c6)) ?_
      refine J.skip rfl rfl ?_
      refine J.skip rfl rfl ?_
      refine J.p rfl rfl rfl rfl (Y.pickT rfl rfl) ?_
      refine J.p rfl rfl rfl rfl (Y.asg rfl) ?_
      refine J.nil ?_
      obtain rfl := Option.some.inj H
      exact N.meet (true, ()) ⟨HK5, trivial⟩ (by exact ⟨rfl, rfl, rfl, trivial⟩) (by exact fun w h => h)
    · refine J.as (k := 12) rfl (congrArg Value.bool (decide_eq_false c6)) ?_
      refine J.p rfl rfl rfl rfl (Y.mv rfl) ?_
      refine J.p rfl rfl rfl rfl (Y.bin rfl rfl rfl) ?_
      refine J.p rfl rfl rfl rfl (Y.pickF rfl rfl) ?_
      refine J.p rfl rfl rfl rfl (Y.asg rfl) ?_
      refine J.nil ?_
      obtain rfl := Option.some.inj H
      exact N.meet (decide (9 < a1), ()) ⟨HK5, trivial⟩ (by exact ⟨rfl, rfl, rfl, trivial⟩) (by exact fun w h => h)
  · refine C.at (s' := [(0, .slice Aa0 a0.length ca0), (1, .int .i64 a1), (9, .bool o2)]) (G' := G) rfl rfl ?_
    refine split2 H (fun c7 H => ?_) (fun c7 H => ?_)
    · refine C.condT (congrArg (fun b => some (Value.bool b)) (c7)) ?_
      refine C.rs ?_
      refine J.p rfl rfl rfl rfl (Y.asg rfl) ?_
      refine J.p rfl rfl rfl rfl (Y.asg rfl) ?_
      refine J.nx ?_
      refine C.ret ?_
      obtain rfl := Option.some.inj H
      refine T.ib ?_
      refine T.th ?_
      exact ret_ok (ks := [4, 5]) rfl rfl (fun w h => ⟨rfl, h⟩)
    · refine C.condF (congrArg (fun b => some (Value.bool b)) (nt c7)) ?_
      refine C.rs ?_
      refine J.p rfl rfl rfl rfl (Y.mv rfl) ?_
      refine J.p rfl rfl rfl rfl (Y.lenS Try.underlying22 rfl) ?_
      refine J.p rfl rfl rfl rfl (Y.mv rfl) ?_
      refine J.p rfl rfl rfl rfl (Y.bin rfl rfl rfl) ?_
      refine J.p rfl rfl rfl rfl (Y.asg rfl) ?_
      refine J.nx ?_
      refine split2 H (fun c8 H => ?_) (fun c8 H => ?_)
      · refine C.condT (congrArg (fun b => some (Value.bool b)) (decide_eq_true c8)) ?_
        refine C.rs ?_
        refine J.p rfl rfl rfl rfl (Y.asg rfl) ?_
        refine J.p rfl rfl rfl rfl (Y.asg rfl) ?_
        refine J.nx ?_
        refine C.ret ?_
        obtain rfl := Option.some.inj H
        refine T.ib ?_
        refine T.th ?_
        exact ret_ok (ks := [4, 5]) rfl rfl (fun w h => ⟨rfl, h⟩)
      · refine C.condF (congrArg (fun b => some (Value.bool b)) (decide_eq_false c8)) ?_
        refine C.skip ?_
        refine N.ib ?_
        refine N.nx ?_
        refine C.rs ?_
        refine J.p rfl rfl rfl rfl (Y.asg rfl) ?_
        refine J.nx ?_
        refine C.seq ?_
        refine C.rs ?_
        refine J.p rfl rfl rfl rfl (Y.mv rfl) ?_
        refine J.p rfl rfl rfl rfl (Y.mv rfl) ?_
        obtain ⟨p9, H⟩ := gd_some H
        refine J.p rfl rfl rfl rfl (Y.slcL Try.underlying22 ti5 rfl bnd.no (bnd.yes rfl p9.1) p9.2 ka0) ?_
        refine J.p rfl rfl rfl rfl (Y.lenS Try.underlying22 rfl) ?_
        refine J.p rfl rfl rfl rfl (Y.mv rfl) ?_
        refine J.nx ?_
        refine C.joinNR H (fun (o25 : Int) (j26 : Unit) => [(6, .int .u64 o25)]) (fun (o25 : Int) (j26 : Unit) => G) (fun (o25 : Int) (j26 : Unit) => True) (fun o23 H HK24 => ?_) (fun o25 j26 H _ => ?_)
        · refine C.blk ?_
          refine C.loop (fun (i : Nat × (Int × (List Int) × Int) × ((Option Addr) × Nat)) => [(6, .int .u64 i.2.1.1), (23, .slice i.2.2.1 i.2.1.2.1.length i.2.2.2), (24, .int .i64 (((a0.take (Int.toNat a1)).drop 0).length : Int)), (25, .int .i64 i.2.1.2.2)]) (fun (i : Nat × (Int × (List Int) × Int) × ((Option Addr) × Nat)) => G) (fun (i : Nat × (Int × (List Int) × Int) × ((Option Addr) × Nat)) => Number.l1 a0 a1 i.1 i.2.1 = some o23 ∧ ((RdG B w0 G i.2.2.1 (i.2.1.2.1.map (Value.int .u8)) ∧ i.2.1.2.1.length ≤ i.2.2.2))) (fun i => i.1) (K, (0, ((a0.take (Int.toNat a1)).drop 0), 0), (subA 1 Aa0 ca0 0, ca0 - 0)) ⟨H, ⟨(RdG.subL (l := 0) (h := (Int.toNat a1)) ha0 ka0), (hc_sub ka0)⟩⟩ (by exact ⟨rfl, rfl, rfl, rfl, trivial⟩) (by exact fun w h => h) ?_
          rintro ⟨k46, i40, j41⟩ ⟨H, hx42⟩
          replace H : Number.l1 a0 a1 k46 i40 = some o23 := H
          obtain ⟨k39, rfl⟩ : ∃ m, k46 = m + 1 := by cases k46 with | zero => exact absurd H (by simp [Number.l1]) | succ m => exact ⟨m, rfl⟩
          rw [Number.l1] at H
          refine C.at (s' := [(6, .int .u64 i40.1), (23, .slice j41.1 i40.2.1.length j41.2), (24, .int .i64 (((a0.take (Int.toNat a1)).drop 0).length : Int)), (25, .int .i64 i40.2.2)]) (G' := G) rfl rfl ?_
          refine C.rs ?_
          refine J.p rfl rfl rfl rfl (Y.bin rfl rfl rfl) ?_
          refine J.nx ?_
          refine C.seq ?_
          refine split2 H (fun c43 H => ?_) (fun c43 H => ?_)
          · refine C.condT (congrArg (fun b => some (Value.bool b)) (decide_eq_true c43)) ?_
            refine C.skip ?_
            refine N.nx ?_
            refine C.seq ?_
            refine C.blk ?_
            refine C.rs ?_
            obtain ⟨p44, H⟩ := gd_some H
            refine J.el rfl rfl rfl Try.underlying22 ti5 Try.underlying5 rfl rfl rfl p44 hx42.1 ?_
            refine J.p rfl rfl rfl rfl (Y.asg rfl) ?_
            refine J.nx ?_
            refine C.seq ?_
            refine C.rs ?_
            refine J.p rfl rfl rfl rfl (Y.mv rfl) ?_
            refine J.p rfl rfl rfl rfl (Y.bin rfl rfl rfl) ?_
            refine J.nx ?_
            refine split2 H (fun c45 H => ?_) (fun c45 H => ?_)
            · refine C.condT (congrArg (fun b => some (Value.bool b)) (decide_eq_true c45)) ?_
              refine C.rs ?_
              refine J.p rfl rfl rfl rfl (Y.asg rfl) ?_
              refine J.p rfl rfl rfl rfl (Y.asg rfl) ?_
              refine J.nx ?_
              refine C.ret ?_
              obtain rfl := Option.some.inj H
              obtain rfl := fin_inl HK24
              refine T.th ?_
              refine T.ib ?_
              refine T.th ?_
              refine T.th ?_
              refine T.ib ?_
              refine T.th ?_
              refine T.th ?_
              exact ret_ok (ks := [4, 5]) rfl rfl (fun w h => ⟨rfl, h⟩)
            · refine C.condF (congrArg (fun b => some (Value.bool b)) (decide_eq_false c45)) ?_
              refine C.skip ?_
              refine N.nx ?_
              refine C.reg ?_
              refine J.p rfl rfl rfl rfl (Y.mv rfl) ?_
              refine J.p rfl rfl rfl rfl (Y.shl rfl rfl (by decide)) ?_
              refine J.p rfl rfl rfl rfl (Y.mv rfl) ?_
              refine J.p rfl rfl rfl rfl (Y.conv Try.underlying5 Try.underlying25 rfl) ?_
              refine J.p rfl rfl rfl rfl (Y.bin rfl rfl rfl) ?_
              refine J.p rfl rfl rfl rfl (Y.asg rfl) ?_
              refine J.nil ?_
              refine N.ib ?_
              refine N.nx ?_
              refine C.reg ?_
              refine J.p rfl rfl rfl rfl (Y.bin rfl rfl rfl) ?_
              refine J.p rfl rfl rfl rfl (Y.mv rfl) ?_
              refine J.nil ?_
              exact N.again (k39, (Sx.bits .or .u64 (Sx.shl .u64 i40.1 7) (IntKind.wrap .u64 (rd i40.2.1 i40.2.2)), i40.2.1, IntKind.wrap .i64 (i40.2.2 + 1)), (j41.1, j41.2)) ⟨H, ⟨hx42.1, hx42.2⟩⟩ (Nat.lt_succ_self _) (by exact ⟨rfl, rfl, rfl, rfl, trivial⟩) (by exact fun w h => h)
          · refine C.condF (congrArg (fun b => some (Value.bool b)) (decide_eq_false c43)) ?_
            refine C.exit ?_
            refine X.th ?_
            refine X.th ?_
            refine X.hit ?_
            obtain rfl := Option.some.inj H
            exact N.meet (i40.1, ()) ⟨fin_inr HK24, trivial⟩ (by exact ⟨rfl, trivial⟩) (by exact fun w h => h)
        · refine N.at (s' := [(6, .int .u64 o25)]) (G' := G) rfl rfl ?_
          refine N.nx ?_
          refine C.rs ?_
          refine J.p rfl rfl rfl rfl (Y.mv rfl) ?_
          refine J.p rfl rfl rfl rfl (Y.asg rfl) ?_
          refine J.p rfl rfl rfl rfl (Y.asg rfl) ?_
          refine J.nx ?_
          refine C.ret ?_
          obtain rfl := Option.some.inj H
          exact ret_ok (ks := [4, 5]) rfl rfl (fun w h => ⟨rfl, h⟩)
/-! ### salvor/vint.Encode: function 47 -/
def Encode.l2 : Nat → ((List Int) × Int) → Option ((List Int) × Int)
  | 0, _ => none
  | k + 1, i189 => if 127 < i189.2 then (gd ((i189.1.length + [Sx.bits .or .u8 (IntKind.wrap .u8 i189.2) 128].length) * 1 ≤ 140737488355328) (Encode.l2 k ((i189.1 ++ [Sx.bits .or .u8 (IntKind.wrap .u8 i189.2) 128]), Sx.shr .u64 i189.2 7))) else (some (i189.1, i189.2))
def Encode.l1 (K : Nat) (a0 : List Int) : Nat → ((List Int) × Int) → Option ((List Int))
  | 0, _ => none
  | k + 1, i139 => if i139.2 < (a0.length : Int) then (gd ((0 : Int) ≤ i139.2 ∧ i139.2 < (a0.length : Int)) ((Encode.l2 K (i139.1, rd a0 i139.2)).bind fun o166 => gd ((o166.1.length + [IntKind.wrap .u8 o166.2].length) * 1 ≤ 140737488355328) (Encode.l1 K a0 k ((o166.1 ++ [IntKind.wrap .u8 o166.2]), IntKind.wrap .i64 (i139.2 + 1))))) else (some i139.1)
def Encode.f (K : Nat) (a0 : List Int) : Option ((List Int)) := (Encode.l1 K a0 K (([] : List Int), 0)).bind fun o69 => some o69
theorem Encode.calls {B : Nat} {w0 : World} {G : List HP} (K : Nat) (a0 : List Int) (Aa0 : Option Addr) (ca0 : Nat) (ha0 : RdG B w0 G Aa0 (a0.map (Value.int .u64))) (ka0 : a0.length ≤ ca0) (r : (List Int)) (H : Encode.f K a0 = some r) (w : World) (hw : St B w0 (G) w) :
    Calls Try.prog 47 [.slice Aa0 a0.length ca0].toArray w (fun e w' => ∃ A0 c0, e = .returned (.slice A0 r.length c0) ∧ St B w0 (own 5 1 A0 c0 (r.map (Value.int .u8)) :: G) w') := by
  unfold Encode.f at H
  refine calls_of (n := 29) (s := [(0, .slice Aa0 a0.length ca0)]) Try.func47 rfl rfl rfl rfl ?_ hw
  refine C.rs ?_
  refine J.p rfl rfl rfl rfl (Y.asg rfl) ?_
  refine J.nx ?_
  refine C.rs ?_
  refine J.p rfl rfl rfl rfl (Y.asg rfl) ?_
  refine J.nx ?_
  refine C.seq ?_
  refine C.rs ?_
  refine J.p rfl rfl rfl rfl (Y.mv rfl) ?_
  refine J.p rfl rfl rfl rfl (Y.lenS Try.underlying114 rfl) ?_
  refine J.p rfl rfl rfl rfl (Y.mv rfl) ?_
  refine J.nx ?_
  refine C.joinN H (fun (o69 : (List Int)) (j70 : (Option Addr) × Nat) => [(3, .slice j70.1 o69.length j70.2)]) (fun (o69 : (List Int)) (j70 : (Option Addr) × Nat) => own 5 1 j70.1 j70.2 (o69.map (Value.int .u8)) :: G) (fun (o69 : (List Int)) (j70 : (Option Addr) × Nat) => True) (fun o67 H HK68 => ?_) (fun o69 j70 H _ => ?_)
  · refine C.blk ?_
    refine C.loop (fun (i : Nat × ((List Int) × Int) × ((Option Addr) × Nat)) => [(3, .slice i.2.2.1 i.2.1.1.length i.2.2.2), (6, .slice Aa0 a0.length ca0), (7, .int .i64 (a0.length : Int)), (8, .int .i64 i.2.1.2)]) (fun (i : Nat × ((List Int) × Int) × ((Option Addr) × Nat)) => own 5 1 i.2.2.1 i.2.2.2 (i.2.1.1.map (Value.int .u8)) :: G) (fun (i : Nat × ((List Int) × Int) × ((Option Addr) × Nat)) => Encode.l1 K a0 i.1 i.2.1 = some o67 ∧ (True)) (fun i => i.1) (K, (([] : List Int), 0), (none, 0)) ⟨H, trivial⟩ (by exact ⟨rfl, rfl, rfl, rfl, trivial⟩) (by exact fun w h => (h.nilOwn 5 1)) ?_
    rintro ⟨k206, i139, j140⟩ ⟨H, _⟩
    replace H : Encode.l1 K a0 k206 i139 = some o67 := H
    obtain ⟨k138, rfl⟩ : ∃ m, k206 = m + 1 := by cases k206 with | zero => exact absurd H (by simp [Encode.l1]) | succ m => exact ⟨m, rfl⟩
    rw [Encode.l1] at H
    refine C.at (s' := [(3, .slice j140.1 i139.1.length j140.2), (6, .slice Aa0 a0.length ca0), (7, .int .i64 (a0.length : Int)), (8, .int .i64 i139.2)]) (G' := own 5 1 j140.1 j140.2 (i139.1.map (Value.int .u8)) :: G) rfl rfl ?_
    refine C.rs ?_
    refine J.p rfl rfl rfl rfl (Y.bin rfl rfl rfl) ?_
    refine J.nx ?_
    refine C.seq ?_
    refine split2 H (fun c143 H => ?_) (fun c143 H => ?_)
    · refine C.condT (congrArg (fun b => some (Value.bool b)) (decide_eq_true c143)) ?_
      refine C.skip ?_
      refine N.nx ?_
      refine C.seq ?_
      refine C.blk ?_
      refine C.rs ?_
      obtain ⟨p144, H⟩ := gd_some H
      refine J.el rfl rfl rfl Try.underlying114 ti25 Try.underlying25 rfl rfl rfl p144 (ha0.suf [_] rfl) ?_
      refine J.p rfl rfl rfl rfl (Y.asg rfl) ?_
      refine J.nx ?_
      refine C.joinB H (fun (o166 : (List Int) × Int) (j167 : (Option Addr) × Nat) => [(3, .slice j167.1 o166.1.length j167.2), (5, .int .u64 o166.2), (6, .slice Aa0 a0.length ca0), (7, .int .i64 (a0.length : Int)), (8, .int .i64 i139.2)]) (fun (o166 : (List Int) × Int) (j167 : (Option Addr) × Nat) => own 5 1 j167.1 j167.2 (o166.1.map (Value.int .u8)) :: G) (fun (o166 : (List Int) × Int) (j167 : (Option Addr) × Nat) => True) (fun o164 H HK165 => ?_) (fun o166 j167 H _ => ?_)
      · refine C.blk ?_
        refine C.loop (fun (i : Nat × ((List Int) × Int) × ((Option Addr) × Nat)) => [(3, .slice i.2.2.1 i.2.1.1.length i.2.2.2), (5, .int .u64 i.2.1.2), (6, .slice Aa0 a0.length ca0), (7, .int .i64 (a0.length : Int)), (8, .int .i64 i139.2)]) (fun (i : Nat × ((List Int) × Int) × ((Option Addr) × Nat)) => own 5 1 i.2.2.1 i.2.2.2 (i.2.1.1.map (Value.int .u8)) :: G) (fun (i : Nat × ((List Int) × Int) × ((Option Addr) × Nat)) => Encode.l2 i.1 i.2.1 = some o164 ∧ (True)) (fun i => i.1) (K, (i139.1, rd a0 i139.2), (j140.1, j140.2)) ⟨H, trivial⟩ (by exact ⟨rfl, rfl, rfl, rfl, rfl, trivial⟩) (by exact fun w h => h) ?_
        rintro ⟨k199, i189, j190⟩ ⟨H, _⟩
        replace H : Encode.l2 k199 i189 = some o164 := H
        obtain ⟨k188, rfl⟩ : ∃ m, k199 = m + 1 := by cases k199 with | zero => exact absurd H (by simp [Encode.l2]) | succ m => exact ⟨m, rfl⟩
        rw [Encode.l2] at H
        refine C.at (s' := [(3, .slice j190.1 i189.1.length j190.2), (5, .int .u64 i189.2), (6, .slice Aa0 a0.length ca0), (7, .int .i64 (a0.length : Int)), (8, .int .i64 i139.2)]) (G' := own 5 1 j190.1 j190.2 (i189.1.map (Value.int .u8)) :: G) rfl rfl ?_
        refine C.seq ?_
        refine C.rs ?_
        refine J.p rfl rfl rfl rfl (Y.mv rfl) ?_
        refine J.p rfl rfl rfl rfl (Y.bin rfl rfl rfl) ?_
        refine J.nx ?_
        refine split2 H (fun c192 H => ?_) (fun c192 H => ?_)
        · refine C.condT (congrArg (fun b => some (Value.bool b)) (decide_eq_true c192)) ?_
          refine C.skip ?_
          refine N.nx ?_
          refine C.seq ?_
          refine C.blk ?_
          refine C.reg ?_
          refine J.p rfl rfl rfl rfl (Y.mv rfl) ?_
          refine J.p rfl rfl rfl rfl (Y.mv rfl) ?_
          refine J.p rfl rfl rfl rfl (Y.conv Try.underlying25 Try.underlying5 rfl) ?_
          refine J.p rfl rfl rfl rfl (Y.bin rfl rfl rfl) ?_
          refine J.bsL (enc := (Value.int .u8)) (xs := [Sx.bits .or .u8 (IntKind.wrap .u8 i189.2) 128]) rfl Try.underlying22 ti5 rfl rfl rfl rfl rfl (fun A193 => ?_)
          refine J.pull 1 rfl rfl ?_
          obtain ⟨p197, H⟩ := gd_some H
          refine J.appL (enc := (Value.int .u8)) (xs := i189.1) (ys := [Sx.bits .or .u8 (IntKind.wrap .u8 i189.2) 128]) rfl Try.underlying22 ti5 rfl (by decide) rfl rfl (fun _ => rfl) (RdG.own 1 rfl) p197 (fun A195 c196 => ?_)
          refine J.pull 1 rfl rfl (J.drop ?_)
          refine J.p rfl rfl rfl rfl (Y.asg rfl) ?_
          refine J.nil ?_
          refine N.ib ?_
          refine N.nx ?_
          refine C.reg ?_
          refine J.p rfl rfl rfl rfl (Y.mv rfl) ?_
          refine J.p rfl rfl rfl rfl (Y.shr rfl rfl (by decide)) ?_
          refine J.p rfl rfl rfl rfl (Y.asg rfl) ?_
          refine J.nil ?_
          exact N.again (k188, ((i189.1 ++ [Sx.bits .or .u8 (IntKind.wrap .u8 i189.2) 128]), Sx.shr .u64 i189.2 7), (A195, c196)) ⟨H, trivial⟩ (Nat.lt_succ_self _) (by exact ⟨rfl, rfl, rfl, rfl, rfl, trivial⟩) (by exact fun w h => h)
        · refine C.condF (congrArg (fun b => some (Value.bool b)) (decide_eq_false c192)) ?_
          refine C.exit ?_
          refine X.th ?_
          refine X.th ?_
          refine X.hit ?_
          obtain rfl := Option.some.inj H
          exact N.meet ((i189.1, i189.2), (j190.1, j190.2)) ⟨HK165, trivial⟩ (by exact ⟨rfl, rfl, rfl, rfl, rfl, trivial⟩) (by exact fun w h => h)
      · refine C.at (s' := [(3, .slice j167.1 o166.1.length j167.2), (5, .int .u64 o166.2), (6, .slice Aa0 a0.length ca0), (7, .int .i64 (a0.length : Int)), (8, .int .i64 i139.2)]) (G' := own 5 1 j167.1 j167.2 (o166.1.map (Value.int .u8)) :: G) rfl rfl ?_
        refine C.reg ?_
        refine J.p rfl rfl rfl rfl (Y.mv rfl) ?_
        refine J.p rfl rfl rfl rfl (Y.mv rfl) ?_
        refine J.p rfl rfl rfl rfl (Y.conv Try.underlying25 Try.underlying5 rfl) ?_
        refine J.bsL (enc := (Value.int .u8)) (xs := [IntKind.wrap .u8 o166.2]) rfl Try.underlying22 ti5 rfl rfl rfl rfl rfl (fun A200 => ?_)
        refine J.pull 1 rfl rfl ?_
        obtain ⟨p204, H⟩ := gd_some H
        refine J.appL (enc := (Value.int .u8)) (xs := o166.1) (ys := [IntKind.wrap .u8 o166.2]) rfl Try.underlying22 ti5 rfl (by decide) rfl rfl (fun _ => rfl) (RdG.own 1 rfl) p204 (fun A202 c203 => ?_)
        refine J.pull 1 rfl rfl (J.drop ?_)
        refine J.p rfl rfl rfl rfl (Y.asg rfl) ?_
        refine J.nil ?_
        refine N.ib ?_
        refine N.nx ?_
        refine C.reg ?_
        refine J.p rfl rfl rfl rfl (Y.bin rfl rfl rfl) ?_
        refine J.p rfl rfl rfl rfl (Y.mv rfl) ?_
        refine J.nil ?_
        exact N.again (k138, ((o166.1 ++ [IntKind.wrap .u8 o166.2]), IntKind.wrap .i64 (i139.2 + 1)), (A202, c203)) ⟨H, trivial⟩ (Nat.lt_succ_self _) (by exact ⟨rfl, rfl, rfl, rfl, trivial⟩) (by exact fun w h => h)
    · refine C.condF (congrArg (fun b => some (Value.bool b)) (decide_eq_false c143)) ?_
      refine C.exit ?_
      refine X.th ?_
      refine X.th ?_
      refine X.hit ?_
      obtain rfl := Option.some.inj H
      exact N.meet (i139.1, (j140.1, j140.2)) ⟨HK68, trivial⟩ (by exact ⟨rfl, trivial⟩) (by exact fun w h => h)
  · refine N.at (s' := [(3, .slice j70.1 o69.length j70.2)]) (G' := own 5 1 j70.1 j70.2 (o69.map (Value.int .u8)) :: G) rfl rfl ?_
    refine N.nx ?_
    refine C.rs ?_
    refine J.p rfl rfl rfl rfl (Y.mv rfl) ?_
    refine J.p rfl rfl rfl rfl (Y.asg rfl) ?_
    refine J.nx ?_
    refine C.ret ?_
    obtain rfl := Option.some.inj H
    exact ret_ok (ks := [2]) rfl rfl (fun w h => ⟨j70.1, j70.2, rfl, h⟩)
/-! ### salvor/crc.Bitwise: function 45 -/
def Bitwise.l2 : Nat → (Int × Int) → Option (Int)
  | 0, _ => none
  | k + 1, i77 => if i77.2 < 8 then (Bitwise.l2 k (Sx.bits .xor .u32 (Sx.shr .u32 i77.1 1) (Sx.bits .and .u32 2197175160 (IntKind.wrap .u32 (0 - (Sx.bits .and .u32 i77.1 1)))), IntKind.wrap .i64 (i77.2 + 1))) else (some i77.1)
def Bitwise.l1 (K : Nat) (a1 : List Int) : Nat → (Int × Int) → Option (Int)
  | 0, _ => none
  | k + 1, i55 => if i55.2 < (a1.length : Int) then ((gd ((0 : Int) ≤ i55.2 ∧ i55.2 < (a1.length : Int)) (Bitwise.l2 K (Sx.bits .xor .u32 i55.1 (IntKind.wrap .u32 (rd a1 i55.2)), 0))).bind fun o67 => Bitwise.l1 K a1 k (o67, IntKind.wrap .i64 (i55.2 + 1))) else (some i55.1)
def Bitwise.f (K : Nat) (a0 : Int) (a1 : List Int) : Option (Int) := (Bitwise.l1 K a1 K (Sx.compl .u32 a0, 0)).bind fun o28 => some (Sx.compl .u32 o28)
theorem Bitwise.calls {B : Nat} {w0 : World} {G : List HP} (K : Nat) (a0 : Int) (a1 : List Int) (Aa1 : Option Addr) (ca1 : Nat) (ha1 : RdG B w0 G Aa1 (a1.map (Value.int .u8))) (ka1 : a1.length ≤ ca1) (r : Int) (H : Bitwise.f K a0 a1 = some r) (w : World) (hw : St B w0 (G) w) :
    Calls Try.prog 45 [.int .u32 a0, .slice Aa1 a1.length ca1].toArray w (fun e w' => e = .returned (.int .u32 r) ∧ St B w0 (G) w') := by
  unfold Bitwise.f at H
  refine calls_of (n := 33) (s := [(0, .int .u32 a0), (1, .slice Aa1 a1.length ca1)]) Try.func45 rfl rfl rfl rfl ?_ hw
  refine C.rs ?_
  refine J.p rfl rfl rfl rfl (Y.asg rfl) ?_
  refine J.nx ?_
  refine C.rs ?_
  refine J.p rfl rfl rfl rfl (Y.mv rfl) ?_
  refine J.p rfl rfl rfl rfl (Y.compl rfl) ?_
  refine J.p rfl rfl rfl rfl (Y.asg rfl) ?_
  refine J.nx ?_
  refine C.seq ?_
  refine C.rs ?_
  refine J.p rfl rfl rfl rfl (Y.mv rfl) ?_
  refine J.p rfl rfl rfl rfl (Y.lenS Try.underlying22 rfl) ?_
  refine J.p rfl rfl rfl rfl (Y.mv rfl) ?_
  refine J.nx ?_
  refine C.joinN H (fun (o28 : Int) (j29 : Unit) => [(5, .int .u32 o28)]) (fun (o28 : Int) (j29 : Unit) => G) (fun (o28 : Int) (j29 : Unit) => True) (fun o26 H HK27 => ?_) (fun o28 j29 H _ => ?_)
  · refine C.blk ?_
    refine C.loop (fun (i : Nat × (Int × Int) × (Unit)) => [(5, .int .u32 i.2.1.1), (10, .slice Aa1 a1.length ca1), (11, .int .i64 (a1.length : Int)), (12, .int .i64 i.2.1.2)]) (fun (i : Nat × (Int × Int) × (Unit)) => G) (fun (i : Nat × (Int × Int) × (Unit)) => Bitwise.l1 K a1 i.1 i.2.1 = some o26 ∧ (True)) (fun i => i.1) (K, (Sx.compl .u32 a0, 0), ()) ⟨H, trivial⟩ (by exact ⟨rfl, rfl, rfl, rfl, trivial⟩) (by exact fun w h => h) ?_
    rintro ⟨k81, i55, j56⟩ ⟨H, _⟩
    replace H : Bitwise.l1 K a1 k81 i55 = some o26 := H
    obtain ⟨k54, rfl⟩ : ∃ m, k81 = m + 1 := by cases k81 with | zero => exact absurd H (by simp [Bitwise.l1]) | succ m => exact ⟨m, rfl⟩
    rw [Bitwise.l1] at H
    refine C.at (s' := [(5, .int .u32 i55.1), (10, .slice Aa1 a1.length ca1), (11, .int .i64 (a1.length : Int)), (12, .int .i64 i55.2)]) (G' := G) rfl rfl ?_
    refine C.rs ?_
    refine J.p rfl rfl rfl rfl (Y.bin rfl rfl rfl) ?_
    refine J.nx ?_
    refine C.seq ?_
    refine split2 H (fun c57 H => ?_) (fun c57 H => ?_)
    · refine C.condT (congrArg (fun b => some (Value.bool b)) (decide_eq_true c57)) ?_
      refine C.skip ?_
      refine N.nx ?_
      refine C.joinB H (fun (o67 : Int) (j68 : Unit) => [(5, .int .u32 o67), (10, .slice Aa1 a1.length ca1), (11, .int .i64 (a1.length : Int)), (12, .int .i64 i55.2)]) (fun (o67 : Int) (j68 : Unit) => G) (fun (o67 : Int) (j68 : Unit) => True) (fun o65 H HK66 => ?_) (fun o67 j68 H _ => ?_)
      · refine C.blk ?_
        refine C.rs ?_
        obtain ⟨p69, H⟩ := gd_some H
        refine J.el rfl rfl rfl Try.underlying22 ti5 Try.underlying5 rfl rfl rfl p69 ha1 ?_
        refine J.p rfl rfl rfl rfl (Y.asg rfl) ?_
        refine J.nx ?_
        refine C.rs ?_
        refine J.p rfl rfl rfl rfl (Y.mv rfl) ?_
        refine J.p rfl rfl rfl rfl (Y.mv rfl) ?_
        refine J.p rfl rfl rfl rfl (Y.conv Try.underlying5 Try.underlying30 rfl) ?_
        refine J.p rfl rfl rfl rfl (Y.bin rfl rfl rfl) ?_
        refine J.p rfl rfl rfl rfl (Y.asg rfl) ?_
        refine J.nx ?_
        refine C.rs ?_
        refine J.p rfl rfl rfl rfl (Y.mv rfl) ?_
        refine J.nx ?_
        refine C.blk ?_
        refine C.loop (fun (i : Nat × (Int × Int) × (Unit)) => [(5, .int .u32 i.2.1.1), (10, .slice Aa1 a1.length ca1), (11, .int .i64 (a1.length : Int)), (12, .int .i64 i55.2), (20, .int .i64 i.2.1.2)]) (fun (i : Nat × (Int × Int) × (Unit)) => G) (fun (i : Nat × (Int × Int) × (Unit)) => Bitwise.l2 i.1 i.2.1 = some o65 ∧ (True)) (fun i => i.1) (K, (Sx.bits .xor .u32 i55.1 (IntKind.wrap .u32 (rd a1 i55.2)), 0), ()) ⟨H, trivial⟩ (by exact ⟨rfl, rfl, rfl, rfl, rfl, trivial⟩) (by exact fun w h => h) ?_
        rintro ⟨k80, i77, j78⟩ ⟨H, _⟩
        replace H : Bitwise.l2 k80 i77 = some o65 := H
        obtain ⟨k76, rfl⟩ : ∃ m, k80 = m + 1 := by cases k80 with | zero => exact absurd H (by simp [Bitwise.l2]) | succ m => exact ⟨m, rfl⟩
        rw [Bitwise.l2] at H
        refine C.at (s' := [(5, .int .u32 i77.1), (10, .slice Aa1 a1.length ca1), (11, .int .i64 (a1.length : Int)), (12, .int .i64 i55.2), (20, .int .i64 i77.2)]) (G' := G) rfl rfl ?_
        refine C.rs ?_
        refine J.p rfl rfl rfl rfl (Y.bin rfl rfl rfl) ?_
        refine J.nx ?_
        refine C.seq ?_
        refine split2 H (fun c79 H => ?_) (fun c79 H => ?_)
        · refine C.condT (congrArg (fun b => some (Value.bool b)) (decide_eq_true c79)) ?_
          refine C.skip ?_
          refine N.nx ?_
          refine C.seq ?_
          refine C.blk ?_
          refine C.reg ?_
          refine J.p rfl rfl rfl rfl (Y.mv rfl) ?_
          refine J.p rfl rfl rfl rfl (Y.shr rfl rfl (by decide)) ?_
          refine J.p rfl rfl rfl rfl (Y.mv rfl) ?_
          refine J.p rfl rfl rfl rfl (Y.bin rfl rfl rfl) ?_
          refine J.p rfl rfl rfl rfl (Y.neg rfl) ?_
          refine J.p rfl rfl rfl rfl (Y.bin rfl rfl rfl) ?_
          refine J.p rfl rfl rfl rfl (Y.bin rfl rfl rfl) ?_
          refine J.p rfl rfl rfl rfl (Y.asg rfl) ?_
          refine J.nil ?_
          refine N.ib ?_
          refine N.nx ?_
          refine C.reg ?_
          refine J.p rfl rfl rfl rfl (Y.bin rfl rfl rfl) ?_
          refine J.p rfl rfl rfl rfl (Y.mv rfl) ?_
          refine J.nil ?_
          exact N.again (k76, (Sx.bits .xor .u32 (Sx.shr .u32 i77.1 1) (Sx.bits .and .u32 2197175160 (IntKind.wrap .u32 (0 - (Sx.bits .and .u32 i77.1 1)))), IntKind.wrap .i64 (i77.2 + 1)), ()) ⟨H, trivial⟩ (Nat.lt_succ_self _) (by exact ⟨rfl, rfl, rfl, rfl, rfl, trivial⟩) (by exact fun w h => h)
        · refine C.condF (congrArg (fun b => some (Value.bool b)) (decide_eq_false c79)) ?_
          refine C.exit ?_
          refine X.th ?_
          refine X.th ?_
          refine X.hit ?_
          refine N.ib ?_
          obtain rfl := Option.some.inj H
          exact N.meet (i77.1, ()) ⟨HK66, trivial⟩ (by exact ⟨rfl, rfl, rfl, rfl, trivial⟩) (by exact fun w h => h)
      · refine C.at (s' := [(5, .int .u32 o67), (10, .slice Aa1 a1.length ca1), (11, .int .i64 (a1.length : Int)), (12, .int .i64 i55.2)]) (G' := G) rfl rfl ?_
        refine C.reg ?_
        refine J.p rfl rfl rfl rfl (Y.bin rfl rfl rfl) ?_
        refine J.p rfl rfl rfl rfl (Y.mv rfl) ?_
        refine J.nil ?_
        exact N.again (k54, (o67, IntKind.wrap .i64 (i55.2 + 1)), ()) ⟨H, trivial⟩ (Nat.lt_succ_self _) (by exact ⟨rfl, rfl, rfl, rfl, trivial⟩) (by exact fun w h => h)
    · refine C.condF (congrArg (fun b => some (Value.bool b)) (decide_eq_false c57)) ?_
      refine C.exit ?_
      refine X.th ?_
      refine X.th ?_
      refine X.hit ?_
      obtain rfl := Option.some.inj H
      exact N.meet (i55.1, ()) ⟨HK27, trivial⟩ (by exact ⟨rfl, trivial⟩) (by exact fun w h => h)
  · refine N.at (s' := [(5, .int .u32 o28)]) (G' := G) rfl rfl ?_
    refine N.nx ?_
    refine C.rs ?_
    refine J.p rfl rfl rfl rfl (Y.mv rfl) ?_
    refine J.p rfl rfl rfl rfl (Y.compl rfl) ?_
    refine J.p rfl rfl rfl rfl (Y.asg rfl) ?_
    refine J.nx ?_
    refine C.ret ?_
    obtain rfl := Option.some.inj H
    exact ret_ok (ks := [4]) rfl rfl (fun w h => ⟨rfl, h⟩)
/-! ### salvor/crc.Sum: function 19 -/
def Sum.l1 (K : Nat) (a0 : List (List Int)) : Nat → (Int × Int) → Option (Int)
  | 0, _ => none
  | k + 1, i62 => if i62.2 < (a0.length : Int) then (gd ((0 : Int) ≤ i62.2 ∧ i62.2 < (a0.length : Int)) ((Bitwise.f K i62.1 (rd a0 i62.2)).bind fun t73 => Sum.l1 K a0 k (t73, IntKind.wrap .i64 (i62.2 + 1)))) else (some i62.1)
def Sum.f (K : Nat) (a0 : List (List Int)) : Option (Int) := (Sum.l1 K a0 K (0, 0)).bind fun o31 => some o31
theorem Sum.calls {B : Nat} {w0 : World} {G : List HP} (K : Nat) (a0 : List (List Int)) (Aa0 : Option Addr) (ca0 : Nat) (va0 : List Value) (ha0 : RdG B w0 G Aa0 va0) (hva0 : VV B w0 G (Value.int .u8) va0 a0) (ka0 : a0.length ≤ ca0) (r : Int) (H : Sum.f K a0 = some r) (w : World) (hw : St B w0 (G) w) :
    Calls Try.prog 19 [.slice Aa0 a0.length ca0].toArray w (fun e w' => e = .returned (.int .u32 r) ∧ St B w0 (G) w') := by
  unfold Sum.f at H
  refine calls_of (n := 17) (s := [(0, .slice Aa0 a0.length ca0)]) Try.func19 rfl rfl rfl rfl ?_ hw
  refine C.rs ?_
  refine J.p rfl rfl rfl rfl (Y.asg rfl) ?_
  refine J.nx ?_
  refine C.rs ?_
  refine J.p rfl rfl rfl rfl (Y.asg rfl) ?_
  refine J.nx ?_
  refine C.seq ?_
  refine C.rs ?_
  refine J.p rfl rfl rfl rfl (Y.mv rfl) ?_
  refine J.p rfl rfl rfl rfl (Y.lenS Try.underlying56 rfl) ?_
  refine J.p rfl rfl rfl rfl (Y.mv rfl) ?_
  refine J.nx ?_
  refine C.joinN H (fun (o31 : Int) (j32 : Unit) => [(3, .int .u32 o31)]) (fun (o31 : Int) (j32 : Unit) => G) (fun (o31 : Int) (j32 : Unit) => True) (fun o29 H HK30 => ?_) (fun o31 j32 H _ => ?_)
  · refine C.blk ?_
    refine C.loop (fun (i : Nat × (Int × Int) × (Unit)) => [(3, .int .u32 i.2.1.1), (6, .slice Aa0 a0.length ca0), (7, .int .i64 (a0.length : Int)), (8, .int .i64 i.2.1.2)]) (fun (i : Nat × (Int × Int) × (Unit)) => G) (fun (i : Nat × (Int × Int) × (Unit)) => Sum.l1 K a0 i.1 i.2.1 = some o29 ∧ (True)) (fun i => i.1) (K, (0, 0), ()) ⟨H, trivial⟩ (by exact ⟨rfl, rfl, rfl, rfl, trivial⟩) (by exact fun w h => h) ?_
    rintro ⟨k76, i62, j63⟩ ⟨H, _⟩
    replace H : Sum.l1 K a0 k76 i62 = some o29 := H
    obtain ⟨k61, rfl⟩ : ∃ m, k76 = m + 1 := by cases k76 with | zero => exact absurd H (by simp [Sum.l1]) | succ m => exact ⟨m, rfl⟩
    rw [Sum.l1] at H
    refine C.at (s' := [(3, .int .u32 i62.1), (6, .slice Aa0 a0.length ca0), (7, .int .i64 (a0.length : Int)), (8, .int .i64 i62.2)]) (G' := G) rfl rfl ?_
    refine C.rs ?_
    refine J.p rfl rfl rfl rfl (Y.bin rfl rfl rfl) ?_
    refine J.nx ?_
    refine C.seq ?_
    refine split2 H (fun c64 H => ?_) (fun c64 H => ?_)
    · refine C.condT (congrArg (fun b => some (Value.bool b)) (decide_eq_true c64)) ?_
      refine C.skip ?_
      refine N.nx ?_
      refine C.seq ?_
      refine C.blk ?_
      refine C.rs ?_
      obtain ⟨p67, H⟩ := gd_some H
      refine J.know (VV.some_ (ha0.suf [] rfl) (hva0.suf [] rfl) (idx_lt p67)) (fun hh => ?_)
      obtain ⟨a65, ha66⟩ := hh
      refine J.p rfl rfl rfl rfl (Y.ixa Try.underlying56 ti22 rfl rfl p67 ha66) ?_
      obtain ⟨A68, c69, hv70, hr71, hc72⟩ := VV.get hva0 p67
      refine J.r rfl rfl rfl rfl (Y.ld Try.underlying22 rfl rfl ha0 ha66 hv70) ?_
      refine J.p rfl rfl rfl rfl (Y.asg rfl) ?_
      refine J.nx ?_
      refine C.reg ?_
      refine J.p rfl rfl rfl rfl (Y.mv rfl) ?_
      refine J.p rfl rfl rfl rfl (Y.mv rfl) ?_
      obtain ⟨t73, hC74, H⟩ := bind_some H
      refine J.call (us := []) (cap := []) rfl rfl rfl go45 (fun w hw => by have hcc := Bitwise.calls K i62.1 (rd a0 i62.2) A68 c69 hr71 hc72 t73 hC74 w hw; exact hcc) (fun e w1 h1 => ?_)
      obtain ⟨rfl, hw75⟩ := h1
      refine ⟨_, _, rfl, hw75, ?_⟩
      refine J.p rfl rfl rfl rfl (Y.asg rfl) ?_
      refine J.nil ?_
      refine N.ib ?_
      refine N.nx ?_
      refine C.reg ?_
      refine J.p rfl rfl rfl rfl (Y.bin rfl rfl rfl) ?_
      refine J.p rfl rfl rfl rfl (Y.mv rfl) ?_
      refine J.nil ?_
      exact N.again (k61, (t73, IntKind.wrap .i64 (i62.2 + 1)), ()) ⟨H, trivial⟩ (Nat.lt_succ_self _) (by exact ⟨rfl, rfl, rfl, rfl, trivial⟩) (by exact fun w h => h)
    · refine C.condF (congrArg (fun b => some (Value.bool b)) (decide_eq_false c64)) ?_
      refine C.exit ?_
      refine X.th ?_
      refine X.th ?_
      refine X.hit ?_
      obtain rfl := Option.some.inj H
      exact N.meet (i62.1, ()) ⟨HK30, trivial⟩ (by exact ⟨rfl, trivial⟩) (by exact fun w h => h)
  · refine N.at (s' := [(3, .int .u32 o31)]) (G' := G) rfl rfl ?_
    refine N.nx ?_
    refine C.rs ?_
    refine J.p rfl rfl rfl rfl (Y.mv rfl) ?_
    refine J.p rfl rfl rfl rfl (Y.asg rfl) ?_
    refine J.nx ?_
    refine C.ret ?_
    obtain rfl := Option.some.inj H
    exact ret_ok (ks := [2]) rfl rfl (fun w h => ⟨rfl, h⟩)
/-! ### salvor/frame.isRecord: function 72 -/
def isRecord.f (a0 : Int) : Option (Bool) := if a0 = 1 then (some true) else (some (decide (a0 = 2)))
theorem isRecord.calls {B : Nat} {w0 : World} {G : List HP} (a0 : Int) (r : Bool) (H : isRecord.f a0 = some r) (w : World) (hw : St B w0 (G) w) :
    Calls Try.prog 72 [.int .i64 a0].toArray w (fun e w' => e = .returned (.bool r) ∧ St B w0 (G) w') := by
  unfold isRecord.f at H
  refine calls_of (n := 9) (s := [(0, .int .i64 a0)]) Try.func72 rfl rfl rfl rfl ?_ hw
  refine C.rs ?_
  refine J.p rfl rfl rfl rfl (Y.asg rfl) ?_
  refine J.nx ?_
  refine C.rs ?_
  refine J.p rfl rfl rfl rfl (Y.mv rfl) ?_
  refine J.p rfl rfl rfl rfl (Y.bin rfl rfl rfl) ?_
  refine J.p rfl rfl rfl rfl (Y.mv rfl) ?_
  refine split2 H (fun c1 H => ?_) (fun c1 H => ?_)
  · refine J.as (k := 5) rfl (congrArg Value.bool (decide_eq_true c1)) ?_
    refine J.skip rfl rfl ?_
    refine J.skip rfl rfl ?_
    refine J.p rfl rfl rfl rfl (Y.pickT rfl rfl) ?_
    refine J.p rfl rfl rfl rfl (Y.asg rfl) ?_
    refine J.nx ?_
    refine C.ret ?_
    obtain rfl := Option.some.inj H
    exact ret_ok (ks := [2]) rfl rfl (fun w h => ⟨rfl, h⟩)
  · refine J.as (k := 5) rfl (congrArg Value.bool (decide_eq_false c1)) ?_
    refine J.p rfl rfl rfl rfl (Y.mv rfl) ?_
    refine J.p rfl rfl rfl rfl (Y.bin rfl rfl rfl) ?_
    refine J.p rfl rfl rfl rfl (Y.pickF rfl rfl) ?_
    refine J.p rfl rfl rfl rfl (Y.asg rfl) ?_
    refine J.nx ?_
    refine C.ret ?_
    obtain rfl := Option.some.inj H
    exact ret_ok (ks := [2]) rfl rfl (fun w h => ⟨rfl, h⟩)
/-! ### salvor/frame.between: function 73 -/
def between.f (a0 : Int) (a1 : Int) (a2 : Int) : Option (Bool) := if a1 ≤ a0 then (some (decide (a0 ≤ a2))) else (some false)
theorem between.calls {B : Nat} {w0 : World} {G : List HP} (a0 : Int) (a1 : Int) (a2 : Int) (r : Bool) (H : between.f a0 a1 a2 = some r) (w : World) (hw : St B w0 (G) w) :
    Calls Try.prog 73 [.int .i64 a0, .int .i64 a1, .int .i64 a2].toArray w (fun e w' => e = .returned (.bool r) ∧ St B w0 (G) w') := by
  unfold between.f at H
  refine calls_of (n := 15) (s := [(0, .int .i64 a0), (1, .int .i64 a1), (2, .int .i64 a2)]) Try.func73 rfl rfl rfl rfl ?_ hw
  refine C.rs ?_
  refine J.p rfl rfl rfl rfl (Y.asg rfl) ?_
  refine J.nx ?_
  refine C.rs ?_
  refine J.p rfl rfl rfl rfl (Y.mv rfl) ?_
  refine J.p rfl rfl rfl rfl (Y.mv rfl) ?_
  refine J.p rfl rfl rfl rfl (Y.bin rfl rfl rfl) ?_
  refine J.p rfl rfl rfl rfl (Y.mv rfl) ?_
  refine split2 H (fun c1 H => ?_) (fun c1 H => ?_)
  · refine J.as (k := 10) rfl (congrArg Value.bool (decide_eq_true c1)) ?_
    refine J.p rfl rfl rfl rfl (Y.mv rfl) ?_
    refine J.p rfl rfl rfl rfl (Y.mv rfl) ?_
    refine J.p rfl rfl rfl rfl (Y.bin rfl rfl rfl) ?_
    refine J.p rfl rfl rfl rfl (Y.pickT rfl rfl) ?_
    refine J.p rfl rfl rfl rfl (Y.asg rfl) ?_
    refine J.nx ?_
    refine C.ret ?_
    obtain rfl := Option.some.inj H
    exact ret_ok (ks := [6]) rfl rfl (fun w h => ⟨rfl, h⟩)
  · refine J.as (k := 10) rfl (congrArg Value.bool (decide_eq_false c1)) ?_
    refine J.skip rfl rfl ?_
    refine J.skip rfl rfl ?_
    refine J.skip rfl rfl ?_
    refine J.p rfl rfl rfl rfl (Y.pickF rfl rfl) ?_
    refine J.p rfl rfl rfl rfl (Y.asg rfl) ?_
    refine J.nx ?_
    refine C.ret ?_
    obtain rfl := Option.some.inj H
    exact ret_ok (ks := [6]) rfl rfl (fun w h => ⟨rfl, h⟩)
/-! ### salvor/frame.may: function 71 -/
def may.f (a0 : Int) (a1 : ByteArray) (a2 : ByteArray) (a3 : Int) : Option (Int) := if a0 = 0 then (some 47) else ((between.f (a1.size : Int) 1 64).bind fun t2 => if t2 = true then ((if 2048 < (a2.size : Int) then (some true) else (if a3 = 2 then (some (decide (a2 ≠ (⟨#[]⟩ : ByteArray)))) else (some false))).bind fun o7 => if o7 = true then (some 49) else (some 0)) else (some 48))
theorem may.calls {B : Nat} {w0 : World} {G : List HP} (a0 : Int) (a1 : ByteArray) (a2 : ByteArray) (a3 : Int) (r : Int) (H : may.f a0 a1 a2 a3 = some r) (w : World) (hw : St B w0 (G) w) :
    Calls Try.prog 71 [.int .u64 a0, .string a1, .string a2, .int .i64 a3].toArray w (fun e w' => e = .returned (.int .i64 r) ∧ St B w0 (G) w') := by
  unfold may.f at H
  refine calls_of (n := 29) (s := [(0, .int .u64 a0), (1, .string a1), (2, .string a2), (3, .int .i64 a3)]) Try.func71 rfl rfl rfl rfl ?_ hw
  refine C.rs ?_
  refine J.p rfl rfl rfl rfl (Y.asg rfl) ?_
  refine J.nx ?_
  refine C.seq ?_
  refine C.blk ?_
  refine C.rs ?_
  refine J.p rfl rfl rfl rfl (Y.mv rfl) ?_
  refine J.p rfl rfl rfl rfl (Y.bin rfl rfl rfl) ?_
  refine J.p rfl rfl rfl rfl (Y.asg rfl) ?_
  refine J.nx ?_
  refine split2 H (fun c1 H => ?_) (fun c1 H => ?_)
  · refine C.condT (congrArg (fun b => some (Value.bool b)) (decide_eq_true c1)) ?_
    refine C.rs ?_
    refine J.p rfl rfl rfl rfl (Y.asg rfl) ?_
    refine J.nx ?_
    refine C.ret ?_
    obtain rfl := Option.some.inj H
    refine T.ib ?_
    refine T.th ?_
    exact ret_ok (ks := [8]) rfl rfl (fun w h => ⟨rfl, h⟩)
  · refine C.condF (congrArg (fun b => some (Value.bool b)) (decide_eq_false c1)) ?_
    refine C.rs ?_
    refine J.p rfl rfl rfl rfl (Y.mv rfl) ?_
    refine J.p rfl rfl rfl rfl (Y.lenT Try.underlying9 rfl) ?_
    obtain ⟨t2, hC3, H⟩ := bind_some H
    refine J.call (us := []) (cap := []) rfl rfl rfl go73 (fun w hw => by have hcc := between.calls (a1.size : Int) 1 64 t2 hC3 w hw; exact hcc) (fun e w1 h1 => ?_)
    obtain ⟨rfl, hw14⟩ := h1
    refine ⟨_, _, rfl, hw14, ?_⟩
    refine J.p rfl rfl rfl rfl (Y.notb rfl) ?_
    refine J.p rfl rfl rfl rfl (Y.asg rfl) ?_
    refine J.nx ?_
    refine split2 H (fun c4 H => ?_) (fun c4 H => ?_)
    · refine C.condF (congrArg (fun b => some (Value.bool b)) (congrArg Bool.not (c4))) ?_
      refine C.rs ?_
      refine J.joinB H (fun (o7 : Bool) (j8 : Unit) => [(17, .bool o7)]) (fun (o7 : Bool) (j8 : Unit) => G) (fun (o7 : Bool) (j8 : Unit) => True) (fun o9 H HK10 => ?_) (fun o7 j8 H _ => ?_)
      · refine J.p rfl rfl rfl rfl (Y.mv rfl) ?_
        refine J.p rfl rfl rfl rfl (Y.lenT Try.underlying9 rfl) ?_
        refine J.p rfl rfl rfl rfl (Y.bin rfl rfl rfl) ?_
        refine J.p rfl rfl rfl rfl (Y.mv rfl) ?_
        refine split2 H (fun c11 H => ?_) (fun c11 H => ?_)
        · refine J.as (k := 21) rfl (congrArg Value.bool (decide_eq_true c11)) ?_
          refine J.skip rfl rfl ?_
          refine J.skip rfl rfl ?_
          refine J.skip rfl rfl ?_
          refine J.skip rfl rfl ?_
          refine J.skip rfl rfl ?_
          refine J.skip rfl rfl ?_
          refine J.p rfl rfl rfl rfl (Y.pickT rfl rfl) ?_
          refine J.p rfl rfl rfl rfl (Y.asg rfl) ?_
          refine J.nil ?_
          obtain rfl := Option.some.inj H
          exact N.meet (true, ()) ⟨HK10, trivial⟩ (by exact ⟨rfl, trivial⟩) (by exact fun w h => h)
        · refine J.as (k := 21) rfl (congrArg Value.bool (decide_eq_false c11)) ?_
          refine J.p rfl rfl rfl rfl (Y.mv rfl) ?_
          refine J.p rfl rfl rfl rfl (Y.bin rfl rfl rfl) ?_
          refine J.p rfl rfl rfl rfl (Y.mv rfl) ?_
          refine split2 H (fun c12 H => ?_) (fun c12 H => ?_)
          · refine J.as (k := 24) rfl (congrArg Value.bool (decide_eq_true c12)) ?_
            refine J.p rfl rfl rfl rfl (Y.mv rfl) ?_
            refine J.p rfl rfl rfl rfl (Y.nes rfl rfl) ?_
            refine J.p rfl rfl rfl rfl (Y.pickT rfl rfl) ?_
            refine J.p rfl rfl rfl rfl (Y.pickF rfl rfl) ?_
            refine J.p rfl rfl rfl rfl (Y.asg rfl) ?_
            refine J.nil ?_
            obtain rfl := Option.some.inj H
            exact N.meet (decide (a2 ≠ (⟨#[]⟩ : ByteArray)), ()) ⟨HK10, trivial⟩ (by exact ⟨rfl, trivial⟩) (by exact fun w h => h)
          · refine J.as (k := 24) rfl (congrArg Value.bool (decide_eq_false c12)) ?_
            refine J.skip rfl rfl ?_
            refine J.skip rfl rfl ?_
            refine J.p rfl rfl rfl rfl (Y.pickF rfl rfl) ?_
            refine J.p rfl rfl rfl rfl (Y.pickF rfl rfl) ?_
            refine J.p rfl rfl rfl rfl (Y.asg rfl) ?_
            refine J.nil ?_
            obtain rfl := Option.some.inj H
            exact N.meet (false, ()) ⟨HK10, trivial⟩ (by exact ⟨rfl, trivial⟩) (by exact fun w h => h)
      · refine C.at (s' := [(17, .bool o7)]) (G' := G) rfl rfl ?_
        refine split2 H (fun c13 H => ?_) (fun c13 H => ?_)
        · refine C.condT (congrArg (fun b => some (Value.bool b)) (c13)) ?_
          refine C.rs ?_
          refine J.p rfl rfl rfl rfl (Y.asg rfl) ?_
          refine J.nx ?_
          refine C.ret ?_
          obtain rfl := Option.some.inj H
          refine T.ib ?_
          refine T.th ?_
          exact ret_ok (ks := [8]) rfl rfl (fun w h => ⟨rfl, h⟩)
        · refine C.condF (congrArg (fun b => some (Value.bool b)) (nt c13)) ?_
          refine C.skip ?_
          refine N.ib ?_
          refine N.nx ?_
          refine C.rs ?_
          refine J.p rfl rfl rfl rfl (Y.asg rfl) ?_
          refine J.nx ?_
          refine C.ret ?_
          obtain rfl := Option.some.inj H
          exact ret_ok (ks := [8]) rfl rfl (fun w h => ⟨rfl, h⟩)
    · refine C.condT (congrArg (fun b => some (Value.bool b)) (congrArg Bool.not (nt c4))) ?_
      refine C.rs ?_
      refine J.p rfl rfl rfl rfl (Y.asg rfl) ?_
      refine J.nx ?_
      refine C.ret ?_
      obtain rfl := Option.some.inj H
      refine T.ib ?_
      refine T.th ?_
      exact ret_ok (ks := [8]) rfl rfl (fun w h => ⟨rfl, h⟩)
/-! ### salvor/frame.Of: function 21 -/
def fOf.f (a0_0 : Int) (a0_1 : Int) (a0_2 : ByteArray) (a0_3 : ByteArray) : Option (Int × Int × Int × ByteArray × ByteArray × Int × Int × Int × Int × ByteArray × Int × Int × Int × Int) := some (a0_1, a0_0, a0_1, a0_2, a0_3, 0, 0, 0, 0, ByteArray.empty, 0, 0, 0, 0)
theorem fOf.calls {B : Nat} {w0 : World} {G : List HP} (a0_0 : Int) (a0_1 : Int) (a0_2 : ByteArray) (a0_3 : ByteArray) (r : Int × Int × Int × ByteArray × ByteArray × Int × Int × Int × Int × ByteArray × Int × Int × Int × Int) (H : fOf.f a0_0 a0_1 a0_2 a0_3 = some r) (w : World) (hw : St B w0 (G) w) :
    Calls Try.prog 21 [.agg #[.int .u64 a0_0, .int .i64 a0_1, .string a0_2, .string a0_3]].toArray w (fun e w' => e = .returned (.agg #[.int .i64 r.1, .int .u64 r.2.1, .int .i64 r.2.2.1, .string r.2.2.2.1, .string r.2.2.2.2.1, .int .u64 r.2.2.2.2.2.1, .int .i64 r.2.2.2.2.2.2.1, .int .i64 r.2.2.2.2.2.2.2.1, .int .i64 r.2.2.2.2.2.2.2.2.1, .string r.2.2.2.2.2.2.2.2.2.1, .int .i64 r.2.2.2.2.2.2.2.2.2.2.1, .int .i64 r.2.2.2.2.2.2.2.2.2.2.2.1, .int .i64 r.2.2.2.2.2.2.2.2.2.2.2.2.1, .int .u32 r.2.2.2.2.2.2.2.2.2.2.2.2.2]) ∧ St B w0 (G) w') := by
  unfold fOf.f at H
  refine calls_of (n := 7) (s := [(0, .agg #[.int .u64 a0_0, .int .i64 a0_1, .string a0_2, .string a0_3])]) Try.func21 rfl rfl rfl rfl ?_ hw
  refine C.rs ?_
  refine J.box (L := [.int .u64 a0_0, .int .i64 a0_1, .string a0_2, .string a0_3]) rfl rfl rfl (fun g1 => ?_)
  refine J.alloc (L := [.int .i64 0, .int .u64 0, .int .i64 0, .string ByteArray.empty, .string ByteArray.empty, .int .u64 0, .int .i64 0, .int .i64 0, .int .i64 0, .string ByteArray.empty, .int .i64 0, .int .i64 0, .int .i64 0, .int .u32 0]) rfl ti36 rfl (fun g3 => ?_)
  refine J.nx ?_
  refine C.rs ?_
  refine J.p rfl rfl rfl rfl (Y.fa0 fa27_1 rfl rfl) ?_
  refine J.r rfl rfl rfl rfl (Y.ldC 1 Try.underlying24 rfl rfl rfl rfl) ?_
  refine J.r rfl rfl rfl rfl (Y.ldCA (us := [.int .u64 a0_0, .int .i64 a0_1, .string a0_2, .string a0_3]) 1 Try.underlying27 rfl ti27 rfl rfl rfl rfl) ?_
  refine J.p rfl rfl rfl rfl (Y.bld (cs := [.int .i64 a0_1, .int .u64 a0_0, .int .i64 a0_1, .string a0_2, .string a0_3, .int .u64 0, .int .i64 0, .int .i64 0, .int .i64 0, .string ByteArray.empty, .int .i64 0, .int .i64 0, .int .i64 0, .int .u32 0]) rfl pl36 ti36 rfl (by kernel_rfl)) ?_
  refine J.stA (us := [.int .i64 a0_1, .int .u64 a0_0, .int .i64 a0_1, .string a0_2, .string a0_3, .int .u64 0, .int .i64 0, .int .i64 0, .int .i64 0, .string ByteArray.empty, .int .i64 0, .int .i64 0, .int .i64 0, .int .u32 0]) (L' := [.int .i64 a0_1, .int .u64 a0_0, .int .i64 a0_1, .string a0_2, .string a0_3, .int .u64 0, .int .i64 0, .int .i64 0, .int .i64 0, .string ByteArray.empty, .int .i64 0, .int .i64 0, .int .i64 0, .int .u32 0]) ti36 rfl rfl rfl rfl rfl rfl ?_
  refine J.nx ?_
  refine C.ret ?_
  obtain rfl := Option.some.inj H
  exact ret_okG (rvs := [.cell 2 36]) (vs := [.agg #[.int .i64 a0_1, .int .u64 a0_0, .int .i64 a0_1, .string a0_2, .string a0_3, .int .u64 0, .int .i64 0, .int .i64 0, .int .i64 0, .string ByteArray.empty, .int .i64 0, .int .i64 0, .int .i64 0, .int .u32 0]]) rfl ⟨RV.cellA (us := [.int .i64 a0_1, .int .u64 a0_0, .int .i64 a0_1, .string a0_2, .string a0_3, .int .u64 0, .int .i64 0, .int .i64 0, .int .i64 0, .string ByteArray.empty, .int .i64 0, .int .i64 0, .int .i64 0, .int .u32 0]) 0 Try.underlying36 rfl ti36 rfl rfl rfl rfl, trivial⟩ (fun w h => ⟨rfl, (St.pick [] [_, _] h rfl)⟩)
/-! ### salvor/salvorlaw4.first: function 35 -/
def first.f : Option (Int × Int × Int × ByteArray × ByteArray × Int × Int × Int × Int × ByteArray × Int × Int × Int × Int) := some (1, 1, 1, (⟨#[107]⟩ : ByteArray), (⟨#[118]⟩ : ByteArray), 0, 0, 0, 0, ByteArray.empty, 0, 0, 0, 0)
theorem first.calls {B : Nat} {w0 : World} {G : List HP} (r : Int × Int × Int × ByteArray × ByteArray × Int × Int × Int × Int × ByteArray × Int × Int × Int × Int) (H : first.f = some r) (w : World) (hw : St B w0 (G) w) :
    Calls Try.prog 35 [].toArray w (fun e w' => e = .returned (.agg #[.int .i64 r.1, .int .u64 r.2.1, .int .i64 r.2.2.1, .string r.2.2.2.1, .string r.2.2.2.2.1, .int .u64 r.2.2.2.2.2.1, .int .i64 r.2.2.2.2.2.2.1, .int .i64 r.2.2.2.2.2.2.2.1, .int .i64 r.2.2.2.2.2.2.2.2.1, .string r.2.2.2.2.2.2.2.2.2.1, .int .i64 r.2.2.2.2.2.2.2.2.2.2.1, .int .i64 r.2.2.2.2.2.2.2.2.2.2.2.1, .int .i64 r.2.2.2.2.2.2.2.2.2.2.2.2.1, .int .u32 r.2.2.2.2.2.2.2.2.2.2.2.2.2]) ∧ St B w0 (G) w') := by
  unfold first.f at H
  refine calls_of (n := 3) (s := []) Try.func35 rfl rfl rfl rfl ?_ hw
  refine C.rs ?_
  refine J.alloc (L := [.int .i64 0, .int .u64 0, .int .i64 0, .string ByteArray.empty, .string ByteArray.empty, .int .u64 0, .int .i64 0, .int .i64 0, .int .i64 0, .string ByteArray.empty, .int .i64 0, .int .i64 0, .int .i64 0, .int .u32 0]) rfl ti36 rfl (fun g1 => ?_)
  refine J.nx ?_
  refine C.rs ?_
  refine J.p rfl rfl rfl rfl (Y.bld (cs := [.int .u64 1, .int .i64 1, .string (⟨#[107]⟩ : ByteArray), .string (⟨#[118]⟩ : ByteArray)]) rfl pl27 ti27 rfl (by kernel_rfl)) ?_
  refine J.p rfl rfl rfl rfl (Y.bld (cs := [.int .i64 1, .int .u64 1, .int .i64 1, .string (⟨#[107]⟩ : ByteArray), .string (⟨#[118]⟩ : ByteArray), .int .u64 0, .int .i64 0, .int .i64 0, .int .i64 0, .string ByteArray.empty, .int .i64 0, .int .i64 0, .int .i64 0, .int .u32 0]) rfl pl36 ti36 rfl (by kernel_rfl)) ?_
  refine J.stA (us := [.int .i64 1, .int .u64 1, .int .i64 1, .string (⟨#[107]⟩ : ByteArray), .string (⟨#[118]⟩ : ByteArray), .int .u64 0, .int .i64 0, .int .i64 0, .int .i64 0, .string ByteArray.empty, .int .i64 0, .int .i64 0, .int .i64 0, .int .u32 0]) (L' := [.int .i64 1, .int .u64 1, .int .i64 1, .string (⟨#[107]⟩ : ByteArray), .string (⟨#[118]⟩ : ByteArray), .int .u64 0, .int .i64 0, .int .i64 0, .int .i64 0, .string ByteArray.empty, .int .i64 0, .int .i64 0, .int .i64 0, .int .u32 0]) ti36 rfl rfl rfl rfl rfl rfl ?_
  refine J.nx ?_
  refine C.ret ?_
  obtain rfl := Option.some.inj H
  exact ret_okG (rvs := [.cell 0 36]) (vs := [.agg #[.int .i64 1, .int .u64 1, .int .i64 1, .string (⟨#[107]⟩ : ByteArray), .string (⟨#[118]⟩ : ByteArray), .int .u64 0, .int .i64 0, .int .i64 0, .int .i64 0, .string ByteArray.empty, .int .i64 0, .int .i64 0, .int .i64 0, .int .u32 0]]) rfl ⟨RV.cellA (us := [.int .i64 1, .int .u64 1, .int .i64 1, .string (⟨#[107]⟩ : ByteArray), .string (⟨#[118]⟩ : ByteArray), .int .u64 0, .int .i64 0, .int .i64 0, .int .i64 0, .string ByteArray.empty, .int .i64 0, .int .i64 0, .int .i64 0, .int .u32 0]) 0 Try.underlying36 rfl ti36 rfl rfl rfl rfl, trivial⟩ (fun w h => ⟨rfl, (St.pick [] [_] h rfl)⟩)
/-! ### salvor/salvortop.joined: function 31 -/
def joined.f (a0 : List Int) (a1 : List Int) : Option ((List Int)) := gd ((([] : List Int).length + a0.length) * 1 ≤ 140737488355328) (gd (((([] : List Int) ++ a0).length + a1.length) * 1 ≤ 140737488355328) (some ((([] : List Int) ++ a0) ++ a1)))
theorem joined.calls {B : Nat} {w0 : World} {G : List HP} (a0 : List Int) (a1 : List Int) (Aa0 : Option Addr) (ca0 : Nat) (Aa1 : Option Addr) (ca1 : Nat) (ha0 : RdG B w0 G Aa0 (a0.map (Value.int .u8))) (ka0 : a0.length ≤ ca0) (ha1 : RdG B w0 G Aa1 (a1.map (Value.int .u8))) (ka1 : a1.length ≤ ca1) (r : (List Int)) (H : joined.f a0 a1 = some r) (w : World) (hw : St B w0 (G) w) :
    Calls Try.prog 31 [.slice Aa0 a0.length ca0, .slice Aa1 a1.length ca1].toArray w (fun e w' => ∃ A0 c0, e = .returned (.slice A0 r.length c0) ∧ St B w0 (own 5 1 A0 c0 (r.map (Value.int .u8)) :: G) w') := by
  unfold joined.f at H
  refine calls_of (n := 12) (s := [(0, .slice Aa0 a0.length ca0), (1, .slice Aa1 a1.length ca1)]) Try.func31 rfl rfl rfl rfl ?_ hw
  refine C.rs ?_
  refine J.p rfl rfl rfl rfl (Y.asg rfl) ?_
  refine J.nx ?_
  refine C.rs ?_
  refine J.p rfl rfl rfl rfl (Y.asg rfl) ?_
  refine J.nx ?_
  refine C.rs ?_
  refine J.p rfl rfl rfl rfl (Y.mv rfl) ?_
  refine J.p rfl rfl rfl rfl (Y.mv rfl) ?_
  refine J.nilOwn 5 1 ?_
  obtain ⟨p4, H⟩ := gd_some H
  refine J.appL (enc := (Value.int .u8)) (xs := ([] : List Int)) (ys := a0) rfl Try.underlying22 ti5 rfl (by decide) rfl rfl (fun _ => rfl) (ha0.suf [_] rfl) p4 (fun A2 c3 => ?_)
  refine J.p rfl rfl rfl rfl (Y.asg rfl) ?_
  refine J.nx ?_
  refine C.rs ?_
  refine J.p rfl rfl rfl rfl (Y.mv rfl) ?_
  refine J.p rfl rfl rfl rfl (Y.mv rfl) ?_
  obtain ⟨p8, H⟩ := gd_some H
  refine J.appL (enc := (Value.int .u8)) (xs := (([] : List Int) ++ a0)) (ys := a1) rfl Try.underlying22 ti5 rfl (by decide) rfl rfl (fun _ => rfl) (ha1.suf [_] rfl) p8 (fun A6 c7 => ?_)
  refine J.p rfl rfl rfl rfl (Y.asg rfl) ?_
  refine J.nx ?_
  refine C.ret ?_
  obtain rfl := Option.some.inj H
  exact ret_ok (ks := [4]) rfl rfl (fun w h => ⟨A6, c7, rfl, h⟩)
/-! ### salvor/salvortop.pick: function 34 -/
def pick.f (a0 : Int) (a1 : Int) : Option (Int) := (if a0 < 0 then (some (IntKind.wrap .i64 (0 - (IntKind.wrap .i64 (a0 + 1))))) else (some a0)).bind fun o4 => gd (a1 ≠ (0 : Int)) (some (Int.tmod o4 a1))
theorem pick.calls {B : Nat} {w0 : World} {G : List HP} (a0 : Int) (a1 : Int) (r : Int) (H : pick.f a0 a1 = some r) (w : World) (hw : St B w0 (G) w) :
    Calls Try.prog 34 [.int .i64 a0, .int .i64 a1].toArray w (fun e w' => e = .returned (.int .i64 r) ∧ St B w0 (G) w') := by
  unfold pick.f at H
  refine calls_of (n := 13) (s := [(0, .int .i64 a0), (1, .int .i64 a1)]) Try.func34 rfl rfl rfl rfl ?_ hw
  refine C.rs ?_
  refine J.p rfl rfl rfl rfl (Y.asg rfl) ?_
  refine J.nx ?_
  refine C.seq ?_
  refine C.rs ?_
  refine J.p rfl rfl rfl rfl (Y.mv rfl) ?_
  refine J.p rfl rfl rfl rfl (Y.bin rfl rfl rfl) ?_
  refine J.nx ?_
  refine C.joinN H (fun (o4 : Int) (j5 : Unit) => [(0, .int .i64 o4), (1, .int .i64 a1)]) (fun (o4 : Int) (j5 : Unit) => G) (fun (o4 : Int) (j5 : Unit) => True) (fun o2 H HK3 => ?_) (fun o4 j5 H _ => ?_)
  · refine split2 H (fun c6 H => ?_) (fun c6 H => ?_)
    · refine C.condT (congrArg (fun b => some (Value.bool b)) (decide_eq_true c6)) ?_
      refine C.reg ?_
      refine J.p rfl rfl rfl rfl (Y.mv rfl) ?_
      refine J.p rfl rfl rfl rfl (Y.bin rfl rfl rfl) ?_
      refine J.p rfl rfl rfl rfl (Y.neg rfl) ?_
      refine J.p rfl rfl rfl rfl (Y.asg rfl) ?_
      refine J.nil ?_
      obtain rfl := Option.some.inj H
      exact N.meet (IntKind.wrap .i64 (0 - (IntKind.wrap .i64 (a0 + 1))), ()) ⟨HK3, trivial⟩ (by exact ⟨rfl, rfl, trivial⟩) (by exact fun w h => h)
    · refine C.condF (congrArg (fun b => some (Value.bool b)) (decide_eq_false c6)) ?_
      refine C.skip ?_
      obtain rfl := Option.some.inj H
      exact N.meet (a0, ()) ⟨HK3, trivial⟩ (by exact ⟨rfl, rfl, trivial⟩) (by exact fun w h => h)
  · refine N.at (s' := [(0, .int .i64 o4), (1, .int .i64 a1)]) (G' := G) rfl rfl ?_
    refine N.nx ?_
    refine C.rs ?_
    refine J.p rfl rfl rfl rfl (Y.mv rfl) ?_
    refine J.p rfl rfl rfl rfl (Y.mv rfl) ?_
    obtain ⟨p7, H⟩ := gd_some H
    refine J.p rfl rfl rfl rfl (Y.rem rfl rfl p7) ?_
    refine J.p rfl rfl rfl rfl (Y.asg rfl) ?_
    refine J.nx ?_
    refine C.ret ?_
    obtain rfl := Option.some.inj H
    exact ret_ok (ks := [4]) rfl rfl (fun w h => ⟨rfl, h⟩)
/-! ### salvor/salvorlaw4.same: function 17 -/
def same.l1 (a0 : List Int) (a1 : List Int) : Nat → (Int) → Option ((Bool) ⊕ (Unit))
  | 0, _ => none
  | k + 1, i55 => if i55 < (a0.length : Int) then (gd ((0 : Int) ≤ i55 ∧ i55 < (a0.length : Int)) (gd ((0 : Int) ≤ i55 ∧ i55 < (a0.length : Int)) (gd ((0 : Int) ≤ i55 ∧ i55 < (a1.length : Int)) (gd ((0 : Int) ≤ i55 ∧ i55 < (a1.length : Int)) (if (rd a0 i55) ≠ (rd a1 i55) then (some (.inl (false))) else (same.l1 a0 a1 k (IntKind.wrap .i64 (i55 + 1)))))))) else (some (.inr ()))
def same.f (K : Nat) (a0 : List Int) (a1 : List Int) : Option (Bool) := if (a0.length : Int) ≠ (a1.length : Int) then (some false) else (thn (same.l1 a0 a1 K 0) fun o28 => some true)
theorem same.calls {B : Nat} {w0 : World} {G : List HP} (K : Nat) (a0 : List Int) (a1 : List Int) (Aa0 : Option Addr) (ca0 : Nat) (Aa1 : Option Addr) (ca1 : Nat) (ha0 : RdG B w0 G Aa0 (a0.map (Value.int .u8))) (ka0 : a0.length ≤ ca0) (ha1 : RdG B w0 G Aa1 (a1.map (Value.int .u8))) (ka1 : a1.length ≤ ca1) (r : Bool) (H : same.f K a0 a1 = some r) (w : World) (hw : St B w0 (G) w) :
    Calls Try.prog 17 [.slice Aa0 a0.length ca0, .slice Aa1 a1.length ca1].toArray w (fun e w' => e = .returned (.bool r) ∧ St B w0 (G) w') := by
  unfold same.f at H
  refine calls_of (n := 26) (s := [(0, .slice Aa0 a0.length ca0), (1, .slice Aa1 a1.length ca1)]) Try.func17 rfl rfl rfl rfl ?_ hw
  refine C.rs ?_
  refine J.p rfl rfl rfl rfl (Y.asg rfl) ?_
  refine J.nx ?_
  refine C.seq ?_
  refine C.rs ?_
  refine J.p rfl rfl rfl rfl (Y.mv rfl) ?_
  refine J.p rfl rfl rfl rfl (Y.lenS Try.underlying22 rfl) ?_
  refine J.p rfl rfl rfl rfl (Y.mv rfl) ?_
  refine J.p rfl rfl rfl rfl (Y.lenS Try.underlying22 rfl) ?_
  refine J.p rfl rfl rfl rfl (Y.bin rfl rfl rfl) ?_
  refine J.nx ?_
  refine split2 H (fun c1 H => ?_) (fun c1 H => ?_)
  · refine C.condT (congrArg (fun b => some (Value.bool b)) (decide_eq_true c1)) ?_
    refine C.rs ?_
    refine J.p rfl rfl rfl rfl (Y.asg rfl) ?_
    refine J.nx ?_
    refine C.ret ?_
    obtain rfl := Option.some.inj H
    refine T.th ?_
    exact ret_ok (ks := [4]) rfl rfl (fun w h => ⟨rfl, h⟩)
  · refine C.condF (congrArg (fun b => some (Value.bool b)) (decide_eq_false c1)) ?_
    refine C.skip ?_
    refine N.nx ?_
    refine C.seq ?_
    refine C.rs ?_
    refine J.p rfl rfl rfl rfl (Y.asg rfl) ?_
    refine J.nx ?_
    refine C.joinNR H (fun (o28 : Unit) (j29 : Unit) => []) (fun (o28 : Unit) (j29 : Unit) => G) (fun (o28 : Unit) (j29 : Unit) => True) (fun o26 H HK27 => ?_) (fun o28 j29 H _ => ?_)
    · refine C.blk ?_
      refine C.loop (fun (i : Nat × (Int) × (Unit)) => [(0, .slice Aa0 a0.length ca0), (1, .slice Aa1 a1.length ca1), (5, .int .i64 i.2.1)]) (fun (i : Nat × (Int) × (Unit)) => G) (fun (i : Nat × (Int) × (Unit)) => same.l1 a0 a1 i.1 i.2.1 = some o26 ∧ (True)) (fun i => i.1) (K, 0, ()) ⟨H, trivial⟩ (by exact ⟨rfl, rfl, rfl, trivial⟩) (by exact fun w h => h) ?_
      rintro ⟨k67, i55, j56⟩ ⟨H, _⟩
      replace H : same.l1 a0 a1 k67 i55 = some o26 := H
      obtain ⟨k54, rfl⟩ : ∃ m, k67 = m + 1 := by cases k67 with | zero => exact absurd H (by simp [same.l1]) | succ m => exact ⟨m, rfl⟩
      rw [same.l1] at H
      refine C.at (s' := [(0, .slice Aa0 a0.length ca0), (1, .slice Aa1 a1.length ca1), (5, .int .i64 i55)]) (G' := G) rfl rfl ?_
      refine C.seq ?_
      refine C.rs ?_
      refine J.p rfl rfl rfl rfl (Y.mv rfl) ?_
      refine J.p rfl rfl rfl rfl (Y.mv rfl) ?_
      refine J.p rfl rfl rfl rfl (Y.lenS Try.underlying22 rfl) ?_
      refine J.p rfl rfl rfl rfl (Y.bin rfl rfl rfl) ?_
      refine J.nx ?_
      refine split2 H (fun c57 H => ?_) (fun c57 H => ?_)
      · refine C.condT (congrArg (fun b => some (Value.bool b)) (decide_eq_true c57)) ?_
        refine C.skip ?_
        refine N.nx ?_
        refine C.seq ?_
        refine C.blk ?_
        refine C.seq ?_
        refine C.drawn (fuel := 9) (ls := [false, false, false, false, false, false, false, false, false]) [] (G) mx rfl rfl ?_
        refine D.p (ls' := [true, false, false, false, false, false, false, false, false]) 0 rfl rfl rfl rfl (by kernel_rfl) rfl (Y.mv rfl) ?_
        refine D.p (ls' := [true, true, false, false, false, false, false, false, false]) 1 rfl rfl rfl rfl (by kernel_rfl) rfl (Y.mv rfl) ?_
        obtain ⟨p60, H⟩ := gd_some H
        refine D.know (ha0.some_ (j := Int.toNat i55) (by rw [List.length_map]; exact idx_lt p60)) (fun hh => ?_)
        obtain ⟨a58, ha59⟩ := hh
        refine D.p (ls' := [true, true, true, false, false, false, false, false, false]) 2 rfl rfl rfl rfl (by kernel_rfl) rfl (Y.ixa Try.underlying22 ti5 rfl rfl p60 ha59) ?_
        obtain ⟨p61, H⟩ := gd_some H
        refine D.r (ls' := [true, true, true, true, false, false, false, false, false]) 3 1 0 rfl rfl rfl rfl (by kernel_rfl) (by kernel_rfl) rfl rfl (Y.ldE Try.underlying5 rfl rfl ha59 p61 ha0) ?_
        refine D.p (ls' := [true, true, true, true, true, false, false, false, false]) 4 rfl rfl rfl rfl (by kernel_rfl) rfl (Y.mv rfl) ?_
        refine D.p (ls' := [true, true, true, true, true, true, false, false, false]) 5 rfl rfl rfl rfl (by kernel_rfl) rfl (Y.mv rfl) ?_
        obtain ⟨p64, H⟩ := gd_some H
        refine D.know (ha1.some_ (j := Int.toNat i55) (by rw [List.length_map]; exact idx_lt p64)) (fun hh => ?_)
        obtain ⟨a62, ha63⟩ := hh
        refine D.p (ls' := [true, true, true, true, true, true, true, false, false]) 6 rfl rfl rfl rfl (by kernel_rfl) rfl (Y.ixa Try.underlying22 ti5 rfl rfl p64 ha63) ?_
        obtain ⟨p65, H⟩ := gd_some H
        refine D.r (ls' := [true, true, true, true, true, true, true, true, false]) 7 1 0 rfl rfl rfl rfl (by kernel_rfl) (by kernel_rfl) rfl rfl (Y.ldE Try.underlying5 rfl rfl ha63 p65 ha1) ?_
        refine D.p (ls' := [true, true, true, true, true, true, true, true, true]) 8 rfl rfl rfl rfl (by kernel_rfl) rfl (Y.bin rfl rfl rfl) ?_
        refine D.nil (by kernel_rfl) ?_
        refine N.nx ?_
        refine split2 H (fun c66 H => ?_) (fun c66 H => ?_)
        · refine C.condT (congrArg (fun b => some (Value.bool b)) (decide_eq_true c66)) ?_
          refine C.rs ?_
          refine J.p rfl rfl rfl rfl (Y.asg rfl) ?_
          refine J.nx ?_
          refine C.ret ?_
          obtain rfl := Option.some.inj H
          obtain rfl := fin_inl HK27
          refine T.ib ?_
          refine T.th ?_
          refine T.th ?_
          refine T.ib ?_
          refine T.th ?_
          refine T.th ?_
          exact ret_ok (ks := [4]) rfl rfl (fun w h => ⟨rfl, h⟩)
        · refine C.condF (congrArg (fun b => some (Value.bool b)) (decide_eq_false c66)) ?_
          refine C.skip ?_
          refine N.ib ?_
          refine N.nx ?_
          refine C.reg ?_
          refine J.p rfl rfl rfl rfl (Y.mv rfl) ?_
          refine J.p rfl rfl rfl rfl (Y.bin rfl rfl rfl) ?_
          refine J.p rfl rfl rfl rfl (Y.asg rfl) ?_
          refine J.nil ?_
          exact N.again (k54, IntKind.wrap .i64 (i55 + 1), ()) ⟨H, trivial⟩ (Nat.lt_succ_self _) (by exact ⟨rfl, rfl, rfl, trivial⟩) (by exact fun w h => h)
      · refine C.condF (congrArg (fun b => some (Value.bool b)) (decide_eq_false c57)) ?_
        refine C.exit ?_
        refine X.th ?_
        refine X.th ?_
        refine X.hit ?_
        obtain rfl := Option.some.inj H
        exact N.meet ((), ()) ⟨fin_inr HK27, trivial⟩ (by exact trivial) (by exact fun w h => h)
    · refine N.at (s' := []) (G' := G) rfl rfl ?_
      refine N.nx ?_
      refine C.rs ?_
      refine J.p rfl rfl rfl rfl (Y.asg rfl) ?_
      refine J.nx ?_
      refine C.ret ?_
      obtain rfl := Option.some.inj H
      exact ret_ok (ks := [4]) rfl rfl (fun w h => ⟨rfl, h⟩)
end Go.Proofs.Ytakolnamobkkkaa
