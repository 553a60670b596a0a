/- Own text, printed by the lifting program: each Go function beside a plain function, and the proof that a call of the one comes to the other. Conditions: what came in can be read. -/
import Derived.Test.YtakolnamobkkkaaLiftQ
set_option linter.unusedVariables false
set_option linter.unusedSimpArgs false
set_option maxRecDepth 10000
set_option maxHeartbeats 4000000
namespace Go.Proofs.Ytakolnamobkkkaa
open Go Go.Sx
theorem pl29 : PL Try.prog 29 [(0, 1), (1, 1), (2, 1), (3, 1), (4, 1)] := PL.of Try.underlying29 (by kernel_rfl)
theorem pl34 : PL Try.prog 34 [(0, 1), (1, 3)] := PL.of Try.underlying34 (by kernel_rfl)
theorem go22 : GoF Try.prog 22 := GoF.of Try.func22 (by kernel_rfl) (by kernel_rfl)
theorem go27 : GoF Try.prog 27 := GoF.of Try.func27 (by kernel_rfl) (by kernel_rfl)
theorem go48 : GoF Try.prog 48 := GoF.of Try.func48 (by kernel_rfl) (by kernel_rfl)
theorem go49 : GoF Try.prog 49 := GoF.of Try.func49 (by kernel_rfl) (by kernel_rfl)
theorem go57 : GoF Try.prog 57 := GoF.of Try.func57 (by kernel_rfl) (by kernel_rfl)
theorem go74 : GoF Try.prog 74 := GoF.of Try.func74 (by kernel_rfl) (by kernel_rfl)
theorem go75 : GoF Try.prog 75 := GoF.of Try.func75 (by kernel_rfl) (by kernel_rfl)
/-! ### salvor/salvorref4.kindOf: function 74 -/
def kindOf.f (a0 : Int) : Option (Bool) := if a0 = 1 then (some true) else (some (decide (a0 = 2)))
theorem kindOf.calls {B : Nat} {w0 : World} {G : List HP} (a0 : Int) (r : Bool) (H : kindOf.f a0 = some r) (w : World) (hw : St B w0 (G) w) :
    Calls Try.prog 74 [.int .i64 a0].toArray w (fun e w' => e = .returned (.bool r) ∧ St B w0 (G) w') := by
  unfold kindOf.f at H
  refine calls_of (n := 9) (s := [(0, .int .i64 a0)]) Try.func74 rfl rfl rfl rfl ?_ hw
  refine C.rs ?_
  refine J.p rfl rfl rfl rfl (Y.asg rfl) ?_
  refine J.nx ?_
  refine C.rs ?_
  refine J.p rfl rfl rfl rfl (Y.mv rfl) ?_
  refine J.p rfl rfl rfl rfl (Y.bin rfl rfl rfl) ?_
  refine J.p rfl rfl rfl rfl (Y.mv rfl) ?_
  refine split2 H (fun c1 H => ?_) (fun c1 H => ?_)
  · refine J.as (k := 5) rfl (congrArg Value.bool (decide_eq_true c1)) ?_
    refine J.skip rfl rfl ?_
    refine J.skip rfl rfl ?_
    refine J.p rfl rfl rfl rfl (Y.pickT rfl rfl) ?_
    refine J.p rfl rfl rfl rfl (Y.asg rfl) ?_
    refine J.nx ?_
    refine C.ret ?_
    obtain rfl := Option.some.inj H
    exact ret_ok (ks := [2]) rfl rfl (fun w h => ⟨rfl, h⟩)
  · refine J.as (k := 5) rfl (congrArg Value.bool (decide_eq_false c1)) ?_
    refine J.p rfl rfl rfl rfl (Y.mv rfl) ?_
    refine J.p rfl rfl rfl rfl (Y.bin rfl rfl rfl) ?_
    refine J.p rfl rfl rfl rfl (Y.pickF rfl rfl) ?_
    refine J.p rfl rfl rfl rfl (Y.asg rfl) ?_
    refine J.nx ?_
    refine C.ret ?_
    obtain rfl := Option.some.inj H
    exact ret_ok (ks := [2]) rfl rfl (fun w h => ⟨rfl, h⟩)
/-! ### salvor/salvorref4.in: function 75 -/
def in_.f (a0 : Int) (a1 : Int) (a2 : Int) : Option (Bool) := if a1 ≤ a0 then (some (decide (a0 ≤ a2))) else (some false)
theorem in_.calls {B : Nat} {w0 : World} {G : List HP} (a0 : Int) (a1 : Int) (a2 : Int) (r : Bool) (H : in_.f a0 a1 a2 = some r) (w : World) (hw : St B w0 (G) w) :
    Calls Try.prog 75 [.int .i64 a0, .int .i64 a1, .int .i64 a2].toArray w (fun e w' => e = .returned (.bool r) ∧ St B w0 (G) w') := by
  unfold in_.f at H
  refine calls_of (n := 15) (s := [(0, .int .i64 a0), (1, .int .i64 a1), (2, .int .i64 a2)]) Try.func75 rfl rfl rfl rfl ?_ hw
  refine C.rs ?_
  refine J.p rfl rfl rfl rfl (Y.asg rfl) ?_
  refine J.nx ?_
  refine C.rs ?_
  refine J.p rfl rfl rfl rfl (Y.mv rfl) ?_
  refine J.p rfl rfl rfl rfl (Y.mv rfl) ?_
  refine J.p rfl rfl rfl rfl (Y.bin rfl rfl rfl) ?_
  refine J.p rfl rfl rfl rfl (Y.mv rfl) ?_
  refine split2 H (fun c1 H => ?_) (fun c1 H => ?_)
  · refine J.as (k := 10) rfl (congrArg Value.bool (decide_eq_true c1)) ?_
    refine J.p rfl rfl rfl rfl (Y.mv rfl) ?_
    refine J.p rfl rfl rfl rfl (Y.mv rfl) ?_
    refine J.p rfl rfl rfl rfl (Y.bin rfl rfl rfl) ?_
    refine J.p rfl rfl rfl rfl (Y.pickT rfl rfl) ?_
    refine J.p rfl rfl rfl rfl (Y.asg rfl) ?_
    refine J.nx ?_
    refine C.ret ?_
    obtain rfl := Option.some.inj H
    exact ret_ok (ks := [6]) rfl rfl (fun w h => ⟨rfl, h⟩)
  · refine J.as (k := 10) rfl (congrArg Value.bool (decide_eq_false c1)) ?_
    refine J.skip rfl rfl ?_
    refine J.skip rfl rfl ?_
    refine J.skip rfl rfl ?_
    refine J.p rfl rfl rfl rfl (Y.pickF rfl rfl) ?_
    refine J.p rfl rfl rfl rfl (Y.asg rfl) ?_
    refine J.nx ?_
    refine C.ret ?_
    obtain rfl := Option.some.inj H
    exact ret_ok (ks := [6]) rfl rfl (fun w h => ⟨rfl, h⟩)
/-! ### salvor/salvorref4.May: function 48 -/
def May.f (a0_0 : Int) (a0_1 : Int) (a0_2 : Int) (a0_3 : ByteArray) (a0_4 : ByteArray) (a0_5 : Int) (a0_6 : Int) (a0_7 : Int) (a0_8 : Int) (a0_9 : ByteArray) (a0_10 : Int) (a0_11 : Int) (a0_12 : Int) (a0_13 : Int) : Option (Int) := thn ((if a0_0 = 1 then (some (decide (a0_0 = 1))) else (some (decide (a0_0 = 2)))).bind fun o50 => if o50 = true then (if a0_2 ≠ a0_0 then (some (.inl (46))) else ((if a0_0 = 2 then (some (decide (0 < (a0_4.size : Int)))) else (some false)).bind fun o56 => (if o56 = true then (some 2049) else (some (a0_4.size : Int))).bind fun o64 => if a0_5 = 0 ∧ a0_6 = 0 ∧ a0_7 = 0 ∧ a0_8 = 0 ∧ a0_9 = ByteArray.empty ∧ True then (some (.inr (a0_1, a0_3, o64, !(decide (a0_10 = 0 ∧ (a0_11 = 0 ∧ a0_12 = 0 ∧ a0_13 = 0 ∧ True) ∧ True))))) else (some (.inr (a0_1, a0_3, o64, true))))) else (if a0_0 = 3 then ((kindOf.f a0_6).bind fun t69 => if t69 = true then ((in_.f a0_7 0 4194304).bind fun t72 => (in_.f a0_8 1 4194304).bind fun t74 => if t72 = true then (if t74 = true then (if a0_1 = 0 ∧ a0_2 = 0 ∧ a0_3 = ByteArray.empty ∧ a0_4 = ByteArray.empty ∧ True then (some (.inr (a0_5, a0_9, 0, !(decide (a0_10 = 0 ∧ (a0_11 = 0 ∧ a0_12 = 0 ∧ a0_13 = 0 ∧ True) ∧ True))))) else (some (.inr (a0_5, a0_9, 0, true)))) else (some (.inr (a0_5, a0_9, 0, true)))) else (some (.inr (a0_5, a0_9, 0, true)))) else (some (.inl (46)))) else (if a0_0 = 4 then ((in_.f a0_10 0 4194304).bind fun t83 => (in_.f a0_11 0 4194304).bind fun t85 => (in_.f a0_12 0 4194304).bind fun t87 => if t83 = true then (if t85 = true then (if t87 = true then (if a0_1 = 0 ∧ a0_2 = 0 ∧ a0_3 = ByteArray.empty ∧ a0_4 = ByteArray.empty ∧ True then (some (.inr (1, (⟨#[107]⟩ : ByteArray), 0, !(decide (a0_5 = 0 ∧ a0_6 = 0 ∧ a0_7 = 0 ∧ a0_8 = 0 ∧ a0_9 = ByteArray.empty ∧ True))))) else (some (.inr (1, (⟨#[107]⟩ : ByteArray), 0, true)))) else (some (.inr (1, (⟨#[107]⟩ : ByteArray), 0, true)))) else (some (.inr (1, (⟨#[107]⟩ : ByteArray), 0, true)))) else (some (.inr (1, (⟨#[107]⟩ : ByteArray), 0, true)))) else (some (.inl (46)))))) fun o45 => if o45.1 = 0 then (some 47) else ((if (o45.2.1.size : Int) = 0 then (some true) else (some (decide (64 < (o45.2.1.size : Int))))).bind fun o98 => if o98 = true then (some 48) else (if 2048 < o45.2.2.1 then (some 49) else (if o45.2.2.2 = true then (some 40) else (some 0))))
theorem May.calls {B : Nat} {w0 : World} {G : List HP} (a0_0 : Int) (a0_1 : Int) (a0_2 : Int) (a0_3 : ByteArray) (a0_4 : ByteArray) (a0_5 : Int) (a0_6 : Int) (a0_7 : Int) (a0_8 : Int) (a0_9 : ByteArray) (a0_10 : Int) (a0_11 : Int) (a0_12 : Int) (a0_13 : Int) (r : Int) (H : May.f a0_0 a0_1 a0_2 a0_3 a0_4 a0_5 a0_6 a0_7 a0_8 a0_9 a0_10 a0_11 a0_12 a0_13 = some r) (w : World) (hw : St B w0 (G) w) :
    Calls Try.prog 48 [.agg #[.int .i64 a0_0, .int .u64 a0_1, .int .i64 a0_2, .string a0_3, .string a0_4, .int .u64 a0_5, .int .i64 a0_6, .int .i64 a0_7, .int .i64 a0_8, .string a0_9, .int .i64 a0_10, .int .i64 a0_11, .int .i64 a0_12, .int .u32 a0_13]].toArray w (fun e w' => e = .returned (.int .i64 r) ∧ St B w0 (G) w') := by
  unfold May.f at H
  refine calls_of (n := 146) (s := [(0, .agg #[.int .i64 a0_0, .int .u64 a0_1, .int .i64 a0_2, .string a0_3, .string a0_4, .int .u64 a0_5, .int .i64 a0_6, .int .i64 a0_7, .int .i64 a0_8, .string a0_9, .int .i64 a0_10, .int .i64 a0_11, .int .i64 a0_12, .int .u32 a0_13])]) Try.func48 rfl rfl rfl rfl ?_ hw
  refine C.rs ?_
  refine J.box (L := [.int .i64 a0_0, .int .u64 a0_1, .int .i64 a0_2, .string a0_3, .string a0_4, .int .u64 a0_5, .int .i64 a0_6, .int .i64 a0_7, .int .i64 a0_8, .string a0_9, .int .i64 a0_10, .int .i64 a0_11, .int .i64 a0_12, .int .u32 a0_13]) rfl rfl rfl (fun g1 => ?_)
  refine J.p rfl rfl rfl rfl (Y.asg rfl) ?_
  refine J.nx ?_
  refine C.rs ?_
  refine J.p rfl rfl rfl rfl (Y.asg rfl) ?_
  refine J.nx ?_
  refine C.rs ?_
  refine J.p rfl rfl rfl rfl (Y.asg rfl) ?_
  refine J.nx ?_
  refine C.rs ?_
  refine J.p rfl rfl rfl rfl (Y.asg rfl) ?_
  refine J.nx ?_
  refine C.rs ?_
  refine J.p rfl rfl rfl rfl (Y.asg rfl) ?_
  refine J.nx ?_
  refine C.seq ?_
  refine C.rs ?_
  refine J.p rfl rfl rfl rfl (Y.fa0 fa36_0 rfl rfl) ?_
  refine J.r rfl rfl rfl rfl (Y.ldC 0 Try.underlying24 rfl rfl rfl rfl) ?_
  refine J.nx ?_
  refine C.joinNR H (fun (o45 : Int × ByteArray × Int × Bool) (j46 : Unit) => [(3, .int .u64 o45.1), (4, .string o45.2.1), (5, .int .i64 o45.2.2.1), (6, .bool o45.2.2.2)]) (fun (o45 : Int × ByteArray × Int × Bool) (j46 : Unit) => G) (fun (o45 : Int × ByteArray × Int × Bool) (j46 : Unit) => True) (fun o43 H HK44 => ?_) (fun o45 j46 H _ => ?_)
  · refine C.blk ?_
    refine C.seq ?_
    refine C.rs ?_
    refine J.p rfl rfl rfl rfl (Y.bin rfl rfl rfl) ?_
    refine J.p rfl rfl rfl rfl (Y.asg rfl) ?_
    refine J.nx ?_
    refine C.joinN H (fun (o50 : Bool) (j51 : Unit) => [(1, .pointer (some ⟨g1, 0, none⟩)), (3, .int .u64 1), (4, .string (⟨#[107]⟩ : ByteArray)), (5, .int .i64 0), (14, .int .i64 a0_0), (15, .bool o50)]) (fun (o50 : Bool) (j51 : Unit) => cells g1 36 [.int .i64 a0_0, .int .u64 a0_1, .int .i64 a0_2, .string a0_3, .string a0_4, .int .u64 a0_5, .int .i64 a0_6, .int .i64 a0_7, .int .i64 a0_8, .string a0_9, .int .i64 a0_10, .int .i64 a0_11, .int .i64 a0_12, .int .u32 a0_13] :: G) (fun (o50 : Bool) (j51 : Unit) => True) (fun o48 H HK49 => ?_) (fun o50 j51 H _ => ?_)
    · refine split2 H (fun c52 H => ?_) (fun c52 H => ?_)
      · refine C.condT (congrArg (fun b => some (Value.bool b)) (decide_eq_true c52)) ?_
        refine C.skip ?_
        obtain rfl := Option.some.inj H
        exact N.meet (decide (a0_0 = 1), ()) ⟨HK49, trivial⟩ (by exact ⟨rfl, rfl, rfl, rfl, rfl, rfl, trivial⟩) (by exact fun w h => h)
      · refine C.condF (congrArg (fun b => some (Value.bool b)) (decide_eq_false c52)) ?_
        refine C.reg ?_
        refine J.p rfl rfl rfl rfl (Y.bin rfl rfl rfl) ?_
        refine J.p rfl rfl rfl rfl (Y.asg rfl) ?_
        refine J.nil ?_
        obtain rfl := Option.some.inj H
        exact N.meet (decide (a0_0 = 2), ()) ⟨HK49, trivial⟩ (by exact ⟨rfl, rfl, rfl, rfl, rfl, rfl, trivial⟩) (by exact fun w h => h)
    · refine N.at (s' := [(1, .pointer (some ⟨g1, 0, none⟩)), (3, .int .u64 1), (4, .string (⟨#[107]⟩ : ByteArray)), (5, .int .i64 0), (14, .int .i64 a0_0), (15, .bool o50)]) (G' := cells g1 36 [.int .i64 a0_0, .int .u64 a0_1, .int .i64 a0_2, .string a0_3, .string a0_4, .int .u64 a0_5, .int .i64 a0_6, .int .i64 a0_7, .int .i64 a0_8, .string a0_9, .int .i64 a0_10, .int .i64 a0_11, .int .i64 a0_12, .int .u32 a0_13] :: G) rfl rfl ?_
      refine N.nx ?_
      refine split2 H (fun c53 H => ?_) (fun c53 H => ?_)
      · refine C.condT (congrArg (fun b => some (Value.bool b)) (c53)) ?_
        refine C.seq ?_
        refine C.rs ?_
        refine J.p rfl rfl rfl rfl (Y.fa0 fa36_1 rfl rfl) ?_
        refine J.p rfl rfl rfl rfl (Y.fa0 fa27_1 rfl rfl) ?_
        refine J.r rfl rfl rfl rfl (Y.ldC 0 Try.underlying24 rfl rfl rfl rfl) ?_
        refine J.p rfl rfl rfl rfl (Y.fa0 fa36_0 rfl rfl) ?_
        refine J.r rfl rfl rfl rfl (Y.ldC 0 Try.underlying24 rfl rfl rfl rfl) ?_
        refine J.p rfl rfl rfl rfl (Y.bin rfl rfl rfl) ?_
        refine J.nx ?_
        refine split2 H (fun c54 H => ?_) (fun c54 H => ?_)
        · refine C.condT (congrArg (fun b => some (Value.bool b)) (decide_eq_true c54)) ?_
          refine C.rs ?_
          refine J.p rfl rfl rfl rfl (Y.asg rfl) ?_
          refine J.nx ?_
          refine C.ret ?_
          obtain rfl := Option.some.inj H
          obtain rfl := fin_inl HK44
          refine T.th ?_
          refine T.ib ?_
          refine T.th ?_
          refine T.th ?_
          exact ret_ok (ks := [2]) rfl rfl (fun w h => ⟨rfl, (St.pick [] [_] h rfl)⟩)
        · refine C.condF (congrArg (fun b => some (Value.bool b)) (decide_eq_false c54)) ?_
          refine C.skip ?_
          refine N.nx ?_
          refine C.rs ?_
          refine J.p rfl rfl rfl rfl (Y.fa0 fa36_1 rfl rfl) ?_
          refine J.p rfl rfl rfl rfl (Y.fa0 fa27_0 rfl rfl) ?_
          refine J.r rfl rfl rfl rfl (Y.ldC 0 Try.underlying25 rfl rfl rfl rfl) ?_
          refine J.p rfl rfl rfl rfl (Y.asg rfl) ?_
          refine J.nx ?_
          refine C.rs ?_
          refine J.p rfl rfl rfl rfl (Y.fa0 fa36_1 rfl rfl) ?_
          refine J.p rfl rfl rfl rfl (Y.fa0 fa27_2 rfl rfl) ?_
          refine J.r rfl rfl rfl rfl (Y.ldC 0 Try.underlying9 rfl rfl rfl rfl) ?_
          refine J.p rfl rfl rfl rfl (Y.asg rfl) ?_
          refine J.nx ?_
          refine C.rs ?_
          refine J.p rfl rfl rfl rfl (Y.fa0 fa36_1 rfl rfl) ?_
          refine J.p rfl rfl rfl rfl (Y.fa0 fa27_3 rfl rfl) ?_
          refine J.r rfl rfl rfl rfl (Y.ldC 0 Try.underlying9 rfl rfl rfl rfl) ?_
          refine J.p rfl rfl rfl rfl (Y.lenT Try.underlying9 rfl) ?_
          refine J.p rfl rfl rfl rfl (Y.asg rfl) ?_
          refine J.nx ?_
          refine C.seq ?_
          refine C.rs ?_
          refine J.joinB H (fun (o56 : Bool) (j57 : Unit) => [(1, .pointer (some ⟨g1, 0, none⟩)), (3, .int .u64 a0_1), (4, .string a0_3), (5, .int .i64 (a0_4.size : Int)), (40, .bool o56)]) (fun (o56 : Bool) (j57 : Unit) => cells g1 36 [.int .i64 a0_0, .int .u64 a0_1, .int .i64 a0_2, .string a0_3, .string a0_4, .int .u64 a0_5, .int .i64 a0_6, .int .i64 a0_7, .int .i64 a0_8, .string a0_9, .int .i64 a0_10, .int .i64 a0_11, .int .i64 a0_12, .int .u32 a0_13] :: G) (fun (o56 : Bool) (j57 : Unit) => True) (fun o58 H HK59 => ?_) (fun o56 j57 H _ => ?_)
          · refine J.p rfl rfl rfl rfl (Y.fa0 fa36_0 rfl rfl) ?_
            refine J.r rfl rfl rfl rfl (Y.ldC 0 Try.underlying24 rfl rfl rfl rfl) ?_
            refine J.p rfl rfl rfl rfl (Y.bin rfl rfl rfl) ?_
            refine J.p rfl rfl rfl rfl (Y.mv rfl) ?_
            refine split2 H (fun c60 H => ?_) (fun c60 H => ?_)
            · refine J.as (k := 37) rfl (congrArg Value.bool (decide_eq_true c60)) ?_
              refine J.p rfl rfl rfl rfl (Y.mv rfl) ?_
              refine J.p rfl rfl rfl rfl (Y.bin rfl rfl rfl) ?_
              refine J.p rfl rfl rfl rfl (Y.pickT rfl rfl) ?_
              refine J.nil ?_
              obtain rfl := Option.some.inj H
              exact N.meet (decide (0 < (a0_4.size : Int)), ()) ⟨HK59, trivial⟩ (by exact ⟨rfl, rfl, rfl, rfl, rfl, trivial⟩) (by exact fun w h => h)
            · refine J.as (k := 37) rfl (congrArg Value.bool (decide_eq_false c60)) ?_
              refine J.skip rfl rfl ?_
              refine J.skip rfl rfl ?_
              refine J.p rfl rfl rfl rfl (Y.pickF rfl rfl) ?_
              refine J.nil ?_
              obtain rfl := Option.some.inj H
              exact N.meet (false, ()) ⟨HK59, trivial⟩ (by exact ⟨rfl, rfl, rfl, rfl, rfl, trivial⟩) (by exact fun w h => h)
          · refine C.at (s' := [(1, .pointer (some ⟨g1, 0, none⟩)), (3, .int .u64 a0_1), (4, .string a0_3), (5, .int .i64 (a0_4.size : Int)), (40, .bool o56)]) (G' := cells g1 36 [.int .i64 a0_0, .int .u64 a0_1, .int .i64 a0_2, .string a0_3, .string a0_4, .int .u64 a0_5, .int .i64 a0_6, .int .i64 a0_7, .int .i64 a0_8, .string a0_9, .int .i64 a0_10, .int .i64 a0_11, .int .i64 a0_12, .int .u32 a0_13] :: G) rfl rfl ?_
            refine C.joinN H (fun (o64 : Int) (j65 : Unit) => [(1, .pointer (some ⟨g1, 0, none⟩)), (3, .int .u64 a0_1), (4, .string a0_3), (5, .int .i64 o64)]) (fun (o64 : Int) (j65 : Unit) => cells g1 36 [.int .i64 a0_0, .int .u64 a0_1, .int .i64 a0_2, .string a0_3, .string a0_4, .int .u64 a0_5, .int .i64 a0_6, .int .i64 a0_7, .int .i64 a0_8, .string a0_9, .int .i64 a0_10, .int .i64 a0_11, .int .i64 a0_12, .int .u32 a0_13] :: G) (fun (o64 : Int) (j65 : Unit) => True) (fun o62 H HK63 => ?_) (fun o64 j65 H _ => ?_)
            · refine split2 H (fun c66 H => ?_) (fun c66 H => ?_)
              · refine C.condT (congrArg (fun b => some (Value.bool b)) (c66)) ?_
                refine C.reg ?_
                refine J.p rfl rfl rfl rfl (Y.asg rfl) ?_
                refine J.nil ?_
                obtain rfl := Option.some.inj H
                exact N.meet (2049, ()) ⟨HK63, trivial⟩ (by exact ⟨rfl, rfl, rfl, rfl, trivial⟩) (by exact fun w h => h)
              · refine C.condF (congrArg (fun b => some (Value.bool b)) (nt c66)) ?_
                refine C.skip ?_
                obtain rfl := Option.some.inj H
                exact N.meet ((a0_4.size : Int), ()) ⟨HK63, trivial⟩ (by exact ⟨rfl, rfl, rfl, rfl, trivial⟩) (by exact fun w h => h)
            · refine N.at (s' := [(1, .pointer (some ⟨g1, 0, none⟩)), (3, .int .u64 a0_1), (4, .string a0_3), (5, .int .i64 o64)]) (G' := cells g1 36 [.int .i64 a0_0, .int .u64 a0_1, .int .i64 a0_2, .string a0_3, .string a0_4, .int .u64 a0_5, .int .i64 a0_6, .int .i64 a0_7, .int .i64 a0_8, .string a0_9, .int .i64 a0_10, .int .i64 a0_11, .int .i64 a0_12, .int .u32 a0_13] :: G) rfl rfl ?_
              refine N.nx ?_
              refine C.reg ?_
              refine J.p rfl rfl rfl rfl (Y.fa0 fa36_2 rfl rfl) ?_
              refine J.r rfl rfl rfl rfl (Y.ldCA (us := [.int .u64 a0_5, .int .i64 a0_6, .int .i64 a0_7, .int .i64 a0_8, .string a0_9]) 0 Try.underlying29 rfl ti29 rfl rfl rfl rfl) ?_
              refine J.p rfl rfl rfl rfl (Y.bld (cs := [.int .u64 0, .int .i64 0, .int .i64 0, .int .i64 0, .string ByteArray.empty]) rfl pl29 ti29 rfl (by kernel_rfl)) ?_
              refine J.p rfl rfl rfl rfl (Y.nest Try.eqGuardType29 rfl (EqV.struct Try.underlying29 Try.stoodInHeld29 (EqFs.cons rfl (part_one (v := .int .u64 a0_5) Try.underlying25 rfl (by kernel_rfl)) (part_one (v := .int .u64 0) Try.underlying25 rfl (by kernel_rfl)) (EqV.int 0 Try.underlying25) (EqFs.cons rfl (part_one (v := .int .i64 a0_6) Try.underlying24 rfl (by kernel_rfl)) (part_one (v := .int .i64 0) Try.underlying24 rfl (by kernel_rfl)) (EqV.int 0 Try.underlying24) (EqFs.cons rfl (part_one (v := .int .i64 a0_7) Try.underlying3 rfl (by kernel_rfl)) (part_one (v := .int .i64 0) Try.underlying3 rfl (by kernel_rfl)) (EqV.int 0 Try.underlying3) (EqFs.cons rfl (part_one (v := .int .i64 a0_8) Try.underlying3 rfl (by kernel_rfl)) (part_one (v := .int .i64 0) Try.underlying3 rfl (by kernel_rfl)) (EqV.int 0 Try.underlying3) (EqFs.cons rfl (part_one (v := .string a0_9) Try.underlying9 rfl (by kernel_rfl)) (part_one (v := .string ByteArray.empty) Try.underlying9 rfl (by kernel_rfl)) (EqV.str 0 Try.underlying9) EqFs.nil)))))) rfl rfl) ?_
              refine J.p rfl rfl rfl rfl (Y.mv rfl) ?_
              refine split2 H (fun c67 H => ?_) (fun c67 H => ?_)
              · refine J.as (k := 45) rfl (congrArg Value.bool (congrArg Bool.not (decide_eq_true c67))) ?_
                refine J.p rfl rfl rfl rfl (Y.fa0 fa36_3 rfl rfl) ?_
                refine J.r rfl rfl rfl rfl (Y.ldCA (us := [.int .i64 a0_10, .int .i64 a0_11, .int .i64 a0_12, .int .u32 a0_13]) 0 Try.underlying34 rfl ti34 rfl rfl rfl rfl) ?_
                refine J.p rfl rfl rfl rfl (Y.bld (cs := [.int .i64 0, .int .i64 0, .int .i64 0, .int .u32 0]) rfl pl34 ti34 rfl (by kernel_rfl)) ?_
                refine J.p rfl rfl rfl rfl (Y.nest Try.eqGuardType34 rfl (EqV.struct Try.underlying34 Try.stoodInHeld34 (EqFs.cons rfl (part_one (v := .int .i64 a0_10) Try.underlying3 rfl (by kernel_rfl)) (part_one (v := .int .i64 0) Try.underlying3 rfl (by kernel_rfl)) (EqV.int 1 Try.underlying3) (EqFs.cons rfl (part_agg (us := #[.int .i64 a0_11, .int .i64 a0_12, .int .u32 a0_13]) Try.underlying32 rfl ti32 (by kernel_rfl)) (part_agg (us := #[.int .i64 0, .int .i64 0, .int .u32 0]) Try.underlying32 rfl ti32 (by kernel_rfl)) (EqV.struct Try.underlying32 Try.stoodInHeld32 (EqFs.cons rfl (part_one (v := .int .i64 a0_11) Try.underlying3 rfl (by kernel_rfl)) (part_one (v := .int .i64 0) Try.underlying3 rfl (by kernel_rfl)) (EqV.int 0 Try.underlying3) (EqFs.cons rfl (part_one (v := .int .i64 a0_12) Try.underlying3 rfl (by kernel_rfl)) (part_one (v := .int .i64 0) Try.underlying3 rfl (by kernel_rfl)) (EqV.int 0 Try.underlying3) (EqFs.cons rfl (part_one (v := .int .u32 a0_13) Try.underlying30 rfl (by kernel_rfl)) (part_one (v := .int .u32 0) Try.underlying30 rfl (by kernel_rfl)) (EqV.int 0 Try.underlying30) EqFs.nil)))) EqFs.nil))) rfl rfl) ?_
                refine J.p rfl rfl rfl rfl (Y.pickF rfl rfl) ?_
                refine J.p rfl rfl rfl rfl (Y.asg rfl) ?_
                refine J.nil ?_
                refine N.ib ?_
                obtain rfl := Option.some.inj H
                exact N.meet ((a0_1, a0_3, o64, !(decide (a0_10 = 0 ∧ (a0_11 = 0 ∧ a0_12 = 0 ∧ a0_13 = 0 ∧ True) ∧ True))), ()) ⟨fin_inr HK44, trivial⟩ (by exact ⟨rfl, rfl, rfl, rfl, trivial⟩) (by exact fun w h => (St.pick [] [_] h rfl))
              · refine J.as (k := 45) rfl (congrArg Value.bool (congrArg Bool.not (decide_eq_false c67))) ?_
                refine J.skip rfl rfl ?_
                refine J.skip rfl rfl ?_
                refine J.skip rfl rfl ?_
                refine J.skip rfl rfl ?_
                refine J.p rfl rfl rfl rfl (Y.pickT rfl rfl) ?_
                refine J.p rfl rfl rfl rfl (Y.asg rfl) ?_
                refine J.nil ?_
                refine N.ib ?_
                obtain rfl := Option.some.inj H
                exact N.meet ((a0_1, a0_3, o64, true), ()) ⟨fin_inr HK44, trivial⟩ (by exact ⟨rfl, rfl, rfl, rfl, trivial⟩) (by exact fun w h => (St.pick [] [_] h rfl))
      · refine C.condF (congrArg (fun b => some (Value.bool b)) (nt c53)) ?_
        refine C.rs ?_
        refine J.p rfl rfl rfl rfl (Y.bin rfl rfl rfl) ?_
        refine J.p rfl rfl rfl rfl (Y.asg rfl) ?_
        refine J.nx ?_
        refine split2 H (fun c68 H => ?_) (fun c68 H => ?_)
        · refine C.condT (congrArg (fun b => some (Value.bool b)) (decide_eq_true c68)) ?_
          refine C.rs ?_
          refine J.p rfl rfl rfl rfl (Y.fa0 fa36_2 rfl rfl) ?_
          refine J.p rfl rfl rfl rfl (Y.fa0 fa29_1 rfl rfl) ?_
          refine J.r rfl rfl rfl rfl (Y.ldC 0 Try.underlying24 rfl rfl rfl rfl) ?_
          obtain ⟨t69, hC70, H⟩ := bind_some H
          refine J.call (us := []) (cap := []) rfl rfl rfl go74 (fun w hw => by have hcc := kindOf.calls a0_6 t69 hC70 w hw; exact hcc) (fun e w1 h1 => ?_)
          obtain ⟨rfl, hw81⟩ := h1
          refine ⟨_, _, rfl, hw81, ?_⟩
          refine J.p rfl rfl rfl rfl (Y.asg rfl) ?_
          refine J.nx ?_
          refine C.seq ?_
          refine C.rs ?_
          refine J.p rfl rfl rfl rfl (Y.mv rfl) ?_
          refine J.p rfl rfl rfl rfl (Y.notb rfl) ?_
          refine J.nx ?_
          refine split2 H (fun c71 H => ?_) (fun c71 H => ?_)
          · refine C.condF (congrArg (fun b => some (Value.bool b)) (congrArg Bool.not (c71))) ?_
            refine C.skip ?_
            refine N.nx ?_
            refine C.rs ?_
            refine J.p rfl rfl rfl rfl (Y.fa0 fa36_2 rfl rfl) ?_
            refine J.p rfl rfl rfl rfl (Y.fa0 fa29_0 rfl rfl) ?_
            refine J.r rfl rfl rfl rfl (Y.ldC 0 Try.underlying25 rfl rfl rfl rfl) ?_
            refine J.p rfl rfl rfl rfl (Y.asg rfl) ?_
            refine J.nx ?_
            refine C.rs ?_
            refine J.p rfl rfl rfl rfl (Y.fa0 fa36_2 rfl rfl) ?_
            refine J.p rfl rfl rfl rfl (Y.fa0 fa29_4 rfl rfl) ?_
            refine J.r rfl rfl rfl rfl (Y.ldC 0 Try.underlying9 rfl rfl rfl rfl) ?_
            refine J.p rfl rfl rfl rfl (Y.asg rfl) ?_
            refine J.nx ?_
            refine C.rs ?_
            refine J.p rfl rfl rfl rfl (Y.fa0 fa36_2 rfl rfl) ?_
            refine J.p rfl rfl rfl rfl (Y.fa0 fa29_2 rfl rfl) ?_
            refine J.r rfl rfl rfl rfl (Y.ldC 0 Try.underlying3 rfl rfl rfl rfl) ?_
            obtain ⟨t72, hC73, H⟩ := bind_some H
            refine J.call (us := []) (cap := []) rfl rfl rfl go75 (fun w hw => by have hcc := in_.calls a0_7 0 4194304 t72 hC73 w hw; exact hcc) (fun e w1 h1 => ?_)
            obtain ⟨rfl, hw80⟩ := h1
            refine ⟨_, _, rfl, hw80, ?_⟩
            refine J.p rfl rfl rfl rfl (Y.asg rfl) ?_
            refine J.nx ?_
            refine C.rs ?_
            refine J.p rfl rfl rfl rfl (Y.fa0 fa36_2 rfl rfl) ?_
            refine J.p rfl rfl rfl rfl (Y.fa0 fa29_3 rfl rfl) ?_
            refine J.r rfl rfl rfl rfl (Y.ldC 0 Try.underlying3 rfl rfl rfl rfl) ?_
            obtain ⟨t74, hC75, H⟩ := bind_some H
            refine J.call (us := []) (cap := []) rfl rfl rfl go75 (fun w hw => by have hcc := in_.calls a0_8 1 4194304 t74 hC75 w hw; exact hcc) (fun e w1 h1 => ?_)
            obtain ⟨rfl, hw79⟩ := h1
            refine ⟨_, _, rfl, hw79, ?_⟩
            refine J.p rfl rfl rfl rfl (Y.asg rfl) ?_
            refine J.nx ?_
            refine C.reg ?_
            refine J.p rfl rfl rfl rfl (Y.mv rfl) ?_
            refine J.p rfl rfl rfl rfl (Y.notb rfl) ?_
            refine J.p rfl rfl rfl rfl (Y.mv rfl) ?_
            refine split2 H (fun c76 H => ?_) (fun c76 H => ?_)
            · refine J.as (k := 75) rfl (congrArg Value.bool (congrArg Bool.not (c76))) ?_
              refine J.p rfl rfl rfl rfl (Y.mv rfl) ?_
              refine J.p rfl rfl rfl rfl (Y.notb rfl) ?_
              refine J.p rfl rfl rfl rfl (Y.pickF rfl rfl) ?_
              refine J.p rfl rfl rfl rfl (Y.mv rfl) ?_
              refine split2 H (fun c77 H => ?_) (fun c77 H => ?_)
              · refine J.as (k := 79) rfl (congrArg Value.bool (congrArg Bool.not (c77))) ?_
                refine J.p rfl rfl rfl rfl (Y.fa0 fa36_1 rfl rfl) ?_
                refine J.r rfl rfl rfl rfl (Y.ldCA (us := [.int .u64 a0_1, .int .i64 a0_2, .string a0_3, .string a0_4]) 0 Try.underlying27 rfl ti27 rfl rfl rfl rfl) ?_
                refine J.p rfl rfl rfl rfl (Y.bld (cs := [.int .u64 0, .int .i64 0, .string ByteArray.empty, .string ByteArray.empty]) rfl pl27 ti27 rfl (by kernel_rfl)) ?_
                refine J.p rfl rfl rfl rfl (Y.nest Try.eqGuardType27 rfl (EqV.struct Try.underlying27 Try.stoodInHeld27 (EqFs.cons rfl (part_one (v := .int .u64 a0_1) Try.underlying25 rfl (by kernel_rfl)) (part_one (v := .int .u64 0) Try.underlying25 rfl (by kernel_rfl)) (EqV.int 0 Try.underlying25) (EqFs.cons rfl (part_one (v := .int .i64 a0_2) Try.underlying24 rfl (by kernel_rfl)) (part_one (v := .int .i64 0) Try.underlying24 rfl (by kernel_rfl)) (EqV.int 0 Try.underlying24) (EqFs.cons rfl (part_one (v := .string a0_3) Try.underlying9 rfl (by kernel_rfl)) (part_one (v := .string ByteArray.empty) Try.underlying9 rfl (by kernel_rfl)) (EqV.str 0 Try.underlying9) (EqFs.cons rfl (part_one (v := .string a0_4) Try.underlying9 rfl (by kernel_rfl)) (part_one (v := .string ByteArray.empty) Try.underlying9 rfl (by kernel_rfl)) (EqV.str 0 Try.underlying9) EqFs.nil))))) rfl rfl) ?_
                refine J.p rfl rfl rfl rfl (Y.pickF rfl rfl) ?_
                refine J.p rfl rfl rfl rfl (Y.mv rfl) ?_
                refine split2 H (fun c78 H => ?_) (fun c78 H => ?_)
                · refine J.as (k := 85) rfl (congrArg Value.bool (congrArg Bool.not (decide_eq_true c78))) ?_
                  refine J.p rfl rfl rfl rfl (Y.fa0 fa36_3 rfl rfl) ?_
                  refine J.r rfl rfl rfl rfl (Y.ldCA (us := [.int .i64 a0_10, .int .i64 a0_11, .int .i64 a0_12, .int .u32 a0_13]) 0 Try.underlying34 rfl ti34 rfl rfl rfl rfl) ?_
                  refine J.p rfl rfl rfl rfl (Y.bld (cs := [.int .i64 0, .int .i64 0, .int .i64 0, .int .u32 0]) rfl pl34 ti34 rfl (by kernel_rfl)) ?_
                  refine J.p rfl rfl rfl rfl (Y.nest Try.eqGuardType34 rfl (EqV.struct Try.underlying34 Try.stoodInHeld34 (EqFs.cons rfl (part_one (v := .int .i64 a0_10) Try.underlying3 rfl (by kernel_rfl)) (part_one (v := .int .i64 0) Try.underlying3 rfl (by kernel_rfl)) (EqV.int 1 Try.underlying3) (EqFs.cons rfl (part_agg (us := #[.int .i64 a0_11, .int .i64 a0_12, .int .u32 a0_13]) Try.underlying32 rfl ti32 (by kernel_rfl)) (part_agg (us := #[.int .i64 0, .int .i64 0, .int .u32 0]) Try.underlying32 rfl ti32 (by kernel_rfl)) (EqV.struct Try.underlying32 Try.stoodInHeld32 (EqFs.cons rfl (part_one (v := .int .i64 a0_11) Try.underlying3 rfl (by kernel_rfl)) (part_one (v := .int .i64 0) Try.underlying3 rfl (by kernel_rfl)) (EqV.int 0 Try.underlying3) (EqFs.cons rfl (part_one (v := .int .i64 a0_12) Try.underlying3 rfl (by kernel_rfl)) (part_one (v := .int .i64 0) Try.underlying3 rfl (by kernel_rfl)) (EqV.int 0 Try.underlying3) (EqFs.cons rfl (part_one (v := .int .u32 a0_13) Try.underlying30 rfl (by kernel_rfl)) (part_one (v := .int .u32 0) Try.underlying30 rfl (by kernel_rfl)) (EqV.int 0 Try.underlying30) EqFs.nil)))) EqFs.nil))) rfl rfl) ?_
                  refine J.p rfl rfl rfl rfl (Y.pickF rfl rfl) ?_
                  refine J.p rfl rfl rfl rfl (Y.asg rfl) ?_
                  refine J.nil ?_
                  refine N.ib ?_
                  obtain rfl := Option.some.inj H
                  exact N.meet ((a0_5, a0_9, 0, !(decide (a0_10 = 0 ∧ (a0_11 = 0 ∧ a0_12 = 0 ∧ a0_13 = 0 ∧ True) ∧ True))), ()) ⟨fin_inr HK44, trivial⟩ (by exact ⟨rfl, rfl, rfl, rfl, trivial⟩) (by exact fun w h => (St.pick [] [_] h rfl))
                · refine J.as (k := 85) rfl (congrArg Value.bool (congrArg Bool.not (decide_eq_false c78))) ?_
                  refine J.skip rfl rfl ?_
                  refine J.skip rfl rfl ?_
                  refine J.skip rfl rfl ?_
                  refine J.skip rfl rfl ?_
                  refine J.p rfl rfl rfl rfl (Y.pickT rfl rfl) ?_
                  refine J.p rfl rfl rfl rfl (Y.asg rfl) ?_
                  refine J.nil ?_
                  refine N.ib ?_
                  obtain rfl := Option.some.inj H
                  exact N.meet ((a0_5, a0_9, 0, true), ()) ⟨fin_inr HK44, trivial⟩ (by exact ⟨rfl, rfl, rfl, rfl, trivial⟩) (by exact fun w h => (St.pick [] [_] h rfl))
              · refine J.as (k := 79) rfl (congrArg Value.bool (congrArg Bool.not (nt c77))) ?_
                refine J.skip rfl rfl ?_
                refine J.skip rfl rfl ?_
                refine J.skip rfl rfl ?_
                refine J.skip rfl rfl ?_
                refine J.p rfl rfl rfl rfl (Y.pickT rfl rfl) ?_
                refine J.p rfl rfl rfl rfl (Y.mv rfl) ?_
                refine J.skip rfl rfl ?_
                refine J.skip rfl rfl ?_
                refine J.skip rfl rfl ?_
                refine J.skip rfl rfl ?_
                refine J.p rfl rfl rfl rfl (Y.pickT rfl rfl) ?_
                refine J.p rfl rfl rfl rfl (Y.asg rfl) ?_
                refine J.nil ?_
                refine N.ib ?_
                obtain rfl := Option.some.inj H
                exact N.meet ((a0_5, a0_9, 0, true), ()) ⟨fin_inr HK44, trivial⟩ (by exact ⟨rfl, rfl, rfl, rfl, trivial⟩) (by exact fun w h => (St.pick [] [_] h rfl))
            · refine J.as (k := 75) rfl (congrArg Value.bool (congrArg Bool.not (nt c76))) ?_
              refine J.skip rfl rfl ?_
              refine J.skip rfl rfl ?_
              refine J.p rfl rfl rfl rfl (Y.pickT rfl rfl) ?_
              refine J.p rfl rfl rfl rfl (Y.mv rfl) ?_
              refine J.skip rfl rfl ?_
              refine J.skip rfl rfl ?_
              refine J.skip rfl rfl ?_
              refine J.skip rfl rfl ?_
              refine J.p rfl rfl rfl rfl (Y.pickT rfl rfl) ?_
              refine J.p rfl rfl rfl rfl (Y.mv rfl) ?_
              refine J.skip rfl rfl ?_
              refine J.skip rfl rfl ?_
              refine J.skip rfl rfl ?_
              refine J.skip rfl rfl ?_
              refine J.p rfl rfl rfl rfl (Y.pickT rfl rfl) ?_
              refine J.p rfl rfl rfl rfl (Y.asg rfl) ?_
              refine J.nil ?_
              refine N.ib ?_
              obtain rfl := Option.some.inj H
              exact N.meet ((a0_5, a0_9, 0, true), ()) ⟨fin_inr HK44, trivial⟩ (by exact ⟨rfl, rfl, rfl, rfl, trivial⟩) (by exact fun w h => (St.pick [] [_] h rfl))
          · refine C.condT (congrArg (fun b => some (Value.bool b)) (congrArg Bool.not (nt c71))) ?_
            refine C.rs ?_
            refine J.p rfl rfl rfl rfl (Y.asg rfl) ?_
            refine J.nx ?_
            refine C.ret ?_
            obtain rfl := Option.some.inj H
            obtain rfl := fin_inl HK44
            refine T.th ?_
            refine T.ib ?_
            refine T.th ?_
            refine T.th ?_
            exact ret_ok (ks := [2]) rfl rfl (fun w h => ⟨rfl, (St.pick [] [_] h rfl)⟩)
        · refine C.condF (congrArg (fun b => some (Value.bool b)) (decide_eq_false c68)) ?_
          refine C.rs ?_
          refine J.p rfl rfl rfl rfl (Y.bin rfl rfl rfl) ?_
          refine J.p rfl rfl rfl rfl (Y.asg rfl) ?_
          refine J.nx ?_
          refine split2 H (fun c82 H => ?_) (fun c82 H => ?_)
          · refine C.condT (congrArg (fun b => some (Value.bool b)) (decide_eq_true c82)) ?_
            refine C.rs ?_
            refine J.p rfl rfl rfl rfl (Y.fa0 fa36_3 rfl rfl) ?_
            refine J.p rfl rfl rfl rfl (Y.fa0 fa34_0 rfl rfl) ?_
            refine J.r rfl rfl rfl rfl (Y.ldC 0 Try.underlying3 rfl rfl rfl rfl) ?_
            obtain ⟨t83, hC84, H⟩ := bind_some H
            refine J.call (us := []) (cap := []) rfl rfl rfl go75 (fun w hw => by have hcc := in_.calls a0_10 0 4194304 t83 hC84 w hw; exact hcc) (fun e w1 h1 => ?_)
            obtain ⟨rfl, hw95⟩ := h1
            refine ⟨_, _, rfl, hw95, ?_⟩
            refine J.p rfl rfl rfl rfl (Y.asg rfl) ?_
            refine J.nx ?_
            refine C.rs ?_
            refine J.p rfl rfl rfl rfl (Y.fa0 fa36_3 rfl rfl) ?_
            refine J.p rfl rfl rfl rfl (Y.fa0 fa34_1 rfl rfl) ?_
            refine J.p rfl rfl rfl rfl (Y.fa0 fa32_0 rfl rfl) ?_
            refine J.r rfl rfl rfl rfl (Y.ldC 0 Try.underlying3 rfl rfl rfl rfl) ?_
            obtain ⟨t85, hC86, H⟩ := bind_some H
            refine J.call (us := []) (cap := []) rfl rfl rfl go75 (fun w hw => by have hcc := in_.calls a0_11 0 4194304 t85 hC86 w hw; exact hcc) (fun e w1 h1 => ?_)
            obtain ⟨rfl, hw94⟩ := h1
            refine ⟨_, _, rfl, hw94, ?_⟩
            refine J.p rfl rfl rfl rfl (Y.asg rfl) ?_
            refine J.nx ?_
            refine C.rs ?_
            refine J.p rfl rfl rfl rfl (Y.fa0 fa36_3 rfl rfl) ?_
            refine J.p rfl rfl rfl rfl (Y.fa0 fa34_1 rfl rfl) ?_
            refine J.p rfl rfl rfl rfl (Y.fa0 fa32_1 rfl rfl) ?_
            refine J.r rfl rfl rfl rfl (Y.ldC 0 Try.underlying3 rfl rfl rfl rfl) ?_
            obtain ⟨t87, hC88, H⟩ := bind_some H
            refine J.call (us := []) (cap := []) rfl rfl rfl go75 (fun w hw => by have hcc := in_.calls a0_12 0 4194304 t87 hC88 w hw; exact hcc) (fun e w1 h1 => ?_)
            obtain ⟨rfl, hw93⟩ := h1
            refine ⟨_, _, rfl, hw93, ?_⟩
            refine J.p rfl rfl rfl rfl (Y.asg rfl) ?_
            refine J.nx ?_
            refine C.reg ?_
            refine J.p rfl rfl rfl rfl (Y.mv rfl) ?_
            refine J.p rfl rfl rfl rfl (Y.notb rfl) ?_
            refine J.p rfl rfl rfl rfl (Y.mv rfl) ?_
            refine split2 H (fun c89 H => ?_) (fun c89 H => ?_)
            · refine J.as (k := 109) rfl (congrArg Value.bool (congrArg Bool.not (c89))) ?_
              refine J.p rfl rfl rfl rfl (Y.mv rfl) ?_
              refine J.p rfl rfl rfl rfl (Y.notb rfl) ?_
              refine J.p rfl rfl rfl rfl (Y.pickF rfl rfl) ?_
              refine J.p rfl rfl rfl rfl (Y.mv rfl) ?_
              refine split2 H (fun c90 H => ?_) (fun c90 H => ?_)
              · refine J.as (k := 113) rfl (congrArg Value.bool (congrArg Bool.not (c90))) ?_
                refine J.p rfl rfl rfl rfl (Y.mv rfl) ?_
                refine J.p rfl rfl rfl rfl (Y.notb rfl) ?_
                refine J.p rfl rfl rfl rfl (Y.pickF rfl rfl) ?_
                refine J.p rfl rfl rfl rfl (Y.mv rfl) ?_
                refine split2 H (fun c91 H => ?_) (fun c91 H => ?_)
                · refine J.as (k := 117) rfl (congrArg Value.bool (congrArg Bool.not (c91))) ?_
                  refine J.p rfl rfl rfl rfl (Y.fa0 fa36_1 rfl rfl) ?_
                  refine J.r rfl rfl rfl rfl (Y.ldCA (us := [.int .u64 a0_1, .int .i64 a0_2, .string a0_3, .string a0_4]) 0 Try.underlying27 rfl ti27 rfl rfl rfl rfl) ?_
                  refine J.p rfl rfl rfl rfl (Y.bld (cs := [.int .u64 0, .int .i64 0, .string ByteArray.empty, .string ByteArray.empty]) rfl pl27 ti27 rfl (by kernel_rfl)) ?_
                  refine J.p rfl rfl rfl rfl (Y.nest Try.eqGuardType27 rfl (EqV.struct Try.underlying27 Try.stoodInHeld27 (EqFs.cons rfl (part_one (v := .int .u64 a0_1) Try.underlying25 rfl (by kernel_rfl)) (part_one (v := .int .u64 0) Try.underlying25 rfl (by kernel_rfl)) (EqV.int 0 Try.underlying25) (EqFs.cons rfl (part_one (v := .int .i64 a0_2) Try.underlying24 rfl (by kernel_rfl)) (part_one (v := .int .i64 0) Try.underlying24 rfl (by kernel_rfl)) (EqV.int 0 Try.underlying24) (EqFs.cons rfl (part_one (v := .string a0_3) Try.underlying9 rfl (by kernel_rfl)) (part_one (v := .string ByteArray.empty) Try.underlying9 rfl (by kernel_rfl)) (EqV.str 0 Try.underlying9) (EqFs.cons rfl (part_one (v := .string a0_4) Try.underlying9 rfl (by kernel_rfl)) (part_one (v := .string ByteArray.empty) Try.underlying9 rfl (by kernel_rfl)) (EqV.str 0 Try.underlying9) EqFs.nil))))) rfl rfl) ?_
                  refine J.p rfl rfl rfl rfl (Y.pickF rfl rfl) ?_
                  refine J.p rfl rfl rfl rfl (Y.mv rfl) ?_
                  refine split2 H (fun c92 H => ?_) (fun c92 H => ?_)
                  · refine J.as (k := 123) rfl (congrArg Value.bool (congrArg Bool.not (decide_eq_true c92))) ?_
                    refine J.p rfl rfl rfl rfl (Y.fa0 fa36_2 rfl rfl) ?_
                    refine J.r rfl rfl rfl rfl (Y.ldCA (us := [.int .u64 a0_5, .int .i64 a0_6, .int .i64 a0_7, .int .i64 a0_8, .string a0_9]) 0 Try.underlying29 rfl ti29 rfl rfl rfl rfl) ?_
                    refine J.p rfl rfl rfl rfl (Y.bld (cs := [.int .u64 0, .int .i64 0, .int .i64 0, .int .i64 0, .string ByteArray.empty]) rfl pl29 ti29 rfl (by kernel_rfl)) ?_
                    refine J.p rfl rfl rfl rfl (Y.nest Try.eqGuardType29 rfl (EqV.struct Try.underlying29 Try.stoodInHeld29 (EqFs.cons rfl (part_one (v := .int .u64 a0_5) Try.underlying25 rfl (by kernel_rfl)) (part_one (v := .int .u64 0) Try.underlying25 rfl (by kernel_rfl)) (EqV.int 0 Try.underlying25) (EqFs.cons rfl (part_one (v := .int .i64 a0_6) Try.underlying24 rfl (by kernel_rfl)) (part_one (v := .int .i64 0) Try.underlying24 rfl (by kernel_rfl)) (EqV.int 0 Try.underlying24) (EqFs.cons rfl (part_one (v := .int .i64 a0_7) Try.underlying3 rfl (by kernel_rfl)) (part_one (v := .int .i64 0) Try.underlying3 rfl (by kernel_rfl)) (EqV.int 0 Try.underlying3) (EqFs.cons rfl (part_one (v := .int .i64 a0_8) Try.underlying3 rfl (by kernel_rfl)) (part_one (v := .int .i64 0) Try.underlying3 rfl (by kernel_rfl)) (EqV.int 0 Try.underlying3) (EqFs.cons rfl (part_one (v := .string a0_9) Try.underlying9 rfl (by kernel_rfl)) (part_one (v := .string ByteArray.empty) Try.underlying9 rfl (by kernel_rfl)) (EqV.str 0 Try.underlying9) EqFs.nil)))))) rfl rfl) ?_
                    refine J.p rfl rfl rfl rfl (Y.pickF rfl rfl) ?_
                    refine J.p rfl rfl rfl rfl (Y.asg rfl) ?_
                    refine J.nil ?_
                    refine N.ib ?_
                    obtain rfl := Option.some.inj H
                    exact N.meet ((1, (⟨#[107]⟩ : ByteArray), 0, !(decide (a0_5 = 0 ∧ a0_6 = 0 ∧ a0_7 = 0 ∧ a0_8 = 0 ∧ a0_9 = ByteArray.empty ∧ True))), ()) ⟨fin_inr HK44, trivial⟩ (by exact ⟨rfl, rfl, rfl, rfl, trivial⟩) (by exact fun w h => (St.pick [] [_] h rfl))
                  · refine J.as (k := 123) rfl (congrArg Value.bool (congrArg Bool.not (decide_eq_false c92))) ?_
                    refine J.skip rfl rfl ?_
                    refine J.skip rfl rfl ?_
                    refine J.skip rfl rfl ?_
                    refine J.skip rfl rfl ?_
                    refine J.p rfl rfl rfl rfl (Y.pickT rfl rfl) ?_
                    refine J.p rfl rfl rfl rfl (Y.asg rfl) ?_
                    refine J.nil ?_
                    refine N.ib ?_
                    obtain rfl := Option.some.inj H
                    exact N.meet ((1, (⟨#[107]⟩ : ByteArray), 0, true), ()) ⟨fin_inr HK44, trivial⟩ (by exact ⟨rfl, rfl, rfl, rfl, trivial⟩) (by exact fun w h => (St.pick [] [_] h rfl))
                · refine J.as (k := 117) rfl (congrArg Value.bool (congrArg Bool.not (nt c91))) ?_
                  refine J.skip rfl rfl ?_
                  refine J.skip rfl rfl ?_
                  refine J.skip rfl rfl ?_
                  refine J.skip rfl rfl ?_
                  refine J.p rfl rfl rfl rfl (Y.pickT rfl rfl) ?_
                  refine J.p rfl rfl rfl rfl (Y.mv rfl) ?_
                  refine J.skip rfl rfl ?_
                  refine J.skip rfl rfl ?_
                  refine J.skip rfl rfl ?_
                  refine J.skip rfl rfl ?_
                  refine J.p rfl rfl rfl rfl (Y.pickT rfl rfl) ?_
                  refine J.p rfl rfl rfl rfl (Y.asg rfl) ?_
                  refine J.nil ?_
                  refine N.ib ?_
                  obtain rfl := Option.some.inj H
                  exact N.meet ((1, (⟨#[107]⟩ : ByteArray), 0, true), ()) ⟨fin_inr HK44, trivial⟩ (by exact ⟨rfl, rfl, rfl, rfl, trivial⟩) (by exact fun w h => (St.pick [] [_] h rfl))
              · refine J.as (k := 113) rfl (congrArg Value.bool (congrArg Bool.not (nt c90))) ?_
                refine J.skip rfl rfl ?_
                refine J.skip rfl rfl ?_
                refine J.p rfl rfl rfl rfl (Y.pickT rfl rfl) ?_
                refine J.p rfl rfl rfl rfl (Y.mv rfl) ?_
                refine J.skip rfl rfl ?_
                refine J.skip rfl rfl ?_
                refine J.skip rfl rfl ?_
                refine J.skip rfl rfl ?_
                refine J.p rfl rfl rfl rfl (Y.pickT rfl rfl) ?_
                refine J.p rfl rfl rfl rfl (Y.mv rfl) ?_
                refine J.skip rfl rfl ?_
                refine J.skip rfl rfl ?_
                refine J.skip rfl rfl ?_
                refine J.skip rfl rfl ?_
                refine J.p rfl rfl rfl rfl (Y.pickT rfl rfl) ?_
                refine J.p rfl rfl rfl rfl (Y.asg rfl) ?_
                refine J.nil ?_
                refine N.ib ?_
                obtain rfl := Option.some.inj H
                exact N.meet ((1, (⟨#[107]⟩ : ByteArray), 0, true), ()) ⟨fin_inr HK44, trivial⟩ (by exact ⟨rfl, rfl, rfl, rfl, trivial⟩) (by exact fun w h => (St.pick [] [_] h rfl))
            · refine J.as (k := 109) rfl (congrArg Value.bool (congrArg Bool.not (nt c89))) ?_
              refine J.skip rfl rfl ?_
              refine J.skip rfl rfl ?_
              refine J.p rfl rfl rfl rfl (Y.pickT rfl rfl) ?_
              refine J.p rfl rfl rfl rfl (Y.mv rfl) ?_
              refine J.skip rfl rfl ?_
              refine J.skip rfl rfl ?_
              refine J.p rfl rfl rfl rfl (Y.pickT rfl rfl) ?_
              refine J.p rfl rfl rfl rfl (Y.mv rfl) ?_
              refine J.skip rfl rfl ?_
              refine J.skip rfl rfl ?_
              refine J.skip rfl rfl ?_
              refine J.skip rfl rfl ?_
              refine J.p rfl rfl rfl rfl (Y.pickT rfl rfl) ?_
              refine J.p rfl rfl rfl rfl (Y.mv rfl) ?_
              refine J.skip rfl rfl ?_
              refine J.skip rfl rfl ?_
              refine J.skip rfl rfl ?_
              refine J.skip rfl rfl ?_
              refine J.p rfl rfl rfl rfl (Y.pickT rfl rfl) ?_
              refine J.p rfl rfl rfl rfl (Y.asg rfl) ?_
              refine J.nil ?_
              refine N.ib ?_
              obtain rfl := Option.some.inj H
              exact N.meet ((1, (⟨#[107]⟩ : ByteArray), 0, true), ()) ⟨fin_inr HK44, trivial⟩ (by exact ⟨rfl, rfl, rfl, rfl, trivial⟩) (by exact fun w h => (St.pick [] [_] h rfl))
          · refine C.condF (congrArg (fun b => some (Value.bool b)) (decide_eq_false c82)) ?_
            refine C.rs ?_
            refine J.p rfl rfl rfl rfl (Y.asg rfl) ?_
            refine J.nx ?_
            refine C.ret ?_
            obtain rfl := Option.some.inj H
            obtain rfl := fin_inl HK44
            refine T.ib ?_
            refine T.th ?_
            refine T.th ?_
            exact ret_ok (ks := [2]) rfl rfl (fun w h => ⟨rfl, (St.pick [] [_] h rfl)⟩)
  · refine N.at (s' := [(3, .int .u64 o45.1), (4, .string o45.2.1), (5, .int .i64 o45.2.2.1), (6, .bool o45.2.2.2)]) (G' := G) rfl rfl ?_
    refine N.nx ?_
    refine C.seq ?_
    refine C.blk ?_
    refine C.rs ?_
    refine J.p rfl rfl rfl rfl (Y.mv rfl) ?_
    refine J.p rfl rfl rfl rfl (Y.bin rfl rfl rfl) ?_
    refine J.p rfl rfl rfl rfl (Y.asg rfl) ?_
    refine J.nx ?_
    refine split2 H (fun c96 H => ?_) (fun c96 H => ?_)
    · refine C.condT (congrArg (fun b => some (Value.bool b)) (decide_eq_true c96)) ?_
      refine C.rs ?_
      refine J.p rfl rfl rfl rfl (Y.asg rfl) ?_
      refine J.nx ?_
      refine C.ret ?_
      obtain rfl := Option.some.inj H
      refine T.ib ?_
      refine T.th ?_
      exact ret_ok (ks := [2]) rfl rfl (fun w h => ⟨rfl, h⟩)
    · refine C.condF (congrArg (fun b => some (Value.bool b)) (decide_eq_false c96)) ?_
      refine C.rs ?_
      refine J.joinB H (fun (o98 : Bool) (j99 : Unit) => [(5, .int .i64 o45.2.2.1), (6, .bool o45.2.2.2), (132, .bool o98)]) (fun (o98 : Bool) (j99 : Unit) => G) (fun (o98 : Bool) (j99 : Unit) => True) (fun o100 H HK101 => ?_) (fun o98 j99 H _ => ?_)
      · refine J.p rfl rfl rfl rfl (Y.mv rfl) ?_
        refine J.p rfl rfl rfl rfl (Y.lenT Try.underlying9 rfl) ?_
        refine J.p rfl rfl rfl rfl (Y.bin rfl rfl rfl) ?_
        refine J.p rfl rfl rfl rfl (Y.mv rfl) ?_
        refine split2 H (fun c102 H => ?_) (fun c102 H => ?_)
        · refine J.as (k := 136) rfl (congrArg Value.bool (decide_eq_true c102)) ?_
          refine J.skip rfl rfl ?_
          refine J.skip rfl rfl ?_
          refine J.skip rfl rfl ?_
          refine J.p rfl rfl rfl rfl (Y.pickT rfl rfl) ?_
          refine J.p rfl rfl rfl rfl (Y.asg rfl) ?_
          refine J.nil ?_
          obtain rfl := Option.some.inj H
          exact N.meet (true, ()) ⟨HK101, trivial⟩ (by exact ⟨rfl, rfl, rfl, trivial⟩) (by exact fun w h => h)
        · refine J.as (k := 136) rfl (congrArg Value.bool (decide_eq_false c102)) ?_
          refine J.p rfl rfl rfl rfl (Y.mv rfl) ?_
          refine J.p rfl rfl rfl rfl (Y.lenT Try.underlying9 rfl) ?_
          refine J.p rfl rfl rfl rfl (Y.bin rfl rfl rfl) ?_
          refine J.p rfl rfl rfl rfl (Y.pickF rfl rfl) ?_
          refine J.p rfl rfl rfl rfl (Y.asg rfl) ?_
          refine J.nil ?_
          obtain rfl := Option.some.inj H
          exact N.meet (decide (64 < (o45.2.1.size : Int)), ()) ⟨HK101, trivial⟩ (by exact ⟨rfl, rfl, rfl, trivial⟩) (by exact fun w h => h)
      · refine C.at (s' := [(5, .int .i64 o45.2.2.1), (6, .bool o45.2.2.2), (132, .bool o98)]) (G' := G) rfl rfl ?_
        refine split2 H (fun c103 H => ?_) (fun c103 H => ?_)
        · refine C.condT (congrArg (fun b => some (Value.bool b)) (c103)) ?_
          refine C.rs ?_
          refine J.p rfl rfl rfl rfl (Y.asg rfl) ?_
          refine J.nx ?_
          refine C.ret ?_
          obtain rfl := Option.some.inj H
          refine T.ib ?_
          refine T.th ?_
          exact ret_ok (ks := [2]) rfl rfl (fun w h => ⟨rfl, h⟩)
        · refine C.condF (congrArg (fun b => some (Value.bool b)) (nt c103)) ?_
          refine C.rs ?_
          refine J.p rfl rfl rfl rfl (Y.mv rfl) ?_
          refine J.p rfl rfl rfl rfl (Y.bin rfl rfl rfl) ?_
          refine J.p rfl rfl rfl rfl (Y.asg rfl) ?_
          refine J.nx ?_
          refine split2 H (fun c104 H => ?_) (fun c104 H => ?_)
          · refine C.condT (congrArg (fun b => some (Value.bool b)) (decide_eq_true c104)) ?_
            refine C.rs ?_
            refine J.p rfl rfl rfl rfl (Y.asg rfl) ?_
            refine J.nx ?_
            refine C.ret ?_
            obtain rfl := Option.some.inj H
            refine T.ib ?_
            refine T.th ?_
            exact ret_ok (ks := [2]) rfl rfl (fun w h => ⟨rfl, h⟩)
          · refine C.condF (congrArg (fun b => some (Value.bool b)) (decide_eq_false c104)) ?_
            refine C.rs ?_
            refine J.p rfl rfl rfl rfl (Y.mv rfl) ?_
            refine J.p rfl rfl rfl rfl (Y.asg rfl) ?_
            refine J.nx ?_
            refine split2 H (fun c105 H => ?_) (fun c105 H => ?_)
            · refine C.condT (congrArg (fun b => some (Value.bool b)) (c105)) ?_
              refine C.rs ?_
              refine J.p rfl rfl rfl rfl (Y.asg rfl) ?_
              refine J.nx ?_
              refine C.ret ?_
              obtain rfl := Option.some.inj H
              refine T.ib ?_
              refine T.th ?_
              exact ret_ok (ks := [2]) rfl rfl (fun w h => ⟨rfl, h⟩)
            · refine C.condF (congrArg (fun b => some (Value.bool b)) (nt c105)) ?_
              refine C.skip ?_
              refine N.ib ?_
              refine N.nx ?_
              refine C.rs ?_
              refine J.p rfl rfl rfl rfl (Y.asg rfl) ?_
              refine J.nx ?_
              refine C.ret ?_
              obtain rfl := Option.some.inj H
              exact ret_ok (ks := [2]) rfl rfl (fun w h => ⟨rfl, h⟩)
/-! ### salvor/salvorref4.number: function 49 -/
def rNumber.l1 : Nat → (Int × (List Int)) → Option (Int × (List Int))
  | 0, _ => none
  | k + 1, i47 => if 127 < i47.1 then (gd ((i47.2.length + [IntKind.wrap .u8 (IntKind.wrap .u64 ((Int.tmod i47.1 128) + 128))].length) * 1 ≤ 140737488355328) (rNumber.l1 k (IntKind.wrap .u64 (Int.tdiv i47.1 128), (i47.2 ++ [IntKind.wrap .u8 (IntKind.wrap .u64 ((Int.tmod i47.1 128) + 128))])))) else (some (i47.1, i47.2))
def rNumber.f (K : Nat) (a0 : Int) : Option ((List Int)) := (rNumber.l1 K (a0, ([] : List Int))).bind fun o23 => gd ((o23.2.length + [IntKind.wrap .u8 o23.1].length) * 1 ≤ 140737488355328) (some (o23.2 ++ [IntKind.wrap .u8 o23.1]))
theorem rNumber.calls {B : Nat} {w0 : World} {G : List HP} (K : Nat) (a0 : Int) (r : (List Int)) (H : rNumber.f K a0 = some r) (w : World) (hw : St B w0 (G) w) :
    Calls Try.prog 49 [.int .u64 a0].toArray w (fun e w' => ∃ A0 c0, e = .returned (.slice A0 r.length c0) ∧ St B w0 (own 5 1 A0 c0 (r.map (Value.int .u8)) :: G) w') := by
  unfold rNumber.f at H
  refine calls_of (n := 20) (s := [(0, .int .u64 a0)]) Try.func49 rfl rfl rfl rfl ?_ hw
  refine C.rs ?_
  refine J.p rfl rfl rfl rfl (Y.asg rfl) ?_
  refine J.nx ?_
  refine C.rs ?_
  refine J.p rfl rfl rfl rfl (Y.asg rfl) ?_
  refine J.nx ?_
  refine C.joinB H (fun (o23 : Int × (List Int)) (j24 : (Option Addr) × Nat) => [(0, .int .u64 o23.1), (3, .slice j24.1 o23.2.length j24.2)]) (fun (o23 : Int × (List Int)) (j24 : (Option Addr) × Nat) => own 5 1 j24.1 j24.2 (o23.2.map (Value.int .u8)) :: G) (fun (o23 : Int × (List Int)) (j24 : (Option Addr) × Nat) => True) (fun o21 H HK22 => ?_) (fun o23 j24 H _ => ?_)
  · refine C.blk ?_
    refine C.loop (fun (i : Nat × (Int × (List Int)) × ((Option Addr) × Nat)) => [(0, .int .u64 i.2.1.1), (3, .slice i.2.2.1 i.2.1.2.length i.2.2.2)]) (fun (i : Nat × (Int × (List Int)) × ((Option Addr) × Nat)) => own 5 1 i.2.2.1 i.2.2.2 (i.2.1.2.map (Value.int .u8)) :: G) (fun (i : Nat × (Int × (List Int)) × ((Option Addr) × Nat)) => rNumber.l1 i.1 i.2.1 = some o21 ∧ (True)) (fun i => i.1) (K, (a0, ([] : List Int)), (none, 0)) ⟨H, trivial⟩ (by exact ⟨rfl, rfl, trivial⟩) (by exact fun w h => (h.nilOwn 5 1)) ?_
    rintro ⟨k58, i47, j48⟩ ⟨H, _⟩
    replace H : rNumber.l1 k58 i47 = some o21 := H
    obtain ⟨k46, rfl⟩ : ∃ m, k58 = m + 1 := by cases k58 with | zero => exact absurd H (by simp [rNumber.l1]) | succ m => exact ⟨m, rfl⟩
    rw [rNumber.l1] at H
    refine C.at (s' := [(0, .int .u64 i47.1), (3, .slice j48.1 i47.2.length j48.2)]) (G' := own 5 1 j48.1 j48.2 (i47.2.map (Value.int .u8)) :: G) rfl rfl ?_
    refine C.seq ?_
    refine C.rs ?_
    refine J.p rfl rfl rfl rfl (Y.mv rfl) ?_
    refine J.p rfl rfl rfl rfl (Y.bin rfl rfl rfl) ?_
    refine J.nx ?_
    refine split2 H (fun c51 H => ?_) (fun c51 H => ?_)
    · refine C.condT (congrArg (fun b => some (Value.bool b)) (decide_eq_true c51)) ?_
      refine C.skip ?_
      refine N.nx ?_
      refine C.blk ?_
      refine C.rs ?_
      refine J.p rfl rfl rfl rfl (Y.mv rfl) ?_
      refine J.p rfl rfl rfl rfl (Y.mv rfl) ?_
      refine J.p rfl rfl rfl rfl (Y.rem rfl rfl (by decide)) ?_
      refine J.p rfl rfl rfl rfl (Y.bin rfl rfl rfl) ?_
      refine J.p rfl rfl rfl rfl (Y.conv Try.underlying25 Try.underlying5 rfl) ?_
      refine J.bsL (enc := (Value.int .u8)) (xs := [IntKind.wrap .u8 (IntKind.wrap .u64 ((Int.tmod i47.1 128) + 128))]) rfl Try.underlying22 ti5 rfl rfl rfl rfl rfl (fun A52 => ?_)
      refine J.pull 1 rfl rfl ?_
      obtain ⟨p56, H⟩ := gd_some H
      refine J.appL (enc := (Value.int .u8)) (xs := i47.2) (ys := [IntKind.wrap .u8 (IntKind.wrap .u64 ((Int.tmod i47.1 128) + 128))]) rfl Try.underlying22 ti5 rfl (by decide) rfl rfl (fun _ => rfl) (RdG.own 1 rfl) p56 (fun A54 c55 => ?_)
      refine J.pull 1 rfl rfl (J.drop ?_)
      refine J.p rfl rfl rfl rfl (Y.asg rfl) ?_
      refine J.nx ?_
      refine C.reg ?_
      refine J.p rfl rfl rfl rfl (Y.mv rfl) ?_
      refine J.p rfl rfl rfl rfl (Y.quo rfl rfl (by decide)) ?_
      refine J.p rfl rfl rfl rfl (Y.asg rfl) ?_
      refine J.nil ?_
      refine N.ib ?_
      exact N.again (k46, (IntKind.wrap .u64 (Int.tdiv i47.1 128), (i47.2 ++ [IntKind.wrap .u8 (IntKind.wrap .u64 ((Int.tmod i47.1 128) + 128))])), (A54, c55)) ⟨H, trivial⟩ (Nat.lt_succ_self _) (by exact ⟨rfl, rfl, trivial⟩) (by exact fun w h => h)
    · refine C.condF (congrArg (fun b => some (Value.bool b)) (decide_eq_false c51)) ?_
      refine C.exit ?_
      refine X.th ?_
      refine X.th ?_
      refine X.hit ?_
      obtain rfl := Option.some.inj H
      exact N.meet ((i47.1, i47.2), (j48.1, j48.2)) ⟨HK22, trivial⟩ (by exact ⟨rfl, rfl, trivial⟩) (by exact fun w h => h)
  · refine C.at (s' := [(0, .int .u64 o23.1), (3, .slice j24.1 o23.2.length j24.2)]) (G' := own 5 1 j24.1 j24.2 (o23.2.map (Value.int .u8)) :: G) rfl rfl ?_
    refine C.rs ?_
    refine J.p rfl rfl rfl rfl (Y.mv rfl) ?_
    refine J.p rfl rfl rfl rfl (Y.mv rfl) ?_
    refine J.p rfl rfl rfl rfl (Y.conv Try.underlying25 Try.underlying5 rfl) ?_
    refine J.bsL (enc := (Value.int .u8)) (xs := [IntKind.wrap .u8 o23.1]) rfl Try.underlying22 ti5 rfl rfl rfl rfl rfl (fun A59 => ?_)
    refine J.pull 1 rfl rfl ?_
    obtain ⟨p63, H⟩ := gd_some H
    refine J.appL (enc := (Value.int .u8)) (xs := o23.2) (ys := [IntKind.wrap .u8 o23.1]) rfl Try.underlying22 ti5 rfl (by decide) rfl rfl (fun _ => rfl) (RdG.own 1 rfl) p63 (fun A61 c62 => ?_)
    refine J.pull 1 rfl rfl (J.drop ?_)
    refine J.p rfl rfl rfl rfl (Y.asg rfl) ?_
    refine J.nx ?_
    refine C.ret ?_
    obtain rfl := Option.some.inj H
    exact ret_ok (ks := [2]) rfl rfl (fun w h => ⟨A61, c62, rfl, h⟩)
/-! ### salvor/salvorref4.Of: function 57 -/
def rOf.f (a0_0 : Int) (a0_1 : Int) (a0_2 : ByteArray) (a0_3 : ByteArray) : Option (Int × Int × Int × ByteArray × ByteArray × Int × Int × Int × Int × ByteArray × Int × Int × Int × Int) := some (a0_1, a0_0, a0_1, a0_2, a0_3, 0, 0, 0, 0, ByteArray.empty, 0, 0, 0, 0)
theorem rOf.calls {B : Nat} {w0 : World} {G : List HP} (a0_0 : Int) (a0_1 : Int) (a0_2 : ByteArray) (a0_3 : ByteArray) (r : Int × Int × Int × ByteArray × ByteArray × Int × Int × Int × Int × ByteArray × Int × Int × Int × Int) (H : rOf.f a0_0 a0_1 a0_2 a0_3 = some r) (w : World) (hw : St B w0 (G) w) :
    Calls Try.prog 57 [.agg #[.int .u64 a0_0, .int .i64 a0_1, .string a0_2, .string a0_3]].toArray w (fun e w' => e = .returned (.agg #[.int .i64 r.1, .int .u64 r.2.1, .int .i64 r.2.2.1, .string r.2.2.2.1, .string r.2.2.2.2.1, .int .u64 r.2.2.2.2.2.1, .int .i64 r.2.2.2.2.2.2.1, .int .i64 r.2.2.2.2.2.2.2.1, .int .i64 r.2.2.2.2.2.2.2.2.1, .string r.2.2.2.2.2.2.2.2.2.1, .int .i64 r.2.2.2.2.2.2.2.2.2.2.1, .int .i64 r.2.2.2.2.2.2.2.2.2.2.2.1, .int .i64 r.2.2.2.2.2.2.2.2.2.2.2.2.1, .int .u32 r.2.2.2.2.2.2.2.2.2.2.2.2.2]) ∧ St B w0 (G) w') := by
  unfold rOf.f at H
  refine calls_of (n := 7) (s := [(0, .agg #[.int .u64 a0_0, .int .i64 a0_1, .string a0_2, .string a0_3])]) Try.func57 rfl rfl rfl rfl ?_ hw
  refine C.rs ?_
  refine J.box (L := [.int .u64 a0_0, .int .i64 a0_1, .string a0_2, .string a0_3]) rfl rfl rfl (fun g1 => ?_)
  refine J.alloc (L := [.int .i64 0, .int .u64 0, .int .i64 0, .string ByteArray.empty, .string ByteArray.empty, .int .u64 0, .int .i64 0, .int .i64 0, .int .i64 0, .string ByteArray.empty, .int .i64 0, .int .i64 0, .int .i64 0, .int .u32 0]) rfl ti36 rfl (fun g3 => ?_)
  refine J.nx ?_
  refine C.rs ?_
  refine J.p rfl rfl rfl rfl (Y.fa0 fa27_1 rfl rfl) ?_
  refine J.r rfl rfl rfl rfl (Y.ldC 1 Try.underlying24 rfl rfl rfl rfl) ?_
  refine J.r rfl rfl rfl rfl (Y.ldCA (us := [.int .u64 a0_0, .int .i64 a0_1, .string a0_2, .string a0_3]) 1 Try.underlying27 rfl ti27 rfl rfl rfl rfl) ?_
  refine J.p rfl rfl rfl rfl (Y.bld (cs := [.int .i64 a0_1, .int .u64 a0_0, .int .i64 a0_1, .string a0_2, .string a0_3, .int .u64 0, .int .i64 0, .int .i64 0, .int .i64 0, .string ByteArray.empty, .int .i64 0, .int .i64 0, .int .i64 0, .int .u32 0]) rfl pl36 ti36 rfl (by kernel_rfl)) ?_
  refine J.stA (us := [.int .i64 a0_1, .int .u64 a0_0, .int .i64 a0_1, .string a0_2, .string a0_3, .int .u64 0, .int .i64 0, .int .i64 0, .int .i64 0, .string ByteArray.empty, .int .i64 0, .int .i64 0, .int .i64 0, .int .u32 0]) (L' := [.int .i64 a0_1, .int .u64 a0_0, .int .i64 a0_1, .string a0_2, .string a0_3, .int .u64 0, .int .i64 0, .int .i64 0, .int .i64 0, .string ByteArray.empty, .int .i64 0, .int .i64 0, .int .i64 0, .int .u32 0]) ti36 rfl rfl rfl rfl rfl rfl ?_
  refine J.nx ?_
  refine C.ret ?_
  obtain rfl := Option.some.inj H
  exact ret_okG (rvs := [.cell 2 36]) (vs := [.agg #[.int .i64 a0_1, .int .u64 a0_0, .int .i64 a0_1, .string a0_2, .string a0_3, .int .u64 0, .int .i64 0, .int .i64 0, .int .i64 0, .string ByteArray.empty, .int .i64 0, .int .i64 0, .int .i64 0, .int .u32 0]]) rfl ⟨RV.cellA (us := [.int .i64 a0_1, .int .u64 a0_0, .int .i64 a0_1, .string a0_2, .string a0_3, .int .u64 0, .int .i64 0, .int .i64 0, .int .i64 0, .string ByteArray.empty, .int .i64 0, .int .i64 0, .int .i64 0, .int .u32 0]) 0 Try.underlying36 rfl ti36 rfl rfl rfl rfl, trivial⟩ (fun w h => ⟨rfl, (St.pick [] [_, _] h rfl)⟩)
/-! ### salvor/salvorref4.Body: function 22 -/
def rBody.f (K : Nat) (a0_0 : Int) (a0_1 : Int) (a0_2 : Int) (a0_3 : ByteArray) (a0_4 : ByteArray) (a0_5 : Int) (a0_6 : Int) (a0_7 : Int) (a0_8 : Int) (a0_9 : ByteArray) (a0_10 : Int) (a0_11 : Int) (a0_12 : Int) (a0_13 : Int) : Option ((List Int) × Int) := (May.f a0_0 a0_1 a0_2 a0_3 a0_4 a0_5 a0_6 a0_7 a0_8 a0_9 a0_10 a0_11 a0_12 a0_13).bind fun t3 => if t3 ≠ 0 then (some (([] : List Int), t3)) else ((if a0_0 = 1 then ((rNumber.f K a0_1).bind fun t146 => gd (([IntKind.wrap .u8 a0_0].length + t146.length) * 1 ≤ 140737488355328) ((rNumber.f K (IntKind.wrap .u64 (a0_3.size : Int))).bind fun t155 => gd ((([IntKind.wrap .u8 a0_0] ++ t146).length + t155.length) * 1 ≤ 140737488355328) (gd (((([IntKind.wrap .u8 a0_0] ++ t146) ++ t155).length + a0_3.size) * 1 ≤ 140737488355328) (gd ((((([IntKind.wrap .u8 a0_0] ++ t146) ++ t155) ++ bytesOf a0_3).length + a0_4.size) * 1 ≤ 140737488355328) (some (((([IntKind.wrap .u8 a0_0] ++ t146) ++ t155) ++ bytesOf a0_3) ++ bytesOf a0_4)))))) else (if a0_0 = 2 then ((rNumber.f K a0_1).bind fun t175 => gd (([IntKind.wrap .u8 a0_0].length + t175.length) * 1 ≤ 140737488355328) (gd ((([IntKind.wrap .u8 a0_0] ++ t175).length + a0_3.size) * 1 ≤ 140737488355328) (some (([IntKind.wrap .u8 a0_0] ++ t175) ++ bytesOf a0_3)))) else (if a0_0 = 3 then ((rNumber.f K a0_5).bind fun t190 => gd (([IntKind.wrap .u8 a0_0].length + t190.length) * 1 ≤ 140737488355328) (gd ((([IntKind.wrap .u8 a0_0] ++ t190).length + [IntKind.wrap .u8 a0_6].length) * 1 ≤ 140737488355328) ((rNumber.f K (IntKind.wrap .u64 a0_7)).bind fun t205 => gd (((([IntKind.wrap .u8 a0_0] ++ t190) ++ [IntKind.wrap .u8 a0_6]).length + t205.length) * 1 ≤ 140737488355328) ((rNumber.f K (IntKind.wrap .u64 a0_8)).bind fun t214 => gd ((((([IntKind.wrap .u8 a0_0] ++ t190) ++ [IntKind.wrap .u8 a0_6]) ++ t205).length + t214.length) * 1 ≤ 140737488355328) (gd (((((([IntKind.wrap .u8 a0_0] ++ t190) ++ [IntKind.wrap .u8 a0_6]) ++ t205) ++ t214).length + a0_9.size) * 1 ≤ 140737488355328) (some ((((([IntKind.wrap .u8 a0_0] ++ t190) ++ [IntKind.wrap .u8 a0_6]) ++ t205) ++ t214) ++ bytesOf a0_9))))))) else ((rNumber.f K (IntKind.wrap .u64 a0_10)).bind fun t230 => gd (([IntKind.wrap .u8 a0_0].length + t230.length) * 1 ≤ 140737488355328) ((rNumber.f K (IntKind.wrap .u64 a0_11)).bind fun t239 => gd ((([IntKind.wrap .u8 a0_0] ++ t230).length + t239.length) * 1 ≤ 140737488355328) ((rNumber.f K (IntKind.wrap .u64 a0_12)).bind fun t248 => gd (((([IntKind.wrap .u8 a0_0] ++ t230) ++ t239).length + t248.length) * 1 ≤ 140737488355328) ((rNumber.f K (IntKind.wrap .u64 a0_13)).bind fun t257 => gd ((((([IntKind.wrap .u8 a0_0] ++ t230) ++ t239) ++ t248).length + t257.length) * 1 ≤ 140737488355328) (some (((([IntKind.wrap .u8 a0_0] ++ t230) ++ t239) ++ t248) ++ t257))))))))).bind fun o142 => some (o142, 0))
theorem rBody.calls {B : Nat} {w0 : World} {G : List HP} (K : Nat) (a0_0 : Int) (a0_1 : Int) (a0_2 : Int) (a0_3 : ByteArray) (a0_4 : ByteArray) (a0_5 : Int) (a0_6 : Int) (a0_7 : Int) (a0_8 : Int) (a0_9 : ByteArray) (a0_10 : Int) (a0_11 : Int) (a0_12 : Int) (a0_13 : Int) (r : (List Int) × Int) (H : rBody.f K a0_0 a0_1 a0_2 a0_3 a0_4 a0_5 a0_6 a0_7 a0_8 a0_9 a0_10 a0_11 a0_12 a0_13 = some r) (w : World) (hw : St B w0 (G) w) :
    Calls Try.prog 22 [.agg #[.int .i64 a0_0, .int .u64 a0_1, .int .i64 a0_2, .string a0_3, .string a0_4, .int .u64 a0_5, .int .i64 a0_6, .int .i64 a0_7, .int .i64 a0_8, .string a0_9, .int .i64 a0_10, .int .i64 a0_11, .int .i64 a0_12, .int .u32 a0_13]].toArray w (fun e w' => ∃ A0 c0, e = .returned (.tuple #[.slice A0 r.1.length c0, .int .i64 r.2]) ∧ St B w0 (own 5 1 A0 c0 (r.1.map (Value.int .u8)) :: G) w') := by
  unfold rBody.f at H
  refine calls_of (n := 116) (s := [(0, .agg #[.int .i64 a0_0, .int .u64 a0_1, .int .i64 a0_2, .string a0_3, .string a0_4, .int .u64 a0_5, .int .i64 a0_6, .int .i64 a0_7, .int .i64 a0_8, .string a0_9, .int .i64 a0_10, .int .i64 a0_11, .int .i64 a0_12, .int .u32 a0_13])]) Try.func22 rfl rfl rfl rfl ?_ hw
  refine C.rs ?_
  refine J.box (L := [.int .i64 a0_0, .int .u64 a0_1, .int .i64 a0_2, .string a0_3, .string a0_4, .int .u64 a0_5, .int .i64 a0_6, .int .i64 a0_7, .int .i64 a0_8, .string a0_9, .int .i64 a0_10, .int .i64 a0_11, .int .i64 a0_12, .int .u32 a0_13]) rfl rfl rfl (fun g1 => ?_)
  refine J.p rfl rfl rfl rfl (Y.asg rfl) ?_
  refine J.p rfl rfl rfl rfl (Y.asg rfl) ?_
  refine J.nx ?_
  refine C.rs ?_
  refine J.r rfl rfl rfl rfl (Y.ldCA (us := [.int .i64 a0_0, .int .u64 a0_1, .int .i64 a0_2, .string a0_3, .string a0_4, .int .u64 a0_5, .int .i64 a0_6, .int .i64 a0_7, .int .i64 a0_8, .string a0_9, .int .i64 a0_10, .int .i64 a0_11, .int .i64 a0_12, .int .u32 a0_13]) 0 Try.underlying36 rfl ti36 rfl rfl rfl rfl) ?_
  obtain ⟨t3, hC4, H⟩ := bind_some H
  refine J.call (us := []) (cap := []) rfl rfl rfl go48 (fun w hw => by have hcc := May.calls a0_0 a0_1 a0_2 a0_3 a0_4 a0_5 a0_6 a0_7 a0_8 a0_9 a0_10 a0_11 a0_12 a0_13 t3 hC4 w hw; exact hcc) (fun e w1 h1 => ?_)
  obtain ⟨rfl, hw270⟩ := h1
  refine ⟨_, _, rfl, hw270, ?_⟩
  refine J.p rfl rfl rfl rfl (Y.asg rfl) ?_
  refine J.nx ?_
  refine C.seq ?_
  refine C.rs ?_
  refine J.p rfl rfl rfl rfl (Y.mv rfl) ?_
  refine J.p rfl rfl rfl rfl (Y.bin rfl rfl rfl) ?_
  refine J.nx ?_
  refine split2 H (fun c5 H => ?_) (fun c5 H => ?_)
  · refine C.condT (congrArg (fun b => some (Value.bool b)) (decide_eq_true c5)) ?_
    refine C.rs ?_
    refine J.p rfl rfl rfl rfl (Y.mv rfl) ?_
    refine J.p rfl rfl rfl rfl (Y.asg rfl) ?_
    refine J.p rfl rfl rfl rfl (Y.asg rfl) ?_
    refine J.nx ?_
    refine C.ret ?_
    obtain rfl := Option.some.inj H
    refine T.th ?_
    exact ret_ok (ks := [2, 3]) rfl rfl (fun w h => ⟨none, 0, rfl, (St.pick [0] [_, _] (h.nilOwn 5 1) rfl)⟩)
  · refine C.condF (congrArg (fun b => some (Value.bool b)) (decide_eq_false c5)) ?_
    refine C.skip ?_
    refine N.nx ?_
    refine C.rs ?_
    refine J.p rfl rfl rfl rfl (Y.fa0 fa36_0 rfl rfl) ?_
    refine J.r rfl rfl rfl rfl (Y.ldC 0 Try.underlying24 rfl rfl rfl rfl) ?_
    refine J.p rfl rfl rfl rfl (Y.conv Try.underlying24 Try.underlying5 rfl) ?_
    refine J.bsL (enc := (Value.int .u8)) (xs := [IntKind.wrap .u8 a0_0]) rfl Try.underlying22 ti5 rfl rfl rfl rfl rfl (fun A7 => ?_)
    refine J.p rfl rfl rfl rfl (Y.asg rfl) ?_
    refine J.nx ?_
    refine C.rs ?_
    refine J.p rfl rfl rfl rfl (Y.fa0 fa36_1 rfl rfl) ?_
    refine J.r rfl rfl rfl rfl (Y.ldCA (us := [.int .u64 a0_1, .int .i64 a0_2, .string a0_3, .string a0_4]) 1 Try.underlying27 rfl ti27 rfl rfl rfl rfl) ?_
    refine J.alloc (L := [.int .u64 0, .int .i64 0, .string ByteArray.empty, .string ByteArray.empty]) rfl ti27 rfl (fun g9 => ?_)
    refine J.stA (us := [.int .u64 a0_1, .int .i64 a0_2, .string a0_3, .string a0_4]) (L' := [.int .u64 a0_1, .int .i64 a0_2, .string a0_3, .string a0_4]) ti27 rfl rfl rfl rfl rfl rfl ?_
    refine J.nx ?_
    refine C.rs ?_
    refine J.p rfl rfl rfl rfl (Y.fa0 fa36_2 rfl rfl) ?_
    refine J.r rfl rfl rfl rfl (Y.ldCA (us := [.int .u64 a0_5, .int .i64 a0_6, .int .i64 a0_7, .int .i64 a0_8, .string a0_9]) 2 Try.underlying29 rfl ti29 rfl rfl rfl rfl) ?_
    refine J.alloc (L := [.int .u64 0, .int .i64 0, .int .i64 0, .int .i64 0, .string ByteArray.empty]) rfl ti29 rfl (fun g11 => ?_)
    refine J.stA (us := [.int .u64 a0_5, .int .i64 a0_6, .int .i64 a0_7, .int .i64 a0_8, .string a0_9]) (L' := [.int .u64 a0_5, .int .i64 a0_6, .int .i64 a0_7, .int .i64 a0_8, .string a0_9]) ti29 rfl rfl rfl rfl rfl rfl ?_
    refine J.nx ?_
    refine C.rs ?_
    refine J.p rfl rfl rfl rfl (Y.fa0 fa36_3 rfl rfl) ?_
    refine J.r rfl rfl rfl rfl (Y.ldCA (us := [.int .i64 a0_10, .int .i64 a0_11, .int .i64 a0_12, .int .u32 a0_13]) 3 Try.underlying34 rfl ti34 rfl rfl rfl rfl) ?_
    refine J.alloc (L := [.int .i64 0, .int .i64 0, .int .i64 0, .int .u32 0]) rfl ti34 rfl (fun g13 => ?_)
    refine J.stA (us := [.int .i64 a0_10, .int .i64 a0_11, .int .i64 a0_12, .int .u32 a0_13]) (L' := [.int .i64 a0_10, .int .i64 a0_11, .int .i64 a0_12, .int .u32 a0_13]) ti34 rfl rfl rfl rfl rfl rfl ?_
    refine J.nx ?_
    refine C.seq ?_
    refine C.rs ?_
    refine J.p rfl rfl rfl rfl (Y.fa0 fa36_0 rfl rfl) ?_
    refine J.r rfl rfl rfl rfl (Y.ldC 4 Try.underlying24 rfl rfl rfl rfl) ?_
    refine J.nx ?_
    refine C.joinN H (fun (o142 : (List Int)) (j143 : (Option Addr) × Nat) => [(5, .slice j143.1 o142.length j143.2)]) (fun (o142 : (List Int)) (j143 : (Option Addr) × Nat) => own 5 1 j143.1 j143.2 (o142.map (Value.int .u8)) :: G) (fun (o142 : (List Int)) (j143 : (Option Addr) × Nat) => True) (fun o140 H HK141 => ?_) (fun o142 j143 H _ => ?_)
    · refine C.blk ?_
      refine C.rs ?_
      refine J.p rfl rfl rfl rfl (Y.bin rfl rfl rfl) ?_
      refine J.p rfl rfl rfl rfl (Y.asg rfl) ?_
      refine J.nx ?_
      refine split2 H (fun c145 H => ?_) (fun c145 H => ?_)
      · refine C.condT (congrArg (fun b => some (Value.bool b)) (decide_eq_true c145)) ?_
        refine C.rs ?_
        refine J.p rfl rfl rfl rfl (Y.mv rfl) ?_
        refine J.p rfl rfl rfl rfl (Y.fa0 fa27_0 rfl rfl) ?_
        refine J.r rfl rfl rfl rfl (Y.ldC 2 Try.underlying25 rfl rfl rfl rfl) ?_
        obtain ⟨t146, hC147, H⟩ := bind_some H
        refine J.call (us := []) (cap := []) rfl rfl rfl go49 (fun w hw => by have hcc := rNumber.calls K a0_1 t146 hC147 w hw; exact hcc) (fun e w1 h1 => ?_)
        obtain ⟨A148, c149, rfl, hw173⟩ := h1
        refine ⟨_, _, rfl, hw173, ?_⟩
        refine J.pull 4 rfl rfl ?_
        obtain ⟨p153, H⟩ := gd_some H
        refine J.appL (enc := (Value.int .u8)) (xs := [IntKind.wrap .u8 a0_0]) (ys := t146) rfl Try.underlying22 ti5 rfl (by decide) rfl rfl (fun _ => rfl) (RdG.own 1 rfl) p153 (fun A151 c152 => ?_)
        refine J.pull 1 rfl rfl (J.drop ?_)
        refine J.p rfl rfl rfl rfl (Y.asg rfl) ?_
        refine J.nx ?_
        refine C.rs ?_
        refine J.p rfl rfl rfl rfl (Y.mv rfl) ?_
        refine J.p rfl rfl rfl rfl (Y.fa0 fa27_2 rfl rfl) ?_
        refine J.r rfl rfl rfl rfl (Y.ldC 3 Try.underlying9 rfl rfl rfl rfl) ?_
        refine J.p rfl rfl rfl rfl (Y.lenT Try.underlying9 rfl) ?_
        refine J.p rfl rfl rfl rfl (Y.conv Try.underlying3 Try.underlying25 rfl) ?_
        obtain ⟨t155, hC156, H⟩ := bind_some H
        refine J.call (us := []) (cap := []) rfl rfl rfl go49 (fun w hw => by have hcc := rNumber.calls K (IntKind.wrap .u64 (a0_3.size : Int)) t155 hC156 w hw; exact hcc) (fun e w1 h1 => ?_)
        obtain ⟨A157, c158, rfl, hw172⟩ := h1
        refine ⟨_, _, rfl, hw172, ?_⟩
        refine J.pull 1 rfl rfl ?_
        obtain ⟨p162, H⟩ := gd_some H
        refine J.appL (enc := (Value.int .u8)) (xs := ([IntKind.wrap .u8 a0_0] ++ t146)) (ys := t155) rfl Try.underlying22 ti5 rfl (by decide) rfl rfl (fun _ => rfl) (RdG.own 1 rfl) p162 (fun A160 c161 => ?_)
        refine J.pull 1 rfl rfl (J.drop ?_)
        refine J.p rfl rfl rfl rfl (Y.asg rfl) ?_
        refine J.nx ?_
        refine C.rs ?_
        refine J.p rfl rfl rfl rfl (Y.mv rfl) ?_
        refine J.p rfl rfl rfl rfl (Y.fa0 fa27_2 rfl rfl) ?_
        refine J.r rfl rfl rfl rfl (Y.ldC 3 Try.underlying9 rfl rfl rfl rfl) ?_
        obtain ⟨p166, H⟩ := gd_some H
        refine J.appT rfl Try.underlying22 Try.underlying9 ti5 rfl rfl p166 (fun A164 c165 => ?_)
        refine J.p rfl rfl rfl rfl (Y.asg rfl) ?_
        refine J.nx ?_
        refine C.reg ?_
        refine J.p rfl rfl rfl rfl (Y.mv rfl) ?_
        refine J.p rfl rfl rfl rfl (Y.fa0 fa27_3 rfl rfl) ?_
        refine J.r rfl rfl rfl rfl (Y.ldC 3 Try.underlying9 rfl rfl rfl rfl) ?_
        obtain ⟨p170, H⟩ := gd_some H
        refine J.appT rfl Try.underlying22 Try.underlying9 ti5 rfl rfl p170 (fun A168 c169 => ?_)
        refine J.p rfl rfl rfl rfl (Y.asg rfl) ?_
        refine J.nil ?_
        refine N.ib ?_
        obtain rfl := Option.some.inj H
        exact N.meet ((((([IntKind.wrap .u8 a0_0] ++ t146) ++ t155) ++ bytesOf a0_3) ++ bytesOf a0_4), (A168, c169)) ⟨HK141, trivial⟩ (by exact ⟨rfl, trivial⟩) (by exact fun w h => (St.pick [0] [_, _, _, _, _] h rfl))
      · refine C.condF (congrArg (fun b => some (Value.bool b)) (decide_eq_false c145)) ?_
        refine C.rs ?_
        refine J.p rfl rfl rfl rfl (Y.bin rfl rfl rfl) ?_
        refine J.p rfl rfl rfl rfl (Y.asg rfl) ?_
        refine J.nx ?_
        refine split2 H (fun c174 H => ?_) (fun c174 H => ?_)
        · refine C.condT (congrArg (fun b => some (Value.bool b)) (decide_eq_true c174)) ?_
          refine C.rs ?_
          refine J.p rfl rfl rfl rfl (Y.mv rfl) ?_
          refine J.p rfl rfl rfl rfl (Y.fa0 fa27_0 rfl rfl) ?_
          refine J.r rfl rfl rfl rfl (Y.ldC 2 Try.underlying25 rfl rfl rfl rfl) ?_
          obtain ⟨t175, hC176, H⟩ := bind_some H
          refine J.call (us := []) (cap := []) rfl rfl rfl go49 (fun w hw => by have hcc := rNumber.calls K a0_1 t175 hC176 w hw; exact hcc) (fun e w1 h1 => ?_)
          obtain ⟨A177, c178, rfl, hw188⟩ := h1
          refine ⟨_, _, rfl, hw188, ?_⟩
          refine J.pull 4 rfl rfl ?_
          obtain ⟨p182, H⟩ := gd_some H
          refine J.appL (enc := (Value.int .u8)) (xs := [IntKind.wrap .u8 a0_0]) (ys := t175) rfl Try.underlying22 ti5 rfl (by decide) rfl rfl (fun _ => rfl) (RdG.own 1 rfl) p182 (fun A180 c181 => ?_)
          refine J.pull 1 rfl rfl (J.drop ?_)
          refine J.p rfl rfl rfl rfl (Y.asg rfl) ?_
          refine J.nx ?_
          refine C.reg ?_
          refine J.p rfl rfl rfl rfl (Y.mv rfl) ?_
          refine J.p rfl rfl rfl rfl (Y.fa0 fa27_2 rfl rfl) ?_
          refine J.r rfl rfl rfl rfl (Y.ldC 3 Try.underlying9 rfl rfl rfl rfl) ?_
          obtain ⟨p186, H⟩ := gd_some H
          refine J.appT rfl Try.underlying22 Try.underlying9 ti5 rfl rfl p186 (fun A184 c185 => ?_)
          refine J.p rfl rfl rfl rfl (Y.asg rfl) ?_
          refine J.nil ?_
          refine N.ib ?_
          obtain rfl := Option.some.inj H
          exact N.meet ((([IntKind.wrap .u8 a0_0] ++ t175) ++ bytesOf a0_3), (A184, c185)) ⟨HK141, trivial⟩ (by exact ⟨rfl, trivial⟩) (by exact fun w h => (St.pick [0] [_, _, _, _, _] h rfl))
        · refine C.condF (congrArg (fun b => some (Value.bool b)) (decide_eq_false c174)) ?_
          refine C.rs ?_
          refine J.p rfl rfl rfl rfl (Y.bin rfl rfl rfl) ?_
          refine J.p rfl rfl rfl rfl (Y.asg rfl) ?_
          refine J.nx ?_
          refine split2 H (fun c189 H => ?_) (fun c189 H => ?_)
          · refine C.condT (congrArg (fun b => some (Value.bool b)) (decide_eq_true c189)) ?_
            refine C.rs ?_
            refine J.p rfl rfl rfl rfl (Y.mv rfl) ?_
            refine J.p rfl rfl rfl rfl (Y.fa0 fa29_0 rfl rfl) ?_
            refine J.r rfl rfl rfl rfl (Y.ldC 1 Try.underlying25 rfl rfl rfl rfl) ?_
            obtain ⟨t190, hC191, H⟩ := bind_some H
            refine J.call (us := []) (cap := []) rfl rfl rfl go49 (fun w hw => by have hcc := rNumber.calls K a0_5 t190 hC191 w hw; exact hcc) (fun e w1 h1 => ?_)
            obtain ⟨A192, c193, rfl, hw229⟩ := h1
            refine ⟨_, _, rfl, hw229, ?_⟩
            refine J.pull 4 rfl rfl ?_
            obtain ⟨p197, H⟩ := gd_some H
            refine J.appL (enc := (Value.int .u8)) (xs := [IntKind.wrap .u8 a0_0]) (ys := t190) rfl Try.underlying22 ti5 rfl (by decide) rfl rfl (fun _ => rfl) (RdG.own 1 rfl) p197 (fun A195 c196 => ?_)
            refine J.pull 1 rfl rfl (J.drop ?_)
            refine J.p rfl rfl rfl rfl (Y.asg rfl) ?_
            refine J.nx ?_
            refine C.rs ?_
            refine J.p rfl rfl rfl rfl (Y.mv rfl) ?_
            refine J.p rfl rfl rfl rfl (Y.fa0 fa29_1 rfl rfl) ?_
            refine J.r rfl rfl rfl rfl (Y.ldC 2 Try.underlying24 rfl rfl rfl rfl) ?_
            refine J.p rfl rfl rfl rfl (Y.conv Try.underlying24 Try.underlying5 rfl) ?_
            refine J.bsL (enc := (Value.int .u8)) (xs := [IntKind.wrap .u8 a0_6]) rfl Try.underlying22 ti5 rfl rfl rfl rfl rfl (fun A199 => ?_)
            refine J.pull 1 rfl rfl ?_
            obtain ⟨p203, H⟩ := gd_some H
            refine J.appL (enc := (Value.int .u8)) (xs := ([IntKind.wrap .u8 a0_0] ++ t190)) (ys := [IntKind.wrap .u8 a0_6]) rfl Try.underlying22 ti5 rfl (by decide) rfl rfl (fun _ => rfl) (RdG.own 1 rfl) p203 (fun A201 c202 => ?_)
            refine J.pull 1 rfl rfl (J.drop ?_)
            refine J.p rfl rfl rfl rfl (Y.asg rfl) ?_
            refine J.nx ?_
            refine C.rs ?_
            refine J.p rfl rfl rfl rfl (Y.mv rfl) ?_
            refine J.p rfl rfl rfl rfl (Y.fa0 fa29_2 rfl rfl) ?_
            refine J.r rfl rfl rfl rfl (Y.ldC 2 Try.underlying3 rfl rfl rfl rfl) ?_
            refine J.p rfl rfl rfl rfl (Y.conv Try.underlying3 Try.underlying25 rfl) ?_
            obtain ⟨t205, hC206, H⟩ := bind_some H
            refine J.call (us := []) (cap := []) rfl rfl rfl go49 (fun w hw => by have hcc := rNumber.calls K (IntKind.wrap .u64 a0_7) t205 hC206 w hw; exact hcc) (fun e w1 h1 => ?_)
            obtain ⟨A207, c208, rfl, hw228⟩ := h1
            refine ⟨_, _, rfl, hw228, ?_⟩
            refine J.pull 1 rfl rfl ?_
            obtain ⟨p212, H⟩ := gd_some H
            refine J.appL (enc := (Value.int .u8)) (xs := (([IntKind.wrap .u8 a0_0] ++ t190) ++ [IntKind.wrap .u8 a0_6])) (ys := t205) rfl Try.underlying22 ti5 rfl (by decide) rfl rfl (fun _ => rfl) (RdG.own 1 rfl) p212 (fun A210 c211 => ?_)
            refine J.pull 1 rfl rfl (J.drop ?_)
            refine J.p rfl rfl rfl rfl (Y.asg rfl) ?_
            refine J.nx ?_
            refine C.rs ?_
            refine J.p rfl rfl rfl rfl (Y.mv rfl) ?_
            refine J.p rfl rfl rfl rfl (Y.fa0 fa29_3 rfl rfl) ?_
            refine J.r rfl rfl rfl rfl (Y.ldC 2 Try.underlying3 rfl rfl rfl rfl) ?_
            refine J.p rfl rfl rfl rfl (Y.conv Try.underlying3 Try.underlying25 rfl) ?_
            obtain ⟨t214, hC215, H⟩ := bind_some H
            refine J.call (us := []) (cap := []) rfl rfl rfl go49 (fun w hw => by have hcc := rNumber.calls K (IntKind.wrap .u64 a0_8) t214 hC215 w hw; exact hcc) (fun e w1 h1 => ?_)
            obtain ⟨A216, c217, rfl, hw227⟩ := h1
            refine ⟨_, _, rfl, hw227, ?_⟩
            refine J.pull 1 rfl rfl ?_
            obtain ⟨p221, H⟩ := gd_some H
            refine J.appL (enc := (Value.int .u8)) (xs := ((([IntKind.wrap .u8 a0_0] ++ t190) ++ [IntKind.wrap .u8 a0_6]) ++ t205)) (ys := t214) rfl Try.underlying22 ti5 rfl (by decide) rfl rfl (fun _ => rfl) (RdG.own 1 rfl) p221 (fun A219 c220 => ?_)
            refine J.pull 1 rfl rfl (J.drop ?_)
            refine J.p rfl rfl rfl rfl (Y.asg rfl) ?_
            refine J.nx ?_
            refine C.reg ?_
            refine J.p rfl rfl rfl rfl (Y.mv rfl) ?_
            refine J.p rfl rfl rfl rfl (Y.fa0 fa29_4 rfl rfl) ?_
            refine J.r rfl rfl rfl rfl (Y.ldC 2 Try.underlying9 rfl rfl rfl rfl) ?_
            obtain ⟨p225, H⟩ := gd_some H
            refine J.appT rfl Try.underlying22 Try.underlying9 ti5 rfl rfl p225 (fun A223 c224 => ?_)
            refine J.p rfl rfl rfl rfl (Y.asg rfl) ?_
            refine J.nil ?_
            refine N.ib ?_
            obtain rfl := Option.some.inj H
            exact N.meet (((((([IntKind.wrap .u8 a0_0] ++ t190) ++ [IntKind.wrap .u8 a0_6]) ++ t205) ++ t214) ++ bytesOf a0_9), (A223, c224)) ⟨HK141, trivial⟩ (by exact ⟨rfl, trivial⟩) (by exact fun w h => (St.pick [0] [_, _, _, _, _] h rfl))
          · refine C.condF (congrArg (fun b => some (Value.bool b)) (decide_eq_false c189)) ?_
            refine C.rs ?_
            refine J.p rfl rfl rfl rfl (Y.mv rfl) ?_
            refine J.p rfl rfl rfl rfl (Y.fa0 fa34_0 rfl rfl) ?_
            refine J.r rfl rfl rfl rfl (Y.ldC 0 Try.underlying3 rfl rfl rfl rfl) ?_
            refine J.p rfl rfl rfl rfl (Y.conv Try.underlying3 Try.underlying25 rfl) ?_
            obtain ⟨t230, hC231, H⟩ := bind_some H
            refine J.call (us := []) (cap := []) rfl rfl rfl go49 (fun w hw => by have hcc := rNumber.calls K (IntKind.wrap .u64 a0_10) t230 hC231 w hw; exact hcc) (fun e w1 h1 => ?_)
            obtain ⟨A232, c233, rfl, hw269⟩ := h1
            refine ⟨_, _, rfl, hw269, ?_⟩
            refine J.pull 4 rfl rfl ?_
            obtain ⟨p237, H⟩ := gd_some H
            refine J.appL (enc := (Value.int .u8)) (xs := [IntKind.wrap .u8 a0_0]) (ys := t230) rfl Try.underlying22 ti5 rfl (by decide) rfl rfl (fun _ => rfl) (RdG.own 1 rfl) p237 (fun A235 c236 => ?_)
            refine J.pull 1 rfl rfl (J.drop ?_)
            refine J.p rfl rfl rfl rfl (Y.asg rfl) ?_
            refine J.nx ?_
            refine C.rs ?_
            refine J.p rfl rfl rfl rfl (Y.mv rfl) ?_
            refine J.p rfl rfl rfl rfl (Y.fa0 fa34_1 rfl rfl) ?_
            refine J.p rfl rfl rfl rfl (Y.fa0 fa32_0 rfl rfl) ?_
            refine J.r rfl rfl rfl rfl (Y.ldC 1 Try.underlying3 rfl rfl rfl rfl) ?_
            refine J.p rfl rfl rfl rfl (Y.conv Try.underlying3 Try.underlying25 rfl) ?_
            obtain ⟨t239, hC240, H⟩ := bind_some H
            refine J.call (us := []) (cap := []) rfl rfl rfl go49 (fun w hw => by have hcc := rNumber.calls K (IntKind.wrap .u64 a0_11) t239 hC240 w hw; exact hcc) (fun e w1 h1 => ?_)
            obtain ⟨A241, c242, rfl, hw268⟩ := h1
            refine ⟨_, _, rfl, hw268, ?_⟩
            refine J.pull 1 rfl rfl ?_
            obtain ⟨p246, H⟩ := gd_some H
            refine J.appL (enc := (Value.int .u8)) (xs := ([IntKind.wrap .u8 a0_0] ++ t230)) (ys := t239) rfl Try.underlying22 ti5 rfl (by decide) rfl rfl (fun _ => rfl) (RdG.own 1 rfl) p246 (fun A244 c245 => ?_)
            refine J.pull 1 rfl rfl (J.drop ?_)
            refine J.p rfl rfl rfl rfl (Y.asg rfl) ?_
            refine J.nx ?_
            refine C.rs ?_
            refine J.p rfl rfl rfl rfl (Y.mv rfl) ?_
            refine J.p rfl rfl rfl rfl (Y.fa0 fa34_1 rfl rfl) ?_
            refine J.p rfl rfl rfl rfl (Y.fa0 fa32_1 rfl rfl) ?_
            refine J.r rfl rfl rfl rfl (Y.ldC 1 Try.underlying3 rfl rfl rfl rfl) ?_
            refine J.p rfl rfl rfl rfl (Y.conv Try.underlying3 Try.underlying25 rfl) ?_
            obtain ⟨t248, hC249, H⟩ := bind_some H
            refine J.call (us := []) (cap := []) rfl rfl rfl go49 (fun w hw => by have hcc := rNumber.calls K (IntKind.wrap .u64 a0_12) t248 hC249 w hw; exact hcc) (fun e w1 h1 => ?_)
            obtain ⟨A250, c251, rfl, hw267⟩ := h1
            refine ⟨_, _, rfl, hw267, ?_⟩
            refine J.pull 1 rfl rfl ?_
            obtain ⟨p255, H⟩ := gd_some H
            refine J.appL (enc := (Value.int .u8)) (xs := (([IntKind.wrap .u8 a0_0] ++ t230) ++ t239)) (ys := t248) rfl Try.underlying22 ti5 rfl (by decide) rfl rfl (fun _ => rfl) (RdG.own 1 rfl) p255 (fun A253 c254 => ?_)
            refine J.pull 1 rfl rfl (J.drop ?_)
            refine J.p rfl rfl rfl rfl (Y.asg rfl) ?_
            refine J.nx ?_
            refine C.reg ?_
            refine J.p rfl rfl rfl rfl (Y.mv rfl) ?_
            refine J.p rfl rfl rfl rfl (Y.fa0 fa34_1 rfl rfl) ?_
            refine J.p rfl rfl rfl rfl (Y.fa0 fa32_2 rfl rfl) ?_
            refine J.r rfl rfl rfl rfl (Y.ldC 1 Try.underlying30 rfl rfl rfl rfl) ?_
            refine J.p rfl rfl rfl rfl (Y.conv Try.underlying30 Try.underlying25 rfl) ?_
            obtain ⟨t257, hC258, H⟩ := bind_some H
            refine J.call (us := []) (cap := []) rfl rfl rfl go49 (fun w hw => by have hcc := rNumber.calls K (IntKind.wrap .u64 a0_13) t257 hC258 w hw; exact hcc) (fun e w1 h1 => ?_)
            obtain ⟨A259, c260, rfl, hw266⟩ := h1
            refine ⟨_, _, rfl, hw266, ?_⟩
            refine J.pull 1 rfl rfl ?_
            obtain ⟨p264, H⟩ := gd_some H
            refine J.appL (enc := (Value.int .u8)) (xs := ((([IntKind.wrap .u8 a0_0] ++ t230) ++ t239) ++ t248)) (ys := t257) rfl Try.underlying22 ti5 rfl (by decide) rfl rfl (fun _ => rfl) (RdG.own 1 rfl) p264 (fun A262 c263 => ?_)
            refine J.pull 1 rfl rfl (J.drop ?_)
            refine J.p rfl rfl rfl rfl (Y.asg rfl) ?_
            refine J.nil ?_
            refine N.ib ?_
            obtain rfl := Option.some.inj H
            exact N.meet ((((([IntKind.wrap .u8 a0_0] ++ t230) ++ t239) ++ t248) ++ t257), (A262, c263)) ⟨HK141, trivial⟩ (by exact ⟨rfl, trivial⟩) (by exact fun w h => (St.pick [0] [_, _, _, _, _] h rfl))
    · refine N.at (s' := [(5, .slice j143.1 o142.length j143.2)]) (G' := own 5 1 j143.1 j143.2 (o142.map (Value.int .u8)) :: G) rfl rfl ?_
      refine N.nx ?_
      refine C.rs ?_
      refine J.p rfl rfl rfl rfl (Y.mv rfl) ?_
      refine J.p rfl rfl rfl rfl (Y.asg rfl) ?_
      refine J.p rfl rfl rfl rfl (Y.asg rfl) ?_
      refine J.nx ?_
      refine C.ret ?_
      obtain rfl := Option.some.inj H
      exact ret_ok (ks := [2, 3]) rfl rfl (fun w h => ⟨j143.1, j143.2, rfl, h⟩)
/-! ### salvor/salvorref4.Compare: function 28 -/
def rCompare.l1 (t7 : (List Int) × Int) (t14 : (List Int) × Int) : Nat → (Int) → Option ((Int) ⊕ (Unit))
  | 0, _ => none
  | k + 1, i131 => (if i131 < (t7.1.length : Int) then (some (decide (i131 < (t14.1.length : Int)))) else (some false)).bind fun o134 => if o134 = true then (gd ((0 : Int) ≤ i131 ∧ i131 < (t7.1.length : Int)) (gd ((0 : Int) ≤ i131 ∧ i131 < (t7.1.length : Int)) (gd ((0 : Int) ≤ i131 ∧ i131 < (t14.1.length : Int)) (gd ((0 : Int) ≤ i131 ∧ i131 < (t14.1.length : Int)) (if (rd t7.1 i131) < (rd t14.1 i131) then (some (.inl (-1))) else (gd ((0 : Int) ≤ i131 ∧ i131 < (t7.1.length : Int)) (gd ((0 : Int) ≤ i131 ∧ i131 < (t7.1.length : Int)) (gd ((0 : Int) ≤ i131 ∧ i131 < (t14.1.length : Int)) (gd ((0 : Int) ≤ i131 ∧ i131 < (t14.1.length : Int)) (if (rd t14.1 i131) < (rd t7.1 i131) then (some (.inl (1))) else (rCompare.l1 t7 t14 k (IntKind.wrap .i64 (i131 + 1))))))))))))) else (some (.inr ()))
def rCompare.f (K : Nat) (a0_0 : Int) (a0_1 : Int) (a0_2 : ByteArray) (a0_3 : ByteArray) (a1_0 : Int) (a1_1 : Int) (a1_2 : ByteArray) (a1_3 : ByteArray) : Option (Int) := (rOf.f a0_0 a0_1 a0_2 a0_3).bind fun t5 => (rBody.f K t5.1 t5.2.1 t5.2.2.1 t5.2.2.2.1 t5.2.2.2.2.1 t5.2.2.2.2.2.1 t5.2.2.2.2.2.2.1 t5.2.2.2.2.2.2.2.1 t5.2.2.2.2.2.2.2.2.1 t5.2.2.2.2.2.2.2.2.2.1 t5.2.2.2.2.2.2.2.2.2.2.1 t5.2.2.2.2.2.2.2.2.2.2.2.1 t5.2.2.2.2.2.2.2.2.2.2.2.2.1 t5.2.2.2.2.2.2.2.2.2.2.2.2.2).bind fun t7 => (rOf.f a1_0 a1_1 a1_2 a1_3).bind fun t12 => (rBody.f K t12.1 t12.2.1 t12.2.2.1 t12.2.2.2.1 t12.2.2.2.2.1 t12.2.2.2.2.2.1 t12.2.2.2.2.2.2.1 t12.2.2.2.2.2.2.2.1 t12.2.2.2.2.2.2.2.2.1 t12.2.2.2.2.2.2.2.2.2.1 t12.2.2.2.2.2.2.2.2.2.2.1 t12.2.2.2.2.2.2.2.2.2.2.2.1 t12.2.2.2.2.2.2.2.2.2.2.2.2.1 t12.2.2.2.2.2.2.2.2.2.2.2.2.2).bind fun t14 => (if t7.2 ≠ 0 then (some (decide (t14.2 ≠ 0))) else (some false)).bind fun o20 => if o20 = true then (some 0) else (if t7.2 ≠ 0 then (some (-1)) else (if t14.2 ≠ 0 then (some 1) else (if a0_0 < a1_0 then (some (-1)) else (if a1_0 < a0_0 then (some 1) else (thn (rCompare.l1 t7 t14 K 0) fun o80 => if (t7.1.length : Int) < (t14.1.length : Int) then (some (-1)) else (if (t14.1.length : Int) < (t7.1.length : Int) then (some 1) else (some 0)))))))
theorem rCompare.calls {B : Nat} {w0 : World} {G : List HP} (K : Nat) (a0_0 : Int) (a0_1 : Int) (a0_2 : ByteArray) (a0_3 : ByteArray) (a1_0 : Int) (a1_1 : Int) (a1_2 : ByteArray) (a1_3 : ByteArray) (r : Int) (H : rCompare.f K a0_0 a0_1 a0_2 a0_3 a1_0 a1_1 a1_2 a1_3 = some r) (w : World) (hw : St B w0 (G) w) :
    Calls Try.prog 28 [.agg #[.int .u64 a0_0, .int .i64 a0_1, .string a0_2, .string a0_3], .agg #[.int .u64 a1_0, .int .i64 a1_1, .string a1_2, .string a1_3]].toArray w (fun e w' => e = .returned (.int .i64 r) ∧ St B w0 (G) w') := by
  unfold rCompare.f at H
  refine calls_of (n := 89) (s := [(0, .agg #[.int .u64 a0_0, .int .i64 a0_1, .string a0_2, .string a0_3]), (1, .agg #[.int .u64 a1_0, .int .i64 a1_1, .string a1_2, .string a1_3])]) Try.func28 rfl rfl rfl rfl ?_ hw
  refine C.rs ?_
  refine J.box (L := [.int .u64 a0_0, .int .i64 a0_1, .string a0_2, .string a0_3]) rfl rfl rfl (fun g1 => ?_)
  refine J.box (L := [.int .u64 a1_0, .int .i64 a1_1, .string a1_2, .string a1_3]) rfl rfl rfl (fun g3 => ?_)
  refine J.p rfl rfl rfl rfl (Y.asg rfl) ?_
  refine J.nx ?_
  refine C.rs ?_
  refine J.r rfl rfl rfl rfl (Y.ldCA (us := [.int .u64 a0_0, .int .i64 a0_1, .string a0_2, .string a0_3]) 1 Try.underlying27 rfl ti27 rfl rfl rfl rfl) ?_
  obtain ⟨t5, hC6, H⟩ := bind_some H
  refine J.call (us := []) (cap := []) rfl rfl rfl go57 (fun w hw => by have hcc := rOf.calls a0_0 a0_1 a0_2 a0_3 t5 hC6 w hw; exact hcc) (fun e w1 h1 => ?_)
  obtain ⟨rfl, hw164⟩ := h1
  refine ⟨_, _, rfl, hw164, ?_⟩
  obtain ⟨t7, hC8, H⟩ := bind_some H
  refine J.call (us := []) (cap := []) rfl rfl rfl go22 (fun w hw => by have hcc := rBody.calls K t5.1 t5.2.1 t5.2.2.1 t5.2.2.2.1 t5.2.2.2.2.1 t5.2.2.2.2.2.1 t5.2.2.2.2.2.2.1 t5.2.2.2.2.2.2.2.1 t5.2.2.2.2.2.2.2.2.1 t5.2.2.2.2.2.2.2.2.2.1 t5.2.2.2.2.2.2.2.2.2.2.1 t5.2.2.2.2.2.2.2.2.2.2.2.1 t5.2.2.2.2.2.2.2.2.2.2.2.2.1 t5.2.2.2.2.2.2.2.2.2.2.2.2.2 t7 hC8 w hw; exact hcc) (fun e w1 h1 => ?_)
  obtain ⟨A9, c10, rfl, hw163⟩ := h1
  refine ⟨_, _, rfl, hw163, ?_⟩
  refine J.p rfl rfl rfl rfl (Y.mv rfl) ?_
  refine J.p rfl rfl rfl rfl (Y.ext rfl rfl) ?_
  refine J.p rfl rfl rfl rfl (Y.ext rfl rfl) ?_
  refine J.p rfl rfl rfl rfl (Y.asg rfl) ?_
  refine J.p rfl rfl rfl rfl (Y.asg rfl) ?_
  refine J.nx ?_
  refine C.rs ?_
  refine J.r rfl rfl rfl rfl (Y.ldCA (us := [.int .u64 a1_0, .int .i64 a1_1, .string a1_2, .string a1_3]) 1 Try.underlying27 rfl ti27 rfl rfl rfl rfl) ?_
  obtain ⟨t12, hC13, H⟩ := bind_some H
  refine J.call (us := []) (cap := []) rfl rfl rfl go57 (fun w hw => by have hcc := rOf.calls a1_0 a1_1 a1_2 a1_3 t12 hC13 w hw; exact hcc) (fun e w1 h1 => ?_)
  obtain ⟨rfl, hw162⟩ := h1
  refine ⟨_, _, rfl, hw162, ?_⟩
  obtain ⟨t14, hC15, H⟩ := bind_some H
  refine J.call (us := []) (cap := []) rfl rfl rfl go22 (fun w hw => by have hcc := rBody.calls K t12.1 t12.2.1 t12.2.2.1 t12.2.2.2.1 t12.2.2.2.2.1 t12.2.2.2.2.2.1 t12.2.2.2.2.2.2.1 t12.2.2.2.2.2.2.2.1 t12.2.2.2.2.2.2.2.2.1 t12.2.2.2.2.2.2.2.2.2.1 t12.2.2.2.2.2.2.2.2.2.2.1 t12.2.2.2.2.2.2.2.2.2.2.2.1 t12.2.2.2.2.2.2.2.2.2.2.2.2.1 t12.2.2.2.2.2.2.2.2.2.2.2.2.2 t14 hC15 w hw; exact hcc) (fun e w1 h1 => ?_)
  obtain ⟨A16, c17, rfl, hw161⟩ := h1
  refine ⟨_, _, rfl, hw161, ?_⟩
  refine J.p rfl rfl rfl rfl (Y.mv rfl) ?_
  refine J.p rfl rfl rfl rfl (Y.ext rfl rfl) ?_
  refine J.p rfl rfl rfl rfl (Y.ext rfl rfl) ?_
  refine J.p rfl rfl rfl rfl (Y.asg rfl) ?_
  refine J.p rfl rfl rfl rfl (Y.asg rfl) ?_
  refine J.nx ?_
  refine C.seq ?_
  refine C.blk ?_
  refine C.rs ?_
  refine J.joinB H (fun (o20 : Bool) (j21 : Unit) => [(2, .pointer (some ⟨g1, 0, none⟩)), (3, .pointer (some ⟨g3, 0, none⟩)), (5, .slice A9 t7.1.length c10), (6, .int .i64 t7.2), (7, .slice A16 t14.1.length c17), (8, .int .i64 t14.2), (22, .bool o20)]) (fun (o20 : Bool) (j21 : Unit) => cells g1 27 [.int .u64 a0_0, .int .i64 a0_1, .string a0_2, .string a0_3] :: cells g3 27 [.int .u64 a1_0, .int .i64 a1_1, .string a1_2, .string a1_3] :: own 5 1 A9 c10 (t7.1.map (Value.int .u8)) :: own 5 1 A16 c17 (t14.1.map (Value.int .u8)) :: G) (fun (o20 : Bool) (j21 : Unit) => True) (fun o22 H HK23 => ?_) (fun o20 j21 H _ => ?_)
  · refine J.p rfl rfl rfl rfl (Y.mv rfl) ?_
    refine J.p rfl rfl rfl rfl (Y.bin rfl rfl rfl) ?_
    refine J.p rfl rfl rfl rfl (Y.mv rfl) ?_
    refine split2 H (fun c24 H => ?_) (fun c24 H => ?_)
    · refine J.as (k := 25) rfl (congrArg Value.bool (decide_eq_true c24)) ?_
      refine J.p rfl rfl rfl rfl (Y.mv rfl) ?_
      refine J.p rfl rfl rfl rfl (Y.bin rfl rfl rfl) ?_
      refine J.p rfl rfl rfl rfl (Y.pickT rfl rfl) ?_
      refine J.p rfl rfl rfl rfl (Y.asg rfl) ?_
      refine J.nil ?_
      obtain rfl := Option.some.inj H
      exact N.meet (decide (t14.2 ≠ 0), ()) ⟨HK23, trivial⟩ (by exact ⟨rfl, rfl, rfl, rfl, rfl, rfl, rfl, trivial⟩) (by exact fun w h => (St.pick [3, 2, 1, 0] [_, _, _, _] h rfl))
    · refine J.as (k := 25) rfl (congrArg Value.bool (decide_eq_false c24)) ?_
      refine J.skip rfl rfl ?_
      refine J.skip rfl rfl ?_
      refine J.p rfl rfl rfl rfl (Y.pickF rfl rfl) ?_
      refine J.p rfl rfl rfl rfl (Y.asg rfl) ?_
      refine J.nil ?_
      obtain rfl := Option.some.inj H
      exact N.meet (false, ()) ⟨HK23, trivial⟩ (by exact ⟨rfl, rfl, rfl, rfl, rfl, rfl, rfl, trivial⟩) (by exact fun w h => (St.pick [3, 2, 1, 0] [_, _, _, _] h rfl))
  · refine C.at (s' := [(2, .pointer (some ⟨g1, 0, none⟩)), (3, .pointer (some ⟨g3, 0, none⟩)), (5, .slice A9 t7.1.length c10), (6, .int .i64 t7.2), (7, .slice A16 t14.1.length c17), (8, .int .i64 t14.2), (22, .bool o20)]) (G' := cells g1 27 [.int .u64 a0_0, .int .i64 a0_1, .string a0_2, .string a0_3] :: cells g3 27 [.int .u64 a1_0, .int .i64 a1_1, .string a1_2, .string a1_3] :: own 5 1 A9 c10 (t7.1.map (Value.int .u8)) :: own 5 1 A16 c17 (t14.1.map (Value.int .u8)) :: G) rfl rfl ?_
    refine split2 H (fun c25 H => ?_) (fun c25 H => ?_)
    · refine C.condT (congrArg (fun b => some (Value.bool b)) (c25)) ?_
      refine C.rs ?_
      refine J.p rfl rfl rfl rfl (Y.asg rfl) ?_
      refine J.nx ?_
      refine C.ret ?_
      obtain rfl := Option.some.inj H
      refine T.ib ?_
      refine T.th ?_
      exact ret_ok (ks := [4]) rfl rfl (fun w h => ⟨rfl, (St.pick [] [_, _, _, _] h rfl)⟩)
    · refine C.condF (congrArg (fun b => some (Value.bool b)) (nt c25)) ?_
      refine C.rs ?_
      refine J.p rfl rfl rfl rfl (Y.mv rfl) ?_
      refine J.p rfl rfl rfl rfl (Y.bin rfl rfl rfl) ?_
      refine J.p rfl rfl rfl rfl (Y.asg rfl) ?_
      refine J.nx ?_
      refine split2 H (fun c26 H => ?_) (fun c26 H => ?_)
      · refine C.condT (congrArg (fun b => some (Value.bool b)) (decide_eq_true c26)) ?_
        refine C.rs ?_
        refine J.p rfl rfl rfl rfl (Y.asg rfl) ?_
        refine J.nx ?_
        refine C.ret ?_
        obtain rfl := Option.some.inj H
        refine T.ib ?_
        refine T.th ?_
        exact ret_ok (ks := [4]) rfl rfl (fun w h => ⟨rfl, (St.pick [] [_, _, _, _] h rfl)⟩)
      · refine C.condF (congrArg (fun b => some (Value.bool b)) (decide_eq_false c26)) ?_
        refine C.rs ?_
        refine J.p rfl rfl rfl rfl (Y.mv rfl) ?_
        refine J.p rfl rfl rfl rfl (Y.bin rfl rfl rfl) ?_
        refine J.p rfl rfl rfl rfl (Y.asg rfl) ?_
        refine J.nx ?_
        refine split2 H (fun c27 H => ?_) (fun c27 H => ?_)
        · refine C.condT (congrArg (fun b => some (Value.bool b)) (decide_eq_true c27)) ?_
          refine C.rs ?_
          refine J.p rfl rfl rfl rfl (Y.asg rfl) ?_
          refine J.nx ?_
          refine C.ret ?_
          obtain rfl := Option.some.inj H
          refine T.ib ?_
          refine T.th ?_
          exact ret_ok (ks := [4]) rfl rfl (fun w h => ⟨rfl, (St.pick [] [_, _, _, _] h rfl)⟩)
        · refine C.condF (congrArg (fun b => some (Value.bool b)) (decide_eq_false c27)) ?_
          refine C.rs ?_
          refine J.p rfl rfl rfl rfl (Y.fa0 fa27_0 rfl rfl) ?_
          refine J.r rfl rfl rfl rfl (Y.ldC 0 Try.underlying25 rfl rfl rfl rfl) ?_
          refine J.p rfl rfl rfl rfl (Y.fa0 fa27_0 rfl rfl) ?_
          refine J.r rfl rfl rfl rfl (Y.ldC 1 Try.underlying25 rfl rfl rfl rfl) ?_
          refine J.p rfl rfl rfl rfl (Y.bin rfl rfl rfl) ?_
          refine J.p rfl rfl rfl rfl (Y.asg rfl) ?_
          refine J.nx ?_
          refine split2 H (fun c28 H => ?_) (fun c28 H => ?_)
          · refine C.condT (congrArg (fun b => some (Value.bool b)) (decide_eq_true c28)) ?_
            refine C.rs ?_
            refine J.p rfl rfl rfl rfl (Y.asg rfl) ?_
            refine J.nx ?_
            refine C.ret ?_
            obtain rfl := Option.some.inj H
            refine T.ib ?_
            refine T.th ?_
            exact ret_ok (ks := [4]) rfl rfl (fun w h => ⟨rfl, (St.pick [] [_, _, _, _] h rfl)⟩)
          · refine C.condF (congrArg (fun b => some (Value.bool b)) (decide_eq_false c28)) ?_
            refine C.rs ?_
            refine J.p rfl rfl rfl rfl (Y.fa0 fa27_0 rfl rfl) ?_
            refine J.r rfl rfl rfl rfl (Y.ldC 0 Try.underlying25 rfl rfl rfl rfl) ?_
            refine J.p rfl rfl rfl rfl (Y.fa0 fa27_0 rfl rfl) ?_
            refine J.r rfl rfl rfl rfl (Y.ldC 1 Try.underlying25 rfl rfl rfl rfl) ?_
            refine J.p rfl rfl rfl rfl (Y.bin rfl rfl rfl) ?_
            refine J.p rfl rfl rfl rfl (Y.asg rfl) ?_
            refine J.nx ?_
            refine split2 H (fun c29 H => ?_) (fun c29 H => ?_)
            · refine C.condT (congrArg (fun b => some (Value.bool b)) (decide_eq_true c29)) ?_
              refine C.rs ?_
              refine J.p rfl rfl rfl rfl (Y.asg rfl) ?_
              refine J.nx ?_
              refine C.ret ?_
              obtain rfl := Option.some.inj H
              refine T.ib ?_
              refine T.th ?_
              exact ret_ok (ks := [4]) rfl rfl (fun w h => ⟨rfl, (St.pick [] [_, _, _, _] h rfl)⟩)
            · refine C.condF (congrArg (fun b => some (Value.bool b)) (decide_eq_false c29)) ?_
              refine C.skip ?_
              refine N.ib ?_
              refine N.nx ?_
              refine C.seq ?_
              refine C.rs ?_
              refine J.p rfl rfl rfl rfl (Y.asg rfl) ?_
              refine J.nx ?_
              refine C.joinNR H (fun (o80 : Unit) (j81 : Unit) => [(5, .slice A9 t7.1.length c10), (7, .slice A16 t14.1.length c17)]) (fun (o80 : Unit) (j81 : Unit) => own 5 1 A9 c10 (t7.1.map (Value.int .u8)) :: own 5 1 A16 c17 (t14.1.map (Value.int .u8)) :: G) (fun (o80 : Unit) (j81 : Unit) => True) (fun o78 H HK79 => ?_) (fun o80 j81 H _ => ?_)
              · refine C.blk ?_
                refine C.loop (fun (i : Nat × (Int) × (Unit)) => [(5, .slice A9 t7.1.length c10), (7, .slice A16 t14.1.length c17), (9, .int .i64 i.2.1)]) (fun (i : Nat × (Int) × (Unit)) => own 5 1 A9 c10 (t7.1.map (Value.int .u8)) :: own 5 1 A16 c17 (t14.1.map (Value.int .u8)) :: G) (fun (i : Nat × (Int) × (Unit)) => rCompare.l1 t7 t14 i.1 i.2.1 = some o78 ∧ (True)) (fun i => i.1) (K, 0, ()) ⟨H, trivial⟩ (by exact ⟨rfl, rfl, rfl, trivial⟩) (by exact fun w h => (St.pick [2, 3] [_, _, _, _] h rfl)) ?_
                rintro ⟨k158, i131, j132⟩ ⟨H, _⟩
                replace H : rCompare.l1 t7 t14 k158 i131 = some o78 := H
                obtain ⟨k130, rfl⟩ : ∃ m, k158 = m + 1 := by cases k158 with | zero => exact absurd H (by simp [rCompare.l1]) | succ m => exact ⟨m, rfl⟩
                rw [rCompare.l1] at H
                refine C.at (s' := [(5, .slice A9 t7.1.length c10), (7, .slice A16 t14.1.length c17), (9, .int .i64 i131)]) (G' := own 5 1 A9 c10 (t7.1.map (Value.int .u8)) :: own 5 1 A16 c17 (t14.1.map (Value.int .u8)) :: G) rfl rfl ?_
                refine C.seq ?_
                refine C.rs ?_
                refine J.joinB H (fun (o134 : Bool) (j135 : Unit) => [(5, .slice A9 t7.1.length c10), (7, .slice A16 t14.1.length c17), (9, .int .i64 i131), (56, .bool o134)]) (fun (o134 : Bool) (j135 : Unit) => own 5 1 A9 c10 (t7.1.map (Value.int .u8)) :: own 5 1 A16 c17 (t14.1.map (Value.int .u8)) :: G) (fun (o134 : Bool) (j135 : Unit) => True) (fun o136 H HK137 => ?_) (fun o134 j135 H _ => ?_)
                · refine J.p rfl rfl rfl rfl (Y.mv rfl) ?_
                  refine J.p rfl rfl rfl rfl (Y.mv rfl) ?_
                  refine J.p rfl rfl rfl rfl (Y.lenS Try.underlying22 rfl) ?_
                  refine J.p rfl rfl rfl rfl (Y.bin rfl rfl rfl) ?_
                  refine J.p rfl rfl rfl rfl (Y.mv rfl) ?_
                  refine split2 H (fun c138 H => ?_) (fun c138 H => ?_)
                  · refine J.as (k := 51) rfl (congrArg Value.bool (decide_eq_true c138)) ?_
                    refine J.p rfl rfl rfl rfl (Y.mv rfl) ?_
                    refine J.p rfl rfl rfl rfl (Y.mv rfl) ?_
                    refine J.p rfl rfl rfl rfl (Y.lenS Try.underlying22 rfl) ?_
                    refine J.p rfl rfl rfl rfl (Y.bin rfl rfl rfl) ?_
                    refine J.p rfl rfl rfl rfl (Y.pickT rfl rfl) ?_
                    refine J.nil ?_
                    obtain rfl := Option.some.inj H
                    exact N.meet (decide (i131 < (t14.1.length : Int)), ()) ⟨HK137, trivial⟩ (by exact ⟨rfl, rfl, rfl, rfl, trivial⟩) (by exact fun w h => h)
                  · refine J.as (k := 51) rfl (congrArg Value.bool (decide_eq_false c138)) ?_
                    refine J.skip rfl rfl ?_
                    refine J.skip rfl rfl ?_
                    refine J.skip rfl rfl ?_
                    refine J.skip rfl rfl ?_
                    refine J.p rfl rfl rfl rfl (Y.pickF rfl rfl) ?_
                    refine J.nil ?_
                    obtain rfl := Option.some.inj H
                    exact N.meet (false, ()) ⟨HK137, trivial⟩ (by exact ⟨rfl, rfl, rfl, rfl, trivial⟩) (by exact fun w h => h)
                · refine C.at (s' := [(5, .slice A9 t7.1.length c10), (7, .slice A16 t14.1.length c17), (9, .int .i64 i131), (56, .bool o134)]) (G' := own 5 1 A9 c10 (t7.1.map (Value.int .u8)) :: own 5 1 A16 c17 (t14.1.map (Value.int .u8)) :: G) rfl rfl ?_
                  refine split2 H (fun c139 H => ?_) (fun c139 H => ?_)
                  · refine C.condT (congrArg (fun b => some (Value.bool b)) (c139)) ?_
                    refine C.skip ?_
                    refine N.nx ?_
                    refine C.seq ?_
                    refine C.blk ?_
                    refine C.seq ?_
                    refine C.seq ?_
                    refine C.drawn (fuel := 9) (ls := [false, false, false, false, false, false, false, false, false]) [] (own 5 1 A9 c10 (t7.1.map (Value.int .u8)) :: own 5 1 A16 c17 (t14.1.map (Value.int .u8)) :: G) mx rfl rfl ?_
                    refine D.p (ls' := [true, false, false, false, false, false, false, false, false]) 0 rfl rfl rfl rfl (by kernel_rfl) rfl (Y.mv rfl) ?_
                    refine D.p (ls' := [true, true, false, false, false, false, false, false, false]) 1 rfl rfl rfl rfl (by kernel_rfl) rfl (Y.mv rfl) ?_
                    obtain ⟨p142, H⟩ := gd_some H
                    refine D.know ((RdG.own 0 rfl).some_ (j := Int.toNat i131) (by rw [List.length_map]; exact idx_lt p142)) (fun hh => ?_)
                    obtain ⟨a140, ha141⟩ := hh
                    refine D.p (ls' := [true, true, true, false, false, false, false, false, false]) 2 rfl rfl rfl rfl (by kernel_rfl) rfl (Y.ixa Try.underlying22 ti5 rfl rfl p142 ha141) ?_
                    obtain ⟨p143, H⟩ := gd_some H
                    refine D.r (ls' := [true, true, true, true, false, false, false, false, false]) 3 1 0 rfl rfl rfl rfl (by kernel_rfl) (by kernel_rfl) rfl rfl (Y.ldE Try.underlying5 rfl rfl ha141 p143 (RdG.own 0 rfl)) ?_
                    refine D.p (ls' := [true, true, true, true, true, false, false, false, false]) 4 rfl rfl rfl rfl (by kernel_rfl) rfl (Y.mv rfl) ?_
                    refine D.p (ls' := [true, true, true, true, true, true, false, false, false]) 5 rfl rfl rfl rfl (by kernel_rfl) rfl (Y.mv rfl) ?_
                    obtain ⟨p146, H⟩ := gd_some H
                    refine D.know ((RdG.own 1 rfl).some_ (j := Int.toNat i131) (by rw [List.length_map]; exact idx_lt p146)) (fun hh => ?_)
                    obtain ⟨a144, ha145⟩ := hh
                    refine D.p (ls' := [true, true, true, true, true, true, true, false, false]) 6 rfl rfl rfl rfl (by kernel_rfl) rfl (Y.ixa Try.underlying22 ti5 rfl rfl p146 ha145) ?_
                    obtain ⟨p147, H⟩ := gd_some H
                    refine D.r (ls' := [true, true, true, true, true, true, true, true, false]) 7 1 0 rfl rfl rfl rfl (by kernel_rfl) (by kernel_rfl) rfl rfl (Y.ldE Try.underlying5 rfl rfl ha145 p147 (RdG.own 1 rfl)) ?_
                    refine D.p (ls' := [true, true, true, true, true, true, true, true, true]) 8 rfl rfl rfl rfl (by kernel_rfl) rfl (Y.bin rfl rfl rfl) ?_
                    refine D.nil (by kernel_rfl) ?_
                    refine N.nx ?_
                    refine split2 H (fun c148 H => ?_) (fun c148 H => ?_)
                    · refine C.condT (congrArg (fun b => some (Value.bool b)) (decide_eq_true c148)) ?_
                      refine C.rs ?_
                      refine J.p rfl rfl rfl rfl (Y.asg rfl) ?_
                      refine J.nx ?_
                      refine C.ret ?_
                      obtain rfl := Option.some.inj H
                      obtain rfl := fin_inl HK79
                      refine T.th ?_
                      refine T.ib ?_
                      refine T.th ?_
                      refine T.th ?_
                      refine T.ib ?_
                      refine T.th ?_
                      refine T.th ?_
                      exact ret_ok (ks := [4]) rfl rfl (fun w h => ⟨rfl, (St.pick [] [_, _] h rfl)⟩)
                    · refine C.condF (congrArg (fun b => some (Value.bool b)) (decide_eq_false c148)) ?_
                      refine C.skip ?_
                      refine N.nx ?_
                      refine C.seq ?_
                      refine C.drawn (fuel := 9) (ls := [false, false, false, false, false, false, false, false, false]) [] (own 5 1 A9 c10 (t7.1.map (Value.int .u8)) :: own 5 1 A16 c17 (t14.1.map (Value.int .u8)) :: G) mx rfl rfl ?_
                      refine D.p (ls' := [true, false, false, false, false, false, false, false, false]) 0 rfl rfl rfl rfl (by kernel_rfl) rfl (Y.mv rfl) ?_
                      refine D.p (ls' := [true, true, false, false, false, false, false, false, false]) 1 rfl rfl rfl rfl (by kernel_rfl) rfl (Y.mv rfl) ?_
                      obtain ⟨p151, H⟩ := gd_some H
                      refine D.know ((RdG.own 0 rfl).some_ (j := Int.toNat i131) (by rw [List.length_map]; exact idx_lt p151)) (fun hh => ?_)
                      obtain ⟨a149, ha150⟩ := hh
                      refine D.p (ls' := [true, true, true, false, false, false, false, false, false]) 2 rfl rfl rfl rfl (by kernel_rfl) rfl (Y.ixa Try.underlying22 ti5 rfl rfl p151 ha150) ?_
                      obtain ⟨p152, H⟩ := gd_some H
                      refine D.r (ls' := [true, true, true, true, false, false, false, false, false]) 3 1 0 rfl rfl rfl rfl (by kernel_rfl) (by kernel_rfl) rfl rfl (Y.ldE Try.underlying5 rfl rfl ha150 p152 (RdG.own 0 rfl)) ?_
                      refine D.p (ls' := [true, true, true, true, true, false, false, false, false]) 4 rfl rfl rfl rfl (by kernel_rfl) rfl (Y.mv rfl) ?_
                      refine D.p (ls' := [true, true, true, true, true, true, false, false, false]) 5 rfl rfl rfl rfl (by kernel_rfl) rfl (Y.mv rfl) ?_
                      obtain ⟨p155, H⟩ := gd_some H
                      refine D.know ((RdG.own 1 rfl).some_ (j := Int.toNat i131) (by rw [List.length_map]; exact idx_lt p155)) (fun hh => ?_)
                      obtain ⟨a153, ha154⟩ := hh
                      refine D.p (ls' := [true, true, true, true, true, true, true, false, false]) 6 rfl rfl rfl rfl (by kernel_rfl) rfl (Y.ixa Try.underlying22 ti5 rfl rfl p155 ha154) ?_
                      obtain ⟨p156, H⟩ := gd_some H
                      refine D.r (ls' := [true, true, true, true, true, true, true, true, false]) 7 1 0 rfl rfl rfl rfl (by kernel_rfl) (by kernel_rfl) rfl rfl (Y.ldE Try.underlying5 rfl rfl ha154 p156 (RdG.own 1 rfl)) ?_
                      refine D.p (ls' := [true, true, true, true, true, true, true, true, true]) 8 rfl rfl rfl rfl (by kernel_rfl) rfl (Y.bin rfl rfl rfl) ?_
                      refine D.nil (by kernel_rfl) ?_
                      refine N.nx ?_
                      refine split2 H (fun c157 H => ?_) (fun c157 H => ?_)
                      · refine C.condT (congrArg (fun b => some (Value.bool b)) (decide_eq_true c157)) ?_
                        refine C.rs ?_
                        refine J.p rfl rfl rfl rfl (Y.asg rfl) ?_
                        refine J.nx ?_
                        refine C.ret ?_
                        obtain rfl := Option.some.inj H
                        obtain rfl := fin_inl HK79
                        refine T.ib ?_
                        refine T.th ?_
                        refine T.th ?_
                        refine T.ib ?_
                        refine T.th ?_
                        refine T.th ?_
                        exact ret_ok (ks := [4]) rfl rfl (fun w h => ⟨rfl, (St.pick [] [_, _] h rfl)⟩)
                      · refine C.condF (congrArg (fun b => some (Value.bool b)) (decide_eq_false c157)) ?_
                        refine C.skip ?_
                        refine N.ib ?_
                        refine N.nx ?_
                        refine C.reg ?_
                        refine J.p rfl rfl rfl rfl (Y.mv rfl) ?_
                        refine J.p rfl rfl rfl rfl (Y.bin rfl rfl rfl) ?_
                        refine J.p rfl rfl rfl rfl (Y.asg rfl) ?_
                        refine J.nil ?_
                        exact N.again (k130, IntKind.wrap .i64 (i131 + 1), ()) ⟨H, trivial⟩ (Nat.lt_succ_self _) (by exact ⟨rfl, rfl, rfl, trivial⟩) (by exact fun w h => h)
                  · refine C.condF (congrArg (fun b => some (Value.bool b)) (nt c139)) ?_
                    refine C.exit ?_
                    refine X.th ?_
                    refine X.th ?_
                    refine X.hit ?_
                    obtain rfl := Option.some.inj H
                    exact N.meet ((), ()) ⟨fin_inr HK79, trivial⟩ (by exact ⟨rfl, rfl, trivial⟩) (by exact fun w h => h)
              · refine N.at (s' := [(5, .slice A9 t7.1.length c10), (7, .slice A16 t14.1.length c17)]) (G' := own 5 1 A9 c10 (t7.1.map (Value.int .u8)) :: own 5 1 A16 c17 (t14.1.map (Value.int .u8)) :: G) rfl rfl ?_
                refine N.nx ?_
                refine C.seq ?_
                refine C.blk ?_
                refine C.rs ?_
                refine J.p rfl rfl rfl rfl (Y.mv rfl) ?_
                refine J.p rfl rfl rfl rfl (Y.lenS Try.underlying22 rfl) ?_
                refine J.p rfl rfl rfl rfl (Y.mv rfl) ?_
                refine J.p rfl rfl rfl rfl (Y.lenS Try.underlying22 rfl) ?_
                refine J.p rfl rfl rfl rfl (Y.bin rfl rfl rfl) ?_
                refine J.p rfl rfl rfl rfl (Y.asg rfl) ?_
                refine J.nx ?_
                refine split2 H (fun c159 H => ?_) (fun c159 H => ?_)
                · refine C.condT (congrArg (fun b => some (Value.bool b)) (decide_eq_true c159)) ?_
                  refine C.rs ?_
                  refine J.p rfl rfl rfl rfl (Y.asg rfl) ?_
                  refine J.nx ?_
                  refine C.ret ?_
                  obtain rfl := Option.some.inj H
                  refine T.ib ?_
                  refine T.th ?_
                  exact ret_ok (ks := [4]) rfl rfl (fun w h => ⟨rfl, (St.pick [] [_, _] h rfl)⟩)
                · refine C.condF (congrArg (fun b => some (Value.bool b)) (decide_eq_false c159)) ?_
                  refine C.rs ?_
                  refine J.p rfl rfl rfl rfl (Y.mv rfl) ?_
                  refine J.p rfl rfl rfl rfl (Y.lenS Try.underlying22 rfl) ?_
                  refine J.p rfl rfl rfl rfl (Y.mv rfl) ?_
                  refine J.p rfl rfl rfl rfl (Y.lenS Try.underlying22 rfl) ?_
                  refine J.p rfl rfl rfl rfl (Y.bin rfl rfl rfl) ?_
                  refine J.p rfl rfl rfl rfl (Y.asg rfl) ?_
                  refine J.nx ?_
                  refine split2 H (fun c160 H => ?_) (fun c160 H => ?_)
                  · refine C.condT (congrArg (fun b => some (Value.bool b)) (decide_eq_true c160)) ?_
                    refine C.rs ?_
                    refine J.p rfl rfl rfl rfl (Y.asg rfl) ?_
                    refine J.nx ?_
                    refine C.ret ?_
                    obtain rfl := Option.some.inj H
                    refine T.ib ?_
                    refine T.th ?_
                    exact ret_ok (ks := [4]) rfl rfl (fun w h => ⟨rfl, (St.pick [] [_, _] h rfl)⟩)
                  · refine C.condF (congrArg (fun b => some (Value.bool b)) (decide_eq_false c160)) ?_
                    refine C.skip ?_
                    refine N.ib ?_
                    refine N.nx ?_
                    refine C.rs ?_
                    refine J.p rfl rfl rfl rfl (Y.asg rfl) ?_
                    refine J.nx ?_
                    refine C.ret ?_
                    obtain rfl := Option.some.inj H
                    exact ret_ok (ks := [4]) rfl rfl (fun w h => ⟨rfl, (St.pick [] [_, _] h rfl)⟩)
end Go.Proofs.Ytakolnamobkkkaa
