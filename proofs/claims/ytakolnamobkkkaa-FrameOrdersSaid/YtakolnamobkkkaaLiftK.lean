/- Own text, printed by the lifting program: each Go function beside a plain function, and the proof that a call of the one comes to the other. Conditions: what came in can be read. -/
import Derived.Test.YtakolnamobkkkaaLiftA
set_option linter.unusedVariables false
set_option linter.unusedSimpArgs false
set_option maxRecDepth 10000
set_option maxHeartbeats 4000000
namespace Go.Proofs.Ytakolnamobkkkaa
open Go Go.Sx
theorem ti3 : TI Try.prog 3 1 8 (.int .i64 0) := TI.of (by kernel_rfl)
theorem ti9 : TI Try.prog 9 1 16 (.string ByteArray.empty) := TI.of (by kernel_rfl)
theorem ti29 : TI Try.prog 29 5 48 (.agg #[.int .u64 0, .int .i64 0, .int .i64 0, .int .i64 0, .string ByteArray.empty]) := TI.of (by kernel_rfl)
theorem ti32 : TI Try.prog 32 3 24 (.agg #[.int .i64 0, .int .i64 0, .int .u32 0]) := TI.of (by kernel_rfl)
theorem ti34 : TI Try.prog 34 4 32 (.agg #[.int .i64 0, .int .i64 0, .int .i64 0, .int .u32 0]) := TI.of (by kernel_rfl)
theorem fa27_0 : FA Try.prog 27 0 0 := FA.of Try.underlying27 rfl ti25 (by decide) rfl
theorem fa27_2 : FA Try.prog 27 2 2 := FA.of Try.underlying27 rfl ti9 (by decide) rfl
theorem fa27_3 : FA Try.prog 27 3 3 := FA.of Try.underlying27 rfl ti9 (by decide) rfl
theorem fa29_0 : FA Try.prog 29 0 0 := FA.of Try.underlying29 rfl ti25 (by decide) rfl
theorem fa29_1 : FA Try.prog 29 1 1 := FA.of Try.underlying29 rfl ti24 (by decide) rfl
theorem fa29_2 : FA Try.prog 29 2 2 := FA.of Try.underlying29 rfl ti3 (by decide) rfl
theorem fa29_3 : FA Try.prog 29 3 3 := FA.of Try.underlying29 rfl ti3 (by decide) rfl
theorem fa29_4 : FA Try.prog 29 4 4 := FA.of Try.underlying29 rfl ti9 (by decide) rfl
theorem fa32_0 : FA Try.prog 32 0 0 := FA.of Try.underlying32 rfl ti3 (by decide) rfl
theorem fa32_1 : FA Try.prog 32 1 1 := FA.of Try.underlying32 rfl ti3 (by decide) rfl
theorem fa34_0 : FA Try.prog 34 0 0 := FA.of Try.underlying34 rfl ti3 (by decide) rfl
theorem fa34_1 : FA Try.prog 34 1 1 := FA.of Try.underlying34 rfl ti32 (by decide) rfl
theorem fa36_0 : FA Try.prog 36 0 0 := FA.of Try.underlying36 rfl ti24 (by decide) rfl
theorem fa36_1 : FA Try.prog 36 1 1 := FA.of Try.underlying36 rfl ti27 (by decide) rfl
theorem fa36_2 : FA Try.prog 36 2 5 := FA.of Try.underlying36 rfl ti29 (by decide) rfl
theorem fa36_3 : FA Try.prog 36 3 10 := FA.of Try.underlying36 rfl ti34 (by decide) rfl
theorem go71 : GoF Try.prog 71 := GoF.of Try.func71 (by kernel_rfl) (by kernel_rfl)
theorem go72 : GoF Try.prog 72 := GoF.of Try.func72 (by kernel_rfl) (by kernel_rfl)
/-! ### salvor/frame.check: function 46 -/
def check.f (a0_0 : Int) (a0_1 : Int) (a0_2 : Int) (a0_3 : ByteArray) (a0_4 : ByteArray) (a0_5 : Int) (a0_6 : Int) (a0_7 : Int) (a0_8 : Int) (a0_9 : ByteArray) (a0_10 : Int) (a0_11 : Int) (a0_12 : Int) (a0_13 : Int) : Option (Int) := thn ((if a0_0 = 1 then (some (decide (a0_0 = 1))) else (some (decide (a0_0 = 2)))).bind fun o347 => if o347 = true then (if a0_2 ≠ a0_0 then (some (.inl (46))) else ((may.f a0_1 a0_3 a0_4 a0_2).bind fun t352 => some (.inr (t352, true, a0_1, a0_2, a0_3, a0_4, 0, 0, 0, 0, ByteArray.empty, 0, 0, 0, 0)))) else (if a0_0 = 3 then ((isRecord.f a0_6).bind fun t356 => if t356 = true then ((may.f a0_5 a0_9 (⟨#[]⟩ : ByteArray) a0_6).bind fun t359 => ((between.f a0_7 0 4194304).bind fun t372 => if t372 = true then ((between.f a0_8 1 4194304).bind fun t375 => some t375) else (some false)).bind fun o368 => some (.inr (t359, o368, 0, 0, ByteArray.empty, ByteArray.empty, a0_5, a0_6, a0_7, a0_8, a0_9, 0, 0, 0, 0))) else (some (.inl (46)))) else (if a0_0 = 4 then (((between.f a0_10 0 4194304).bind fun t397 => if t397 = true then ((between.f a0_11 0 4194304).bind fun t400 => if t400 = true then ((between.f a0_12 0 4194304).bind fun t403 => some t403) else (some false)) else (some false)).bind fun o393 => some (.inr (0, o393, 0, 0, ByteArray.empty, ByteArray.empty, 0, 0, 0, 0, ByteArray.empty, a0_10, a0_11, a0_12, a0_13))) else (some (.inl (46)))))) fun o342 => (if o342.1 = 0 then (if o342.2.1 = true then (some (!(decide (a0_0 = a0_0 ∧ (o342.2.2.1 = a0_1 ∧ o342.2.2.2.1 = a0_2 ∧ o342.2.2.2.2.1 = a0_3 ∧ o342.2.2.2.2.2.1 = a0_4 ∧ True) ∧ (o342.2.2.2.2.2.2.1 = a0_5 ∧ o342.2.2.2.2.2.2.2.1 = a0_6 ∧ o342.2.2.2.2.2.2.2.2.1 = a0_7 ∧ o342.2.2.2.2.2.2.2.2.2.1 = a0_8 ∧ o342.2.2.2.2.2.2.2.2.2.2.1 = a0_9 ∧ True) ∧ (o342.2.2.2.2.2.2.2.2.2.2.2.1 = a0_10 ∧ (o342.2.2.2.2.2.2.2.2.2.2.2.2.1 = a0_11 ∧ o342.2.2.2.2.2.2.2.2.2.2.2.2.2.1 = a0_12 ∧ o342.2.2.2.2.2.2.2.2.2.2.2.2.2.2 = a0_13 ∧ True) ∧ True) ∧ True)))) else (some true)) else (some false)).bind fun o410 => if o410 = true then (some 40) else (some o342.1)
theorem check.calls {B : Nat} {w0 : World} {G : List HP} (a0_0 : Int) (a0_1 : Int) (a0_2 : Int) (a0_3 : ByteArray) (a0_4 : ByteArray) (a0_5 : Int) (a0_6 : Int) (a0_7 : Int) (a0_8 : Int) (a0_9 : ByteArray) (a0_10 : Int) (a0_11 : Int) (a0_12 : Int) (a0_13 : Int) (r : Int) (H : check.f a0_0 a0_1 a0_2 a0_3 a0_4 a0_5 a0_6 a0_7 a0_8 a0_9 a0_10 a0_11 a0_12 a0_13 = some r) (w : World) (hw : St B w0 (G) w) :
    Calls Try.prog 46 [.agg #[.int .i64 a0_0, .int .u64 a0_1, .int .i64 a0_2, .string a0_3, .string a0_4, .int .u64 a0_5, .int .i64 a0_6, .int .i64 a0_7, .int .i64 a0_8, .string a0_9, .int .i64 a0_10, .int .i64 a0_11, .int .i64 a0_12, .int .u32 a0_13]].toArray w (fun e w' => e = .returned (.int .i64 r) ∧ St B w0 (G) w') := by
  unfold check.f at H
  refine calls_of (n := 93) (s := [(0, .agg #[.int .i64 a0_0, .int .u64 a0_1, .int .i64 a0_2, .string a0_3, .string a0_4, .int .u64 a0_5, .int .i64 a0_6, .int .i64 a0_7, .int .i64 a0_8, .string a0_9, .int .i64 a0_10, .int .i64 a0_11, .int .i64 a0_12, .int .u32 a0_13])]) Try.func46 rfl rfl rfl rfl ?_ hw
  refine C.rs ?_
  refine J.box (L := [.int .i64 a0_0, .int .u64 a0_1, .int .i64 a0_2, .string a0_3, .string a0_4, .int .u64 a0_5, .int .i64 a0_6, .int .i64 a0_7, .int .i64 a0_8, .string a0_9, .int .i64 a0_10, .int .i64 a0_11, .int .i64 a0_12, .int .u32 a0_13]) rfl rfl rfl (fun g1 => ?_)
  refine J.p rfl rfl rfl rfl (Y.asg rfl) ?_
  refine J.nx ?_
  refine C.seq ?_
  refine C.drawn (fuel := 12) (ls := [false, false, false, false, false, false, false, false, false, false, false, false]) [] (cells g1 36 [.int .i64 a0_0, .int .u64 a0_1, .int .i64 a0_2, .string a0_3, .string a0_4, .int .u64 a0_5, .int .i64 a0_6, .int .i64 a0_7, .int .i64 a0_8, .string a0_9, .int .i64 a0_10, .int .i64 a0_11, .int .i64 a0_12, .int .u32 a0_13] :: G) mx rfl rfl ?_
  refine D.p (ls' := [true, false, false, false, false, false, false, false, false, false, false, false]) 0 rfl rfl rfl rfl (by kernel_rfl) rfl (Y.fa0 fa36_1 rfl rfl) ?_
  refine D.r (ls' := [true, true, false, false, false, false, false, false, false, false, false, false]) 1 1 0 rfl rfl rfl rfl (by kernel_rfl) (by kernel_rfl) rfl rfl (Y.ldCA (us := [.int .u64 a0_1, .int .i64 a0_2, .string a0_3, .string a0_4]) 0 Try.underlying27 rfl ti27 rfl rfl rfl rfl) ?_
  refine D.p (ls' := [true, true, true, false, false, false, false, false, false, false, false, false]) 2 rfl rfl rfl rfl (by kernel_rfl) rfl (Y.fa0 fa36_2 rfl rfl) ?_
  refine D.r (ls' := [true, true, true, true, false, false, false, false, false, false, false, false]) 3 1 0 rfl rfl rfl rfl (by kernel_rfl) (by kernel_rfl) rfl rfl (Y.ldCA (us := [.int .u64 a0_5, .int .i64 a0_6, .int .i64 a0_7, .int .i64 a0_8, .string a0_9]) 0 Try.underlying29 rfl ti29 rfl rfl rfl rfl) ?_
  refine D.p (ls' := [true, true, true, true, true, false, false, false, false, false, false, false]) 4 rfl rfl rfl rfl (by kernel_rfl) rfl (Y.fa0 fa36_3 rfl rfl) ?_
  refine D.r (ls' := [true, true, true, true, true, true, false, false, false, false, false, false]) 5 1 0 rfl rfl rfl rfl (by kernel_rfl) (by kernel_rfl) rfl rfl (Y.ldCA (us := [.int .i64 a0_10, .int .i64 a0_11, .int .i64 a0_12, .int .u32 a0_13]) 0 Try.underlying34 rfl ti34 rfl rfl rfl rfl) ?_
  refine D.share (fun (i : Nat × Nat × Nat) => [(1, .pointer (some ⟨g1, 0, none⟩)), (3, .pointer (some ⟨i.1, 0, none⟩)), (4, .pointer (some ⟨i.2.1, 0, none⟩)), (5, .pointer (some ⟨i.2.2, 0, none⟩))]) (fun (i : Nat × Nat × Nat) => cells i.1 27 [.int .u64 a0_1, .int .i64 a0_2, .string a0_3, .string a0_4] :: cells i.2.1 29 [.int .u64 a0_5, .int .i64 a0_6, .int .i64 a0_7, .int .i64 a0_8, .string a0_9] :: cells i.2.2 34 [.int .i64 a0_10, .int .i64 a0_11, .int .i64 a0_12, .int .u32 a0_13] :: cells g1 36 [.int .i64 a0_0, .int .u64 a0_1, .int .i64 a0_2, .string a0_3, .string a0_4, .int .u64 a0_5, .int .i64 a0_6, .int .i64 a0_7, .int .i64 a0_8, .string a0_9, .int .i64 a0_10, .int .i64 a0_11, .int .i64 a0_12, .int .u32 a0_13] :: G) 0 [true, true, true, true, true, true, true, true, true, true, true, true] (fun i => ?_) (fun hD298 => ?_)
  · obtain ⟨g153, g177, g201⟩ := i
    refine D.to (s' := [(1, .pointer (some ⟨g1, 0, none⟩)), (3, .pointer (some ⟨g153, 0, none⟩)), (4, .pointer (some ⟨g177, 0, none⟩)), (5, .pointer (some ⟨g201, 0, none⟩))]) (G' := cells g153 27 [.int .u64 a0_1, .int .i64 a0_2, .string a0_3, .string a0_4] :: cells g177 29 [.int .u64 a0_5, .int .i64 a0_6, .int .i64 a0_7, .int .i64 a0_8, .string a0_9] :: cells g201 34 [.int .i64 a0_10, .int .i64 a0_11, .int .i64 a0_12, .int .u32 a0_13] :: cells g1 36 [.int .i64 a0_0, .int .u64 a0_1, .int .i64 a0_2, .string a0_3, .string a0_4, .int .u64 a0_5, .int .i64 a0_6, .int .i64 a0_7, .int .i64 a0_8, .string a0_9, .int .i64 a0_10, .int .i64 a0_11, .int .i64 a0_12, .int .u32 a0_13] :: G) (by exact ⟨rfl, rfl, rfl, rfl, trivial⟩) (fun w h => h) ?_
    refine D.nil (by kernel_rfl) ?_
    refine N.nx ?_
    refine C.rs ?_
    refine J.p rfl rfl rfl rfl (Y.asg rfl) ?_
    refine J.nx ?_
    refine C.rs ?_
    refine J.p rfl rfl rfl rfl (Y.fa0 fa36_0 rfl rfl) ?_
    refine J.r rfl rfl rfl rfl (Y.ldC 3 Try.underlying24 rfl rfl rfl rfl) ?_
    refine J.p rfl rfl rfl rfl (Y.bld (cs := [.int .i64 a0_0, .int .u64 0, .int .i64 0, .string ByteArray.empty, .string ByteArray.empty, .int .u64 0, .int .i64 0, .int .i64 0, .int .i64 0, .string ByteArray.empty, .int .i64 0, .int .i64 0, .int .i64 0, .int .u32 0]) rfl pl36 ti36 rfl (by kernel_rfl)) ?_
    refine J.alloc (L := [.int .i64 0, .int .u64 0, .int .i64 0, .string ByteArray.empty, .string ByteArray.empty, .int .u64 0, .int .i64 0, .int .i64 0, .int .i64 0, .string ByteArray.empty, .int .i64 0, .int .i64 0, .int .i64 0, .int .u32 0]) rfl ti36 rfl (fun g299 => ?_)
    refine J.stA (us := [.int .i64 a0_0, .int .u64 0, .int .i64 0, .string ByteArray.empty, .string ByteArray.empty, .int .u64 0, .int .i64 0, .int .i64 0, .int .i64 0, .string ByteArray.empty, .int .i64 0, .int .i64 0, .int .i64 0, .int .u32 0]) (L' := [.int .i64 a0_0, .int .u64 0, .int .i64 0, .string ByteArray.empty, .string ByteArray.empty, .int .u64 0, .int .i64 0, .int .i64 0, .int .i64 0, .string ByteArray.empty, .int .i64 0, .int .i64 0, .int .i64 0, .int .u32 0]) ti36 rfl rfl rfl rfl rfl rfl ?_
    refine J.nx ?_
    refine C.rs ?_
    refine J.p rfl rfl rfl rfl (Y.asg rfl) ?_
    refine J.nx ?_
    refine C.seq ?_
    refine C.rs ?_
    refine J.p rfl rfl rfl rfl (Y.fa0 fa36_0 rfl rfl) ?_
    refine J.r rfl rfl rfl rfl (Y.ldC 4 Try.underlying24 rfl rfl rfl rfl) ?_
    refine J.nx ?_
    refine C.joinNR H (fun (o342 : Int × Bool × Int × Int × ByteArray × ByteArray × Int × Int × Int × Int × ByteArray × Int × Int × Int × Int) (j343 : Unit) => [(1, .pointer (some ⟨g1, 0, none⟩)), (6, .int .i64 o342.1), (7, .pointer (some ⟨g299, 0, none⟩)), (8, .bool o342.2.1)]) (fun (o342 : Int × Bool × Int × Int × ByteArray × ByteArray × Int × Int × Int × Int × ByteArray × Int × Int × Int × Int) (j343 : Unit) => cells g1 36 [.int .i64 a0_0, .int .u64 a0_1, .int .i64 a0_2, .string a0_3, .string a0_4, .int .u64 a0_5, .int .i64 a0_6, .int .i64 a0_7, .int .i64 a0_8, .string a0_9, .int .i64 a0_10, .int .i64 a0_11, .int .i64 a0_12, .int .u32 a0_13] :: cells g299 36 [.int .i64 a0_0, .int .u64 o342.2.2.1, .int .i64 o342.2.2.2.1, .string o342.2.2.2.2.1, .string o342.2.2.2.2.2.1, .int .u64 o342.2.2.2.2.2.2.1, .int .i64 o342.2.2.2.2.2.2.2.1, .int .i64 o342.2.2.2.2.2.2.2.2.1, .int .i64 o342.2.2.2.2.2.2.2.2.2.1, .string o342.2.2.2.2.2.2.2.2.2.2.1, .int .i64 o342.2.2.2.2.2.2.2.2.2.2.2.1, .int .i64 o342.2.2.2.2.2.2.2.2.2.2.2.2.1, .int .i64 o342.2.2.2.2.2.2.2.2.2.2.2.2.2.1, .int .u32 o342.2.2.2.2.2.2.2.2.2.2.2.2.2.2] :: G) (fun (o342 : Int × Bool × Int × Int × ByteArray × ByteArray × Int × Int × Int × Int × ByteArray × Int × Int × Int × Int) (j343 : Unit) => True) (fun o340 H HK341 => ?_) (fun o342 j343 H _ => ?_)
    · refine C.blk ?_
      refine C.seq ?_
      refine C.rs ?_
      refine J.p rfl rfl rfl rfl (Y.bin rfl rfl rfl) ?_
      refine J.p rfl rfl rfl rfl (Y.asg rfl) ?_
      refine J.nx ?_
      refine C.joinN H (fun (o347 : Bool) (j348 : Unit) => [(1, .pointer (some ⟨g1, 0, none⟩)), (3, .pointer (some ⟨g153, 0, none⟩)), (4, .pointer (some ⟨g177, 0, none⟩)), (5, .pointer (some ⟨g201, 0, none⟩)), (6, .int .i64 0), (7, .pointer (some ⟨g299, 0, none⟩)), (8, .bool true), (19, .int .i64 a0_0), (20, .bool o347)]) (fun (o347 : Bool) (j348 : Unit) => cells g1 36 [.int .i64 a0_0, .int .u64 a0_1, .int .i64 a0_2, .string a0_3, .string a0_4, .int .u64 a0_5, .int .i64 a0_6, .int .i64 a0_7, .int .i64 a0_8, .string a0_9, .int .i64 a0_10, .int .i64 a0_11, .int .i64 a0_12, .int .u32 a0_13] :: cells g153 27 [.int .u64 a0_1, .int .i64 a0_2, .string a0_3, .string a0_4] :: cells g177 29 [.int .u64 a0_5, .int .i64 a0_6, .int .i64 a0_7, .int .i64 a0_8, .string a0_9] :: cells g201 34 [.int .i64 a0_10, .int .i64 a0_11, .int .i64 a0_12, .int .u32 a0_13] :: cells g299 36 [.int .i64 a0_0, .int .u64 0, .int .i64 0, .string ByteArray.empty, .string ByteArray.empty, .int .u64 0, .int .i64 0, .int .i64 0, .int .i64 0, .string ByteArray.empty, .int .i64 0, .int .i64 0, .int .i64 0, .int .u32 0] :: G) (fun (o347 : Bool) (j348 : Unit) => True) (fun o345 H HK346 => ?_) (fun o347 j348 H _ => ?_)
      · refine split2 H (fun c349 H => ?_) (fun c349 H => ?_)
        · refine C.condT (congrArg (fun b => some (Value.bool b)) (decide_eq_true c349)) ?_
          refine C.skip ?_
          obtain rfl := Option.some.inj H
          exact N.meet (decide (a0_0 = 1), ()) ⟨HK346, trivial⟩ (by exact ⟨rfl, rfl, rfl, rfl, rfl, rfl, rfl, rfl, rfl, trivial⟩) (by exact fun w h => (St.pick [4, 1, 2, 3, 0] [_, _, _, _, _] h rfl))
        · refine C.condF (congrArg (fun b => some (Value.bool b)) (decide_eq_false c349)) ?_
          refine C.reg ?_
          refine J.p rfl rfl rfl rfl (Y.bin rfl rfl rfl) ?_
          refine J.p rfl rfl rfl rfl (Y.asg rfl) ?_
          refine J.nil ?_
          obtain rfl := Option.some.inj H
          exact N.meet (decide (a0_0 = 2), ()) ⟨HK346, trivial⟩ (by exact ⟨rfl, rfl, rfl, rfl, rfl, rfl, rfl, rfl, rfl, trivial⟩) (by exact fun w h => (St.pick [4, 1, 2, 3, 0] [_, _, _, _, _] h rfl))
      · refine N.at (s' := [(1, .pointer (some ⟨g1, 0, none⟩)), (3, .pointer (some ⟨g153, 0, none⟩)), (4, .pointer (some ⟨g177, 0, none⟩)), (5, .pointer (some ⟨g201, 0, none⟩)), (6, .int .i64 0), (7, .pointer (some ⟨g299, 0, none⟩)), (8, .bool true), (19, .int .i64 a0_0), (20, .bool o347)]) (G' := cells g1 36 [.int .i64 a0_0, .int .u64 a0_1, .int .i64 a0_2, .string a0_3, .string a0_4, .int .u64 a0_5, .int .i64 a0_6, .int .i64 a0_7, .int .i64 a0_8, .string a0_9, .int .i64 a0_10, .int .i64 a0_11, .int .i64 a0_12, .int .u32 a0_13] :: cells g153 27 [.int .u64 a0_1, .int .i64 a0_2, .string a0_3, .string a0_4] :: cells g177 29 [.int .u64 a0_5, .int .i64 a0_6, .int .i64 a0_7, .int .i64 a0_8, .string a0_9] :: cells g201 34 [.int .i64 a0_10, .int .i64 a0_11, .int .i64 a0_12, .int .u32 a0_13] :: cells g299 36 [.int .i64 a0_0, .int .u64 0, .int .i64 0, .string ByteArray.empty, .string ByteArray.empty, .int .u64 0, .int .i64 0, .int .i64 0, .int .i64 0, .string ByteArray.empty, .int .i64 0, .int .i64 0, .int .i64 0, .int .u32 0] :: G) rfl rfl ?_
        refine N.nx ?_
        refine split2 H (fun c350 H => ?_) (fun c350 H => ?_)
        · refine C.condT (congrArg (fun b => some (Value.bool b)) (c350)) ?_
          refine C.seq ?_
          refine C.rs ?_
          refine J.p rfl rfl rfl rfl (Y.fa0 fa27_1 rfl rfl) ?_
          refine J.r rfl rfl rfl rfl (Y.ldC 1 Try.underlying24 rfl rfl rfl rfl) ?_
          refine J.p rfl rfl rfl rfl (Y.fa0 fa36_0 rfl rfl) ?_
          refine J.r rfl rfl rfl rfl (Y.ldC 0 Try.underlying24 rfl rfl rfl rfl) ?_
          refine J.p rfl rfl rfl rfl (Y.bin rfl rfl rfl) ?_
          refine J.nx ?_
          refine split2 H (fun c351 H => ?_) (fun c351 H => ?_)
          · refine C.condT (congrArg (fun b => some (Value.bool b)) (decide_eq_true c351)) ?_
            refine C.rs ?_
            refine J.p rfl rfl rfl rfl (Y.asg rfl) ?_
            refine J.nx ?_
            refine C.ret ?_
            obtain rfl := Option.some.inj H
            obtain rfl := fin_inl HK341
            refine T.th ?_
            refine T.ib ?_
            refine T.th ?_
            refine T.th ?_
            exact ret_ok (ks := [2]) rfl rfl (fun w h => ⟨rfl, (St.pick [] [_, _, _, _, _] h rfl)⟩)
          · refine C.condF (congrArg (fun b => some (Value.bool b)) (decide_eq_false c351)) ?_
            refine C.skip ?_
            refine N.nx ?_
            refine C.rs ?_
            refine J.p rfl rfl rfl rfl (Y.fa0 fa27_0 rfl rfl) ?_
            refine J.r rfl rfl rfl rfl (Y.ldC 1 Try.underlying25 rfl rfl rfl rfl) ?_
            refine J.p rfl rfl rfl rfl (Y.fa0 fa27_2 rfl rfl) ?_
            refine J.r rfl rfl rfl rfl (Y.ldC 1 Try.underlying9 rfl rfl rfl rfl) ?_
            refine J.p rfl rfl rfl rfl (Y.fa0 fa27_3 rfl rfl) ?_
            refine J.r rfl rfl rfl rfl (Y.ldC 1 Try.underlying9 rfl rfl rfl rfl) ?_
            refine J.p rfl rfl rfl rfl (Y.fa0 fa27_1 rfl rfl) ?_
            refine J.r rfl rfl rfl rfl (Y.ldC 1 Try.underlying24 rfl rfl rfl rfl) ?_
            obtain ⟨t352, hC353, H⟩ := bind_some H
            refine J.call (us := []) (cap := []) rfl rfl rfl go71 (fun w hw => by have hcc := may.calls a0_1 a0_3 a0_4 a0_2 t352 hC353 w hw; exact hcc) (fun e w1 h1 => ?_)
            obtain ⟨rfl, hw354⟩ := h1
            refine ⟨_, _, rfl, hw354, ?_⟩
            refine J.p rfl rfl rfl rfl (Y.asg rfl) ?_
            refine J.nx ?_
            refine C.reg ?_
            refine J.r rfl rfl rfl rfl (Y.ldCA (us := [.int .u64 a0_1, .int .i64 a0_2, .string a0_3, .string a0_4]) 1 Try.underlying27 rfl ti27 rfl rfl rfl rfl) ?_
            refine J.p rfl rfl rfl rfl (Y.fa0 fa36_1 rfl rfl) ?_
            refine J.pull 4 rfl rfl ?_
            refine J.stA (us := [.int .u64 a0_1, .int .i64 a0_2, .string a0_3, .string a0_4]) (L' := [.int .i64 a0_0, .int .u64 a0_1, .int .i64 a0_2, .string a0_3, .string a0_4, .int .u64 0, .int .i64 0, .int .i64 0, .int .i64 0, .string ByteArray.empty, .int .i64 0, .int .i64 0, .int .i64 0, .int .u32 0]) ti27 rfl rfl rfl rfl rfl rfl ?_
            refine J.nil ?_
            refine N.ib ?_
            obtain rfl := Option.some.inj H
            exact N.meet ((t352, true, a0_1, a0_2, a0_3, a0_4, 0, 0, 0, 0, ByteArray.empty, 0, 0, 0, 0), ()) ⟨fin_inr HK341, trivial⟩ (by exact ⟨rfl, rfl, rfl, rfl, trivial⟩) (by exact fun w h => (St.pick [1, 0] [_, _, _, _, _] h rfl))
        · refine C.condF (congrArg (fun b => some (Value.bool b)) (nt c350)) ?_
          refine C.rs ?_
          refine J.p rfl rfl rfl rfl (Y.bin rfl rfl rfl) ?_
          refine J.p rfl rfl rfl rfl (Y.asg rfl) ?_
          refine J.nx ?_
          refine split2 H (fun c355 H => ?_) (fun c355 H => ?_)
          · refine C.condT (congrArg (fun b => some (Value.bool b)) (decide_eq_true c355)) ?_
            refine C.seq ?_
            refine C.rs ?_
            refine J.p rfl rfl rfl rfl (Y.fa0 fa29_1 rfl rfl) ?_
            refine J.r rfl rfl rfl rfl (Y.ldC 2 Try.underlying24 rfl rfl rfl rfl) ?_
            obtain ⟨t356, hC357, H⟩ := bind_some H
            refine J.call (us := []) (cap := []) rfl rfl rfl go72 (fun w hw => by have hcc := isRecord.calls a0_6 t356 hC357 w hw; exact hcc) (fun e w1 h1 => ?_)
            obtain ⟨rfl, hw380⟩ := h1
            refine ⟨_, _, rfl, hw380, ?_⟩
            refine J.p rfl rfl rfl rfl (Y.notb rfl) ?_
            refine J.nx ?_
            refine split2 H (fun c358 H => ?_) (fun c358 H => ?_)
            · refine C.condF (congrArg (fun b => some (Value.bool b)) (congrArg Bool.not (c358))) ?_
              refine C.skip ?_
              refine N.nx ?_
              refine C.rs ?_
              refine J.p rfl rfl rfl rfl (Y.fa0 fa29_0 rfl rfl) ?_
              refine J.r rfl rfl rfl rfl (Y.ldC 2 Try.underlying25 rfl rfl rfl rfl) ?_
              refine J.p rfl rfl rfl rfl (Y.fa0 fa29_4 rfl rfl) ?_
              refine J.r rfl rfl rfl rfl (Y.ldC 2 Try.underlying9 rfl rfl rfl rfl) ?_
              refine J.p rfl rfl rfl rfl (Y.fa0 fa29_1 rfl rfl) ?_
              refine J.r rfl rfl rfl rfl (Y.ldC 2 Try.underlying24 rfl rfl rfl rfl) ?_
              obtain ⟨t359, hC360, H⟩ := bind_some H
              refine J.call (us := []) (cap := []) rfl rfl rfl go71 (fun w hw => by have hcc := may.calls a0_5 a0_9 (⟨#[]⟩ : ByteArray) a0_6 t359 hC360 w hw; exact hcc) (fun e w1 h1 => ?_)
              obtain ⟨rfl, hw379⟩ := h1
              refine ⟨_, _, rfl, hw379, ?_⟩
              refine J.p rfl rfl rfl rfl (Y.asg rfl) ?_
              refine J.nx ?_
              refine C.rs ?_
              refine J.joinB H (fun (o368 : Bool) (j369 : Unit) => [(1, .pointer (some ⟨g1, 0, none⟩)), (4, .pointer (some ⟨g177, 0, none⟩)), (6, .int .i64 t359), (7, .pointer (some ⟨g299, 0, none⟩)), (8, .bool o368)]) (fun (o368 : Bool) (j369 : Unit) => cells g1 36 [.int .i64 a0_0, .int .u64 a0_1, .int .i64 a0_2, .string a0_3, .string a0_4, .int .u64 a0_5, .int .i64 a0_6, .int .i64 a0_7, .int .i64 a0_8, .string a0_9, .int .i64 a0_10, .int .i64 a0_11, .int .i64 a0_12, .int .u32 a0_13] :: cells g177 29 [.int .u64 a0_5, .int .i64 a0_6, .int .i64 a0_7, .int .i64 a0_8, .string a0_9] :: cells g299 36 [.int .i64 a0_0, .int .u64 0, .int .i64 0, .string ByteArray.empty, .string ByteArray.empty, .int .u64 0, .int .i64 0, .int .i64 0, .int .i64 0, .string ByteArray.empty, .int .i64 0, .int .i64 0, .int .i64 0, .int .u32 0] :: G) (fun (o368 : Bool) (j369 : Unit) => True) (fun o370 H HK371 => ?_) (fun o368 j369 H _ => ?_)
              · refine J.p rfl rfl rfl rfl (Y.fa0 fa29_2 rfl rfl) ?_
                refine J.r rfl rfl rfl rfl (Y.ldC 2 Try.underlying3 rfl rfl rfl rfl) ?_
                obtain ⟨t372, hC373, H⟩ := bind_some H
                refine J.call (us := []) (cap := []) rfl rfl rfl go73 (fun w hw => by have hcc := between.calls a0_7 0 4194304 t372 hC373 w hw; exact hcc) (fun e w1 h1 => ?_)
                obtain ⟨rfl, hw378⟩ := h1
                refine ⟨_, _, rfl, hw378, ?_⟩
                refine J.p rfl rfl rfl rfl (Y.mv rfl) ?_
                refine split2 H (fun c374 H => ?_) (fun c374 H => ?_)
                · refine J.as (k := 55) rfl (congrArg Value.bool (c374)) ?_
                  refine J.p rfl rfl rfl rfl (Y.fa0 fa29_3 rfl rfl) ?_
                  refine J.r rfl rfl rfl rfl (Y.ldC 2 Try.underlying3 rfl rfl rfl rfl) ?_
                  refine J.want rfl ?_
                  obtain ⟨t375, hC376, H⟩ := bind_some H
                  refine J.call (us := []) (cap := []) rfl rfl rfl go73 (fun w hw => by have hcc := between.calls a0_8 1 4194304 t375 hC376 w hw; exact hcc) (fun e w1 h1 => ?_)
                  obtain ⟨rfl, hw377⟩ := h1
                  refine ⟨_, _, rfl, hw377, ?_⟩
                  refine J.p rfl rfl rfl rfl (Y.pickT rfl rfl) ?_
                  refine J.p rfl rfl rfl rfl (Y.asg rfl) ?_
                  refine J.nil ?_
                  obtain rfl := Option.some.inj H
                  exact N.meet (t375, ()) ⟨HK371, trivial⟩ (by exact ⟨rfl, rfl, rfl, rfl, rfl, trivial⟩) (by exact fun w h => (St.pick [0, 2, 4] [_, _, _, _, _] h rfl))
                · refine J.as (k := 55) rfl (congrArg Value.bool (nt c374)) ?_
                  refine J.skip rfl rfl ?_
                  refine J.skip rfl rfl ?_
                  refine J.skip rfl rfl ?_
                  refine J.p rfl rfl rfl rfl (Y.pickF rfl rfl) ?_
                  refine J.p rfl rfl rfl rfl (Y.asg rfl) ?_
                  refine J.nil ?_
                  obtain rfl := Option.some.inj H
                  exact N.meet (false, ()) ⟨HK371, trivial⟩ (by exact ⟨rfl, rfl, rfl, rfl, rfl, trivial⟩) (by exact fun w h => (St.pick [0, 2, 4] [_, _, _, _, _] h rfl))
              · refine C.at (s' := [(1, .pointer (some ⟨g1, 0, none⟩)), (4, .pointer (some ⟨g177, 0, none⟩)), (6, .int .i64 t359), (7, .pointer (some ⟨g299, 0, none⟩)), (8, .bool o368)]) (G' := cells g1 36 [.int .i64 a0_0, .int .u64 a0_1, .int .i64 a0_2, .string a0_3, .string a0_4, .int .u64 a0_5, .int .i64 a0_6, .int .i64 a0_7, .int .i64 a0_8, .string a0_9, .int .i64 a0_10, .int .i64 a0_11, .int .i64 a0_12, .int .u32 a0_13] :: cells g177 29 [.int .u64 a0_5, .int .i64 a0_6, .int .i64 a0_7, .int .i64 a0_8, .string a0_9] :: cells g299 36 [.int .i64 a0_0, .int .u64 0, .int .i64 0, .string ByteArray.empty, .string ByteArray.empty, .int .u64 0, .int .i64 0, .int .i64 0, .int .i64 0, .string ByteArray.empty, .int .i64 0, .int .i64 0, .int .i64 0, .int .u32 0] :: G) rfl rfl ?_
                refine C.reg ?_
                refine J.r rfl rfl rfl rfl (Y.ldCA (us := [.int .u64 a0_5, .int .i64 a0_6, .int .i64 a0_7, .int .i64 a0_8, .string a0_9]) 1 Try.underlying29 rfl ti29 rfl rfl rfl rfl) ?_
                refine J.p rfl rfl rfl rfl (Y.fa0 fa36_2 rfl rfl) ?_
                refine J.pull 2 rfl rfl ?_
                refine J.stA (us := [.int .u64 a0_5, .int .i64 a0_6, .int .i64 a0_7, .int .i64 a0_8, .string a0_9]) (L' := [.int .i64 a0_0, .int .u64 0, .int .i64 0, .string ByteArray.empty, .string ByteArray.empty, .int .u64 a0_5, .int .i64 a0_6, .int .i64 a0_7, .int .i64 a0_8, .string a0_9, .int .i64 0, .int .i64 0, .int .i64 0, .int .u32 0]) ti29 rfl rfl rfl rfl rfl rfl ?_
                refine J.nil ?_
                refine N.ib ?_
                obtain rfl := Option.some.inj H
                exact N.meet ((t359, o368, 0, 0, ByteArray.empty, ByteArray.empty, a0_5, a0_6, a0_7, a0_8, a0_9, 0, 0, 0, 0), ()) ⟨fin_inr HK341, trivial⟩ (by exact ⟨rfl, rfl, rfl, rfl, trivial⟩) (by exact fun w h => (St.pick [1, 0] [_, _, _] h rfl))
            · refine C.condT (congrArg (fun b => some (Value.bool b)) (congrArg Bool.not (nt c358))) ?_
              refine C.rs ?_
              refine J.p rfl rfl rfl rfl (Y.asg rfl) ?_
              refine J.nx ?_
              refine C.ret ?_
              obtain rfl := Option.some.inj H
              obtain rfl := fin_inl HK341
              refine T.th ?_
              refine T.ib ?_
              refine T.th ?_
              refine T.th ?_
              exact ret_ok (ks := [2]) rfl rfl (fun w h => ⟨rfl, (St.pick [] [_, _, _, _, _] h rfl)⟩)
          · refine C.condF (congrArg (fun b => some (Value.bool b)) (decide_eq_false c355)) ?_
            refine C.rs ?_
            refine J.p rfl rfl rfl rfl (Y.bin rfl rfl rfl) ?_
            refine J.p rfl rfl rfl rfl (Y.asg rfl) ?_
            refine J.nx ?_
            refine split2 H (fun c381 H => ?_) (fun c381 H => ?_)
            · refine C.condT (congrArg (fun b => some (Value.bool b)) (decide_eq_true c381)) ?_
              refine C.rs ?_
              refine J.joinB H (fun (o393 : Bool) (j394 : Unit) => [(1, .pointer (some ⟨g1, 0, none⟩)), (5, .pointer (some ⟨g201, 0, none⟩)), (6, .int .i64 0), (7, .pointer (some ⟨g299, 0, none⟩)), (8, .bool o393)]) (fun (o393 : Bool) (j394 : Unit) => cells g1 36 [.int .i64 a0_0, .int .u64 a0_1, .int .i64 a0_2, .string a0_3, .string a0_4, .int .u64 a0_5, .int .i64 a0_6, .int .i64 a0_7, .int .i64 a0_8, .string a0_9, .int .i64 a0_10, .int .i64 a0_11, .int .i64 a0_12, .int .u32 a0_13] :: cells g201 34 [.int .i64 a0_10, .int .i64 a0_11, .int .i64 a0_12, .int .u32 a0_13] :: cells g299 36 [.int .i64 a0_0, .int .u64 0, .int .i64 0, .string ByteArray.empty, .string ByteArray.empty, .int .u64 0, .int .i64 0, .int .i64 0, .int .i64 0, .string ByteArray.empty, .int .i64 0, .int .i64 0, .int .i64 0, .int .u32 0] :: G) (fun (o393 : Bool) (j394 : Unit) => True) (fun o395 H HK396 => ?_) (fun o393 j394 H _ => ?_)
              · refine J.p rfl rfl rfl rfl (Y.fa0 fa34_0 rfl rfl) ?_
                refine J.r rfl rfl rfl rfl (Y.ldC 3 Try.underlying3 rfl rfl rfl rfl) ?_
                obtain ⟨t397, hC398, H⟩ := bind_some H
                refine J.call (us := []) (cap := []) rfl rfl rfl go73 (fun w hw => by have hcc := between.calls a0_10 0 4194304 t397 hC398 w hw; exact hcc) (fun e w1 h1 => ?_)
                obtain ⟨rfl, hw407⟩ := h1
                refine ⟨_, _, rfl, hw407, ?_⟩
                refine J.p rfl rfl rfl rfl (Y.mv rfl) ?_
                refine split2 H (fun c399 H => ?_) (fun c399 H => ?_)
                · refine J.as (k := 67) rfl (congrArg Value.bool (c399)) ?_
                  refine J.p rfl rfl rfl rfl (Y.fa0 fa34_1 rfl rfl) ?_
                  refine J.p rfl rfl rfl rfl (Y.fa0 fa32_0 rfl rfl) ?_
                  refine J.r rfl rfl rfl rfl (Y.ldC 3 Try.underlying3 rfl rfl rfl rfl) ?_
                  refine J.want rfl ?_
                  obtain ⟨t400, hC401, H⟩ := bind_some H
                  refine J.call (us := []) (cap := []) rfl rfl rfl go73 (fun w hw => by have hcc := between.calls a0_11 0 4194304 t400 hC401 w hw; exact hcc) (fun e w1 h1 => ?_)
                  obtain ⟨rfl, hw406⟩ := h1
                  refine ⟨_, _, rfl, hw406, ?_⟩
                  refine J.p rfl rfl rfl rfl (Y.pickT rfl rfl) ?_
                  refine J.p rfl rfl rfl rfl (Y.mv rfl) ?_
                  refine split2 H (fun c402 H => ?_) (fun c402 H => ?_)
                  · refine J.as (k := 73) rfl (congrArg Value.bool (c402)) ?_
                    refine J.p rfl rfl rfl rfl (Y.fa0 fa34_1 rfl rfl) ?_
                    refine J.p rfl rfl rfl rfl (Y.fa0 fa32_1 rfl rfl) ?_
                    refine J.r rfl rfl rfl rfl (Y.ldC 3 Try.underlying3 rfl rfl rfl rfl) ?_
                    refine J.want rfl ?_
                    obtain ⟨t403, hC404, H⟩ := bind_some H
                    refine J.call (us := []) (cap := []) rfl rfl rfl go73 (fun w hw => by have hcc := between.calls a0_12 0 4194304 t403 hC404 w hw; exact hcc) (fun e w1 h1 => ?_)
                    obtain ⟨rfl, hw405⟩ := h1
                    refine ⟨_, _, rfl, hw405, ?_⟩
                    refine J.p rfl rfl rfl rfl (Y.pickT rfl rfl) ?_
                    refine J.p rfl rfl rfl rfl (Y.asg rfl) ?_
                    refine J.nil ?_
                    obtain rfl := Option.some.inj H
                    exact N.meet (t403, ()) ⟨HK396, trivial⟩ (by exact ⟨rfl, rfl, rfl, rfl, rfl, trivial⟩) (by exact fun w h => (St.pick [0, 3, 4] [_, _, _, _, _] h rfl))
                  · refine J.as (k := 73) rfl (congrArg Value.bool (nt c402)) ?_
                    refine J.skip rfl rfl ?_
                    refine J.skip rfl rfl ?_
                    refine J.skip rfl rfl ?_
                    refine J.skip rfl rfl ?_
                    refine J.p rfl rfl rfl rfl (Y.pickF rfl rfl) ?_
                    refine J.p rfl rfl rfl rfl (Y.asg rfl) ?_
                    refine J.nil ?_
                    obtain rfl := Option.some.inj H
                    exact N.meet (false, ()) ⟨HK396, trivial⟩ (by exact ⟨rfl, rfl, rfl, rfl, rfl, trivial⟩) (by exact fun w h => (St.pick [0, 3, 4] [_, _, _, _, _] h rfl))
                · refine J.as (k := 67) rfl (congrArg Value.bool (nt c399)) ?_
                  refine J.skip rfl rfl ?_
                  refine J.skip rfl rfl ?_
                  refine J.skip rfl rfl ?_
                  refine J.skip rfl rfl ?_
                  refine J.p rfl rfl rfl rfl (Y.pickF rfl rfl) ?_
                  refine J.p rfl rfl rfl rfl (Y.mv rfl) ?_
                  refine J.skip rfl rfl ?_
                  refine J.skip rfl rfl ?_
                  refine J.skip rfl rfl ?_
                  refine J.skip rfl rfl ?_
                  refine J.p rfl rfl rfl rfl (Y.pickF rfl rfl) ?_
                  refine J.p rfl rfl rfl rfl (Y.asg rfl) ?_
                  refine J.nil ?_
                  obtain rfl := Option.some.inj H
                  exact N.meet (false, ()) ⟨HK396, trivial⟩ (by exact ⟨rfl, rfl, rfl, rfl, rfl, trivial⟩) (by exact fun w h => (St.pick [0, 3, 4] [_, _, _, _, _] h rfl))
              · refine C.at (s' := [(1, .pointer (some ⟨g1, 0, none⟩)), (5, .pointer (some ⟨g201, 0, none⟩)), (6, .int .i64 0), (7, .pointer (some ⟨g299, 0, none⟩)), (8, .bool o393)]) (G' := cells g1 36 [.int .i64 a0_0, .int .u64 a0_1, .int .i64 a0_2, .string a0_3, .string a0_4, .int .u64 a0_5, .int .i64 a0_6, .int .i64 a0_7, .int .i64 a0_8, .string a0_9, .int .i64 a0_10, .int .i64 a0_11, .int .i64 a0_12, .int .u32 a0_13] :: cells g201 34 [.int .i64 a0_10, .int .i64 a0_11, .int .i64 a0_12, .int .u32 a0_13] :: cells g299 36 [.int .i64 a0_0, .int .u64 0, .int .i64 0, .string ByteArray.empty, .string ByteArray.empty, .int .u64 0, .int .i64 0, .int .i64 0, .int .i64 0, .string ByteArray.empty, .int .i64 0, .int .i64 0, .int .i64 0, .int .u32 0] :: G) rfl rfl ?_
                refine C.reg ?_
                refine J.r rfl rfl rfl rfl (Y.ldCA (us := [.int .i64 a0_10, .int .i64 a0_11, .int .i64 a0_12, .int .u32 a0_13]) 1 Try.underlying34 rfl ti34 rfl rfl rfl rfl) ?_
                refine J.p rfl rfl rfl rfl (Y.fa0 fa36_3 rfl rfl) ?_
                refine J.pull 2 rfl rfl ?_
                refine J.stA (us := [.int .i64 a0_10, .int .i64 a0_11, .int .i64 a0_12, .int .u32 a0_13]) (L' := [.int .i64 a0_0, .int .u64 0, .int .i64 0, .string ByteArray.empty, .string ByteArray.empty, .int .u64 0, .int .i64 0, .int .i64 0, .int .i64 0, .string ByteArray.empty, .int .i64 a0_10, .int .i64 a0_11, .int .i64 a0_12, .int .u32 a0_13]) ti34 rfl rfl rfl rfl rfl rfl ?_
                refine J.nil ?_
                refine N.ib ?_
                obtain rfl := Option.some.inj H
                exact N.meet ((0, o393, 0, 0, ByteArray.empty, ByteArray.empty, 0, 0, 0, 0, ByteArray.empty, a0_10, a0_11, a0_12, a0_13), ()) ⟨fin_inr HK341, trivial⟩ (by exact ⟨rfl, rfl, rfl, rfl, trivial⟩) (by exact fun w h => (St.pick [1, 0] [_, _, _] h rfl))
            · refine C.condF (congrArg (fun b => some (Value.bool b)) (decide_eq_false c381)) ?_
              refine C.rs ?_
              refine J.p rfl rfl rfl rfl (Y.asg rfl) ?_
              refine J.nx ?_
              refine C.ret ?_
              obtain rfl := Option.some.inj H
              obtain rfl := fin_inl HK341
              refine T.ib ?_
              refine T.th ?_
              refine T.th ?_
              exact ret_ok (ks := [2]) rfl rfl (fun w h => ⟨rfl, (St.pick [] [_, _, _, _, _] h rfl)⟩)
    · refine N.at (s' := [(1, .pointer (some ⟨g1, 0, none⟩)), (6, .int .i64 o342.1), (7, .pointer (some ⟨g299, 0, none⟩)), (8, .bool o342.2.1)]) (G' := cells g1 36 [.int .i64 a0_0, .int .u64 a0_1, .int .i64 a0_2, .string a0_3, .string a0_4, .int .u64 a0_5, .int .i64 a0_6, .int .i64 a0_7, .int .i64 a0_8, .string a0_9, .int .i64 a0_10, .int .i64 a0_11, .int .i64 a0_12, .int .u32 a0_13] :: cells g299 36 [.int .i64 a0_0, .int .u64 o342.2.2.1, .int .i64 o342.2.2.2.1, .string o342.2.2.2.2.1, .string o342.2.2.2.2.2.1, .int .u64 o342.2.2.2.2.2.2.1, .int .i64 o342.2.2.2.2.2.2.2.1, .int .i64 o342.2.2.2.2.2.2.2.2.1, .int .i64 o342.2.2.2.2.2.2.2.2.2.1, .string o342.2.2.2.2.2.2.2.2.2.2.1, .int .i64 o342.2.2.2.2.2.2.2.2.2.2.2.1, .int .i64 o342.2.2.2.2.2.2.2.2.2.2.2.2.1, .int .i64 o342.2.2.2.2.2.2.2.2.2.2.2.2.2.1, .int .u32 o342.2.2.2.2.2.2.2.2.2.2.2.2.2.2] :: G) rfl rfl ?_
      refine N.nx ?_
      refine C.seq ?_
      refine C.rs ?_
      refine J.joinB H (fun (o410 : Bool) (j411 : Unit) => [(6, .int .i64 o342.1), (91, .bool o410)]) (fun (o410 : Bool) (j411 : Unit) => G) (fun (o410 : Bool) (j411 : Unit) => True) (fun o412 H HK413 => ?_) (fun o410 j411 H _ => ?_)
      · refine J.p rfl rfl rfl rfl (Y.mv rfl) ?_
        refine J.p rfl rfl rfl rfl (Y.bin rfl rfl rfl) ?_
        refine J.p rfl rfl rfl rfl (Y.mv rfl) ?_
        refine split2 H (fun c414 H => ?_) (fun c414 H => ?_)
        · refine J.as (k := 83) rfl (congrArg Value.bool (decide_eq_true c414)) ?_
          refine J.p rfl rfl rfl rfl (Y.mv rfl) ?_
          refine J.p rfl rfl rfl rfl (Y.notb rfl) ?_
          refine J.p rfl rfl rfl rfl (Y.mv rfl) ?_
          refine split2 H (fun c415 H => ?_) (fun c415 H => ?_)
          · refine J.as (k := 86) rfl (congrArg Value.bool (congrArg Bool.not (c415))) ?_
            refine J.r rfl rfl rfl rfl (Y.ldCA (us := [.int .i64 a0_0, .int .u64 o342.2.2.1, .int .i64 o342.2.2.2.1, .string o342.2.2.2.2.1, .string o342.2.2.2.2.2.1, .int .u64 o342.2.2.2.2.2.2.1, .int .i64 o342.2.2.2.2.2.2.2.1, .int .i64 o342.2.2.2.2.2.2.2.2.1, .int .i64 o342.2.2.2.2.2.2.2.2.2.1, .string o342.2.2.2.2.2.2.2.2.2.2.1, .int .i64 o342.2.2.2.2.2.2.2.2.2.2.2.1, .int .i64 o342.2.2.2.2.2.2.2.2.2.2.2.2.1, .int .i64 o342.2.2.2.2.2.2.2.2.2.2.2.2.2.1, .int .u32 o342.2.2.2.2.2.2.2.2.2.2.2.2.2.2]) 1 Try.underlying36 rfl ti36 rfl rfl rfl rfl) ?_
            refine J.r rfl rfl rfl rfl (Y.ldCA (us := [.int .i64 a0_0, .int .u64 a0_1, .int .i64 a0_2, .string a0_3, .string a0_4, .int .u64 a0_5, .int .i64 a0_6, .int .i64 a0_7, .int .i64 a0_8, .string a0_9, .int .i64 a0_10, .int .i64 a0_11, .int .i64 a0_12, .int .u32 a0_13]) 0 Try.underlying36 rfl ti36 rfl rfl rfl rfl) ?_
            refine J.p rfl rfl rfl rfl (Y.nest Try.eqGuardType36 rfl (EqV.struct Try.underlying36 Try.stoodInHeld36 (EqFs.cons rfl (part_one (v := .int .i64 a0_0) Try.underlying24 rfl (by kernel_rfl)) (part_one (v := .int .i64 a0_0) Try.underlying24 rfl (by kernel_rfl)) (EqV.int 2 Try.underlying24) (EqFs.cons rfl (part_agg (us := #[.int .u64 o342.2.2.1, .int .i64 o342.2.2.2.1, .string o342.2.2.2.2.1, .string o342.2.2.2.2.2.1]) Try.underlying27 rfl ti27 (by kernel_rfl)) (part_agg (us := #[.int .u64 a0_1, .int .i64 a0_2, .string a0_3, .string a0_4]) Try.underlying27 rfl ti27 (by kernel_rfl)) (EqV.struct Try.underlying27 Try.stoodInHeld27 (EqFs.cons rfl (part_one (v := .int .u64 o342.2.2.1) Try.underlying25 rfl (by kernel_rfl)) (part_one (v := .int .u64 a0_1) Try.underlying25 rfl (by kernel_rfl)) (EqV.int 1 Try.underlying25) (EqFs.cons rfl (part_one (v := .int .i64 o342.2.2.2.1) Try.underlying24 rfl (by kernel_rfl)) (part_one (v := .int .i64 a0_2) Try.underlying24 rfl (by kernel_rfl)) (EqV.int 1 Try.underlying24) (EqFs.cons rfl (part_one (v := .string o342.2.2.2.2.1) Try.underlying9 rfl (by kernel_rfl)) (part_one (v := .string a0_3) Try.underlying9 rfl (by kernel_rfl)) (EqV.str 1 Try.underlying9) (EqFs.cons rfl (part_one (v := .string o342.2.2.2.2.2.1) Try.underlying9 rfl (by kernel_rfl)) (part_one (v := .string a0_4) Try.underlying9 rfl (by kernel_rfl)) (EqV.str 1 Try.underlying9) EqFs.nil))))) (EqFs.cons rfl (part_agg (us := #[.int .u64 o342.2.2.2.2.2.2.1, .int .i64 o342.2.2.2.2.2.2.2.1, .int .i64 o342.2.2.2.2.2.2.2.2.1, .int .i64 o342.2.2.2.2.2.2.2.2.2.1, .string o342.2.2.2.2.2.2.2.2.2.2.1]) Try.underlying29 rfl ti29 (by kernel_rfl)) (part_agg (us := #[.int .u64 a0_5, .int .i64 a0_6, .int .i64 a0_7, .int .i64 a0_8, .string a0_9]) Try.underlying29 rfl ti29 (by kernel_rfl)) (EqV.struct Try.underlying29 Try.stoodInHeld29 (EqFs.cons rfl (part_one (v := .int .u64 o342.2.2.2.2.2.2.1) Try.underlying25 rfl (by kernel_rfl)) (part_one (v := .int .u64 a0_5) Try.underlying25 rfl (by kernel_rfl)) (EqV.int 1 Try.underlying25) (EqFs.cons rfl (part_one (v := .int .i64 o342.2.2.2.2.2.2.2.1) Try.underlying24 rfl (by kernel_rfl)) (part_one (v := .int .i64 a0_6) Try.underlying24 rfl (by kernel_rfl)) (EqV.int 1 Try.underlying24) (EqFs.cons rfl (part_one (v := .int .i64 o342.2.2.2.2.2.2.2.2.1) Try.underlying3 rfl (by kernel_rfl)) (part_one (v := .int .i64 a0_7) Try.underlying3 rfl (by kernel_rfl)) (EqV.int 1 Try.underlying3) (EqFs.cons rfl (part_one (v := .int .i64 o342.2.2.2.2.2.2.2.2.2.1) Try.underlying3 rfl (by kernel_rfl)) (part_one (v := .int .i64 a0_8) Try.underlying3 rfl (by kernel_rfl)) (EqV.int 1 Try.underlying3) (EqFs.cons rfl (part_one (v := .string o342.2.2.2.2.2.2.2.2.2.2.1) Try.underlying9 rfl (by kernel_rfl)) (part_one (v := .string a0_9) Try.underlying9 rfl (by kernel_rfl)) (EqV.str 1 Try.underlying9) EqFs.nil)))))) (EqFs.cons rfl (part_agg (us := #[.int .i64 o342.2.2.2.2.2.2.2.2.2.2.2.1, .int .i64 o342.2.2.2.2.2.2.2.2.2.2.2.2.1, .int .i64 o342.2.2.2.2.2.2.2.2.2.2.2.2.2.1, .int .u32 o342.2.2.2.2.2.2.2.2.2.2.2.2.2.2]) Try.underlying34 rfl ti34 (by kernel_rfl)) (part_agg (us := #[.int .i64 a0_10, .int .i64 a0_11, .int .i64 a0_12, .int .u32 a0_13]) Try.underlying34 rfl ti34 (by kernel_rfl)) (EqV.struct Try.underlying34 Try.stoodInHeld34 (EqFs.cons rfl (part_one (v := .int .i64 o342.2.2.2.2.2.2.2.2.2.2.2.1) Try.underlying3 rfl (by kernel_rfl)) (part_one (v := .int .i64 a0_10) Try.underlying3 rfl (by kernel_rfl)) (EqV.int 1 Try.underlying3) (EqFs.cons rfl (part_agg (us := #[.int .i64 o342.2.2.2.2.2.2.2.2.2.2.2.2.1, .int .i64 o342.2.2.2.2.2.2.2.2.2.2.2.2.2.1, .int .u32 o342.2.2.2.2.2.2.2.2.2.2.2.2.2.2]) Try.underlying32 rfl ti32 (by kernel_rfl)) (part_agg (us := #[.int .i64 a0_11, .int .i64 a0_12, .int .u32 a0_13]) Try.underlying32 rfl ti32 (by kernel_rfl)) (EqV.struct Try.underlying32 Try.stoodInHeld32 (EqFs.cons rfl (part_one (v := .int .i64 o342.2.2.2.2.2.2.2.2.2.2.2.2.1) Try.underlying3 rfl (by kernel_rfl)) (part_one (v := .int .i64 a0_11) Try.underlying3 rfl (by kernel_rfl)) (EqV.int 0 Try.underlying3) (EqFs.cons rfl (part_one (v := .int .i64 o342.2.2.2.2.2.2.2.2.2.2.2.2.2.1) Try.underlying3 rfl (by kernel_rfl)) (part_one (v := .int .i64 a0_12) Try.underlying3 rfl (by kernel_rfl)) (EqV.int 0 Try.underlying3) (EqFs.cons rfl (part_one (v := .int .u32 o342.2.2.2.2.2.2.2.2.2.2.2.2.2.2) Try.underlying30 rfl (by kernel_rfl)) (part_one (v := .int .u32 a0_13) Try.underlying30 rfl (by kernel_rfl)) (EqV.int 0 Try.underlying30) EqFs.nil)))) EqFs.nil))) EqFs.nil))))) rfl rfl) ?_
            refine J.p rfl rfl rfl rfl (Y.pickF rfl rfl) ?_
            refine J.p rfl rfl rfl rfl (Y.pickT rfl rfl) ?_
            refine J.nil ?_
            obtain rfl := Option.some.inj H
            exact N.meet (!(decide (a0_0 = a0_0 ∧ (o342.2.2.1 = a0_1 ∧ o342.2.2.2.1 = a0_2 ∧ o342.2.2.2.2.1 = a0_3 ∧ o342.2.2.2.2.2.1 = a0_4 ∧ True) ∧ (o342.2.2.2.2.2.2.1 = a0_5 ∧ o342.2.2.2.2.2.2.2.1 = a0_6 ∧ o342.2.2.2.2.2.2.2.2.1 = a0_7 ∧ o342.2.2.2.2.2.2.2.2.2.1 = a0_8 ∧ o342.2.2.2.2.2.2.2.2.2.2.1 = a0_9 ∧ True) ∧ (o342.2.2.2.2.2.2.2.2.2.2.2.1 = a0_10 ∧ (o342.2.2.2.2.2.2.2.2.2.2.2.2.1 = a0_11 ∧ o342.2.2.2.2.2.2.2.2.2.2.2.2.2.1 = a0_12 ∧ o342.2.2.2.2.2.2.2.2.2.2.2.2.2.2 = a0_13 ∧ True) ∧ True) ∧ True)), ()) ⟨HK413, trivial⟩ (by exact ⟨rfl, rfl, trivial⟩) (by exact fun w h => (St.pick [] [_, _] h rfl))
          · refine J.as (k := 86) rfl (congrArg Value.bool (congrArg Bool.not (nt c415))) ?_
            refine J.skip rfl rfl ?_
            refine J.skip rfl rfl ?_
            refine J.skip rfl rfl ?_
            refine J.p rfl rfl rfl rfl (Y.pickT rfl rfl) ?_
            refine J.p rfl rfl rfl rfl (Y.pickT rfl rfl) ?_
            refine J.nil ?_
            obtain rfl := Option.some.inj H
            exact N.meet (true, ()) ⟨HK413, trivial⟩ (by exact ⟨rfl, rfl, trivial⟩) (by exact fun w h => (St.pick [] [_, _] h rfl))
        · refine J.as (k := 83) rfl (congrArg Value.bool (decide_eq_false c414)) ?_
          refine J.skip rfl rfl ?_
          refine J.skip rfl rfl ?_
          refine J.skip rfl rfl ?_
          refine J.skip rfl rfl ?_
          refine J.skip rfl rfl ?_
          refine J.skip rfl rfl ?_
          refine J.skip rfl rfl ?_
          refine J.p rfl rfl rfl rfl (Y.pickF rfl rfl) ?_
          refine J.nil ?_
          obtain rfl := Option.some.inj H
          exact N.meet (false, ()) ⟨HK413, trivial⟩ (by exact ⟨rfl, rfl, trivial⟩) (by exact fun w h => (St.pick [] [_, _] h rfl))
      · refine C.at (s' := [(6, .int .i64 o342.1), (91, .bool o410)]) (G' := G) rfl rfl ?_
        refine split2 H (fun c416 H => ?_) (fun c416 H => ?_)
        · refine C.condT (congrArg (fun b => some (Value.bool b)) (c416)) ?_
          refine C.rs ?_
          refine J.p rfl rfl rfl rfl (Y.asg rfl) ?_
          refine J.nx ?_
          refine C.ret ?_
          obtain rfl := Option.some.inj H
          refine T.th ?_
          exact ret_ok (ks := [2]) rfl rfl (fun w h => ⟨rfl, h⟩)
        · refine C.condF (congrArg (fun b => some (Value.bool b)) (nt c416)) ?_
          refine C.skip ?_
          refine N.nx ?_
          refine C.rs ?_
          refine J.p rfl rfl rfl rfl (Y.mv rfl) ?_
          refine J.p rfl rfl rfl rfl (Y.asg rfl) ?_
          refine J.nx ?_
          refine C.ret ?_
          obtain rfl := Option.some.inj H
          exact ret_ok (ks := [2]) rfl rfl (fun w h => ⟨rfl, h⟩)
  refine D.share (fun (i : Nat × Nat × Nat) => [(1, .pointer (some ⟨g1, 0, none⟩)), (3, .pointer (some ⟨i.1, 0, none⟩)), (4, .pointer (some ⟨i.2.1, 0, none⟩)), (5, .pointer (some ⟨i.2.2, 0, none⟩)), (14, .agg #[.int .i64 a0_10, .int .i64 a0_11, .int .i64 a0_12, .int .u32 a0_13])]) (fun (i : Nat × Nat × Nat) => cells i.1 27 [.int .u64 a0_1, .int .i64 a0_2, .string a0_3, .string a0_4] :: cells i.2.1 29 [.int .u64 a0_5, .int .i64 a0_6, .int .i64 a0_7, .int .i64 a0_8, .string a0_9] :: cells i.2.2 34 [.int .i64 0, .int .i64 0, .int .i64 0, .int .u32 0] :: cells g1 36 [.int .i64 a0_0, .int .u64 a0_1, .int .i64 a0_2, .string a0_3, .string a0_4, .int .u64 a0_5, .int .i64 a0_6, .int .i64 a0_7, .int .i64 a0_8, .string a0_9, .int .i64 a0_10, .int .i64 a0_11, .int .i64 a0_12, .int .u32 a0_13] :: G) 1 [true, true, true, true, true, true, true, true, true, true, true, false] (fun i => ?_) (fun hD417 => ?_)
  · obtain ⟨g153, g177, g201⟩ := i
    refine D.to (s' := [(1, .pointer (some ⟨g1, 0, none⟩)), (3, .pointer (some ⟨g153, 0, none⟩)), (4, .pointer (some ⟨g177, 0, none⟩)), (5, .pointer (some ⟨g201, 0, none⟩)), (14, .agg #[.int .i64 a0_10, .int .i64 a0_11, .int .i64 a0_12, .int .u32 a0_13])]) (G' := cells g153 27 [.int .u64 a0_1, .int .i64 a0_2, .string a0_3, .string a0_4] :: cells g177 29 [.int .u64 a0_5, .int .i64 a0_6, .int .i64 a0_7, .int .i64 a0_8, .string a0_9] :: cells g201 34 [.int .i64 0, .int .i64 0, .int .i64 0, .int .u32 0] :: cells g1 36 [.int .i64 a0_0, .int .u64 a0_1, .int .i64 a0_2, .string a0_3, .string a0_4, .int .u64 a0_5, .int .i64 a0_6, .int .i64 a0_7, .int .i64 a0_8, .string a0_9, .int .i64 a0_10, .int .i64 a0_11, .int .i64 a0_12, .int .u32 a0_13] :: G) (by exact ⟨rfl, rfl, rfl, rfl, rfl, trivial⟩) (fun w h => h) ?_
    refine D.any [11] (by kernel_rfl) rfl ⟨?_, trivial⟩
    refine DW.j (ls' := [true, true, true, true, true, true, true, true, true, true, true, true]) rfl rfl ?_
    refine J.pull 2 rfl rfl ?_
    refine J.stA (us := [.int .i64 a0_10, .int .i64 a0_11, .int .i64 a0_12, .int .u32 a0_13]) (L' := [.int .i64 a0_10, .int .i64 a0_11, .int .i64 a0_12, .int .u32 a0_13]) ti34 rfl rfl rfl rfl rfl rfl ?_
    refine J.nil ?_
    refine D.backK 3 rfl ?_
    exact D.to (by exact ⟨rfl, rfl, rfl, rfl, trivial⟩) (fun w h => (St.pick [1, 2, 0, 3] [_, _, _, _] h rfl)) (hD298 (g153, g177, g201))
  refine D.share (fun (i : Nat × Nat × Nat) => [(1, .pointer (some ⟨g1, 0, none⟩)), (3, .pointer (some ⟨i.1, 0, none⟩)), (4, .pointer (some ⟨i.2.1, 0, none⟩)), (5, .pointer (some ⟨i.2.2, 0, none⟩)), (12, .agg #[.int .u64 a0_5, .int .i64 a0_6, .int .i64 a0_7, .int .i64 a0_8, .string a0_9]), (14, .agg #[.int .i64 a0_10, .int .i64 a0_11, .int .i64 a0_12, .int .u32 a0_13])]) (fun (i : Nat × Nat × Nat) => cells i.1 27 [.int .u64 a0_1, .int .i64 a0_2, .string a0_3, .string a0_4] :: cells i.2.1 29 [.int .u64 0, .int .i64 0, .int .i64 0, .int .i64 0, .string ByteArray.empty] :: cells i.2.2 34 [.int .i64 0, .int .i64 0, .int .i64 0, .int .u32 0] :: cells g1 36 [.int .i64 a0_0, .int .u64 a0_1, .int .i64 a0_2, .string a0_3, .string a0_4, .int .u64 a0_5, .int .i64 a0_6, .int .i64 a0_7, .int .i64 a0_8, .string a0_9, .int .i64 a0_10, .int .i64 a0_11, .int .i64 a0_12, .int .u32 a0_13] :: G) 2 [true, true, true, true, true, true, true, true, true, true, false, false] (fun i => ?_) (fun hD418 => ?_)
  · obtain ⟨g153, g177, g201⟩ := i
    refine D.to (s' := [(1, .pointer (some ⟨g1, 0, none⟩)), (3, .pointer (some ⟨g153, 0, none⟩)), (4, .pointer (some ⟨g177, 0, none⟩)), (5, .pointer (some ⟨g201, 0, none⟩)), (12, .agg #[.int .u64 a0_5, .int .i64 a0_6, .int .i64 a0_7, .int .i64 a0_8, .string a0_9]), (14, .agg #[.int .i64 a0_10, .int .i64 a0_11, .int .i64 a0_12, .int .u32 a0_13])]) (G' := cells g153 27 [.int .u64 a0_1, .int .i64 a0_2, .string a0_3, .string a0_4] :: cells g177 29 [.int .u64 0, .int .i64 0, .int .i64 0, .int .i64 0, .string ByteArray.empty] :: cells g201 34 [.int .i64 0, .int .i64 0, .int .i64 0, .int .u32 0] :: cells g1 36 [.int .i64 a0_0, .int .u64 a0_1, .int .i64 a0_2, .string a0_3, .string a0_4, .int .u64 a0_5, .int .i64 a0_6, .int .i64 a0_7, .int .i64 a0_8, .string a0_9, .int .i64 a0_10, .int .i64 a0_11, .int .i64 a0_12, .int .u32 a0_13] :: G) (by exact ⟨rfl, rfl, rfl, rfl, rfl, rfl, trivial⟩) (fun w h => h) ?_
    refine D.any [10] (by kernel_rfl) rfl ⟨?_, trivial⟩
    refine DW.j (ls' := [true, true, true, true, true, true, true, true, true, true, true, false]) rfl rfl ?_
    refine J.pull 1 rfl rfl ?_
    refine J.stA (us := [.int .u64 a0_5, .int .i64 a0_6, .int .i64 a0_7, .int .i64 a0_8, .string a0_9]) (L' := [.int .u64 a0_5, .int .i64 a0_6, .int .i64 a0_7, .int .i64 a0_8, .string a0_9]) ti29 rfl rfl rfl rfl rfl rfl ?_
    refine J.nil ?_
    refine D.backK 3 rfl ?_
    exact D.to (by exact ⟨rfl, rfl, rfl, rfl, rfl, trivial⟩) (fun w h => (St.pick [1, 0, 2, 3] [_, _, _, _] h rfl)) (hD417 (g153, g177, g201))
  refine D.share (fun (i : Nat × Nat × Nat) => [(1, .pointer (some ⟨g1, 0, none⟩)), (3, .pointer (some ⟨i.1, 0, none⟩)), (4, .pointer (some ⟨i.2.1, 0, none⟩)), (5, .pointer (some ⟨i.2.2, 0, none⟩)), (10, .agg #[.int .u64 a0_1, .int .i64 a0_2, .string a0_3, .string a0_4]), (12, .agg #[.int .u64 a0_5, .int .i64 a0_6, .int .i64 a0_7, .int .i64 a0_8, .string a0_9]), (14, .agg #[.int .i64 a0_10, .int .i64 a0_11, .int .i64 a0_12, .int .u32 a0_13])]) (fun (i : Nat × Nat × Nat) => cells i.1 27 [.int .u64 0, .int .i64 0, .string ByteArray.empty, .string ByteArray.empty] :: cells i.2.1 29 [.int .u64 0, .int .i64 0, .int .i64 0, .int .i64 0, .string ByteArray.empty] :: cells i.2.2 34 [.int .i64 0, .int .i64 0, .int .i64 0, .int .u32 0] :: cells g1 36 [.int .i64 a0_0, .int .u64 a0_1, .int .i64 a0_2, .string a0_3, .string a0_4, .int .u64 a0_5, .int .i64 a0_6, .int .i64 a0_7, .int .i64 a0_8, .string a0_9, .int .i64 a0_10, .int .i64 a0_11, .int .i64 a0_12, .int .u32 a0_13] :: G) 3 [true, true, true, true, true, true, true, true, true, false, false, false] (fun i => ?_) (fun hD419 => ?_)
  · obtain ⟨g153, g177, g201⟩ := i
    refine D.to (s' := [(1, .pointer (some ⟨g1, 0, none⟩)), (3, .pointer (some ⟨g153, 0, none⟩)), (4, .pointer (some ⟨g177, 0, none⟩)), (5, .pointer (some ⟨g201, 0, none⟩)), (10, .agg #[.int .u64 a0_1, .int .i64 a0_2, .string a0_3, .string a0_4]), (12, .agg #[.int .u64 a0_5, .int .i64 a0_6, .int .i64 a0_7, .int .i64 a0_8, .string a0_9]), (14, .agg #[.int .i64 a0_10, .int .i64 a0_11, .int .i64 a0_12, .int .u32 a0_13])]) (G' := cells g153 27 [.int .u64 0, .int .i64 0, .string ByteArray.empty, .string ByteArray.empty] :: cells g177 29 [.int .u64 0, .int .i64 0, .int .i64 0, .int .i64 0, .string ByteArray.empty] :: cells g201 34 [.int .i64 0, .int .i64 0, .int .i64 0, .int .u32 0] :: cells g1 36 [.int .i64 a0_0, .int .u64 a0_1, .int .i64 a0_2, .string a0_3, .string a0_4, .int .u64 a0_5, .int .i64 a0_6, .int .i64 a0_7, .int .i64 a0_8, .string a0_9, .int .i64 a0_10, .int .i64 a0_11, .int .i64 a0_12, .int .u32 a0_13] :: G) (by exact ⟨rfl, rfl, rfl, rfl, rfl, rfl, rfl, trivial⟩) (fun w h => h) ?_
    refine D.any [9] (by kernel_rfl) rfl ⟨?_, trivial⟩
    refine DW.j (ls' := [true, true, true, true, true, true, true, true, true, true, false, false]) rfl rfl ?_
    refine J.stA (us := [.int .u64 a0_1, .int .i64 a0_2, .string a0_3, .string a0_4]) (L' := [.int .u64 a0_1, .int .i64 a0_2, .string a0_3, .string a0_4]) ti27 rfl rfl rfl rfl rfl rfl ?_
    refine J.nil ?_
    refine D.backK 3 rfl ?_
    exact D.to (by exact ⟨rfl, rfl, rfl, rfl, rfl, rfl, trivial⟩) (fun w h => h) (hD418 (g153, g177, g201))
  refine D.share (fun (i : Nat × Nat) => [(1, .pointer (some ⟨g1, 0, none⟩)), (3, .pointer (some ⟨i.1, 0, none⟩)), (4, .pointer (some ⟨i.2, 0, none⟩)), (10, .agg #[.int .u64 a0_1, .int .i64 a0_2, .string a0_3, .string a0_4]), (12, .agg #[.int .u64 a0_5, .int .i64 a0_6, .int .i64 a0_7, .int .i64 a0_8, .string a0_9]), (14, .agg #[.int .i64 a0_10, .int .i64 a0_11, .int .i64 a0_12, .int .u32 a0_13])]) (fun (i : Nat × Nat) => cells i.1 27 [.int .u64 0, .int .i64 0, .string ByteArray.empty, .string ByteArray.empty] :: cells i.2 29 [.int .u64 0, .int .i64 0, .int .i64 0, .int .i64 0, .string ByteArray.empty] :: cells g1 36 [.int .i64 a0_0, .int .u64 a0_1, .int .i64 a0_2, .string a0_3, .string a0_4, .int .u64 a0_5, .int .i64 a0_6, .int .i64 a0_7, .int .i64 a0_8, .string a0_9, .int .i64 a0_10, .int .i64 a0_11, .int .i64 a0_12, .int .u32 a0_13] :: G) 4 [true, true, true, true, true, true, true, true, false, false, false, false] (fun i => ?_) (fun hD420 => ?_)
  · obtain ⟨g153, g177⟩ := i
    refine D.to (s' := [(1, .pointer (some ⟨g1, 0, none⟩)), (3, .pointer (some ⟨g153, 0, none⟩)), (4, .pointer (some ⟨g177, 0, none⟩)), (10, .agg #[.int .u64 a0_1, .int .i64 a0_2, .string a0_3, .string a0_4]), (12, .agg #[.int .u64 a0_5, .int .i64 a0_6, .int .i64 a0_7, .int .i64 a0_8, .string a0_9]), (14, .agg #[.int .i64 a0_10, .int .i64 a0_11, .int .i64 a0_12, .int .u32 a0_13])]) (G' := cells g153 27 [.int .u64 0, .int .i64 0, .string ByteArray.empty, .string ByteArray.empty] :: cells g177 29 [.int .u64 0, .int .i64 0, .int .i64 0, .int .i64 0, .string ByteArray.empty] :: cells g1 36 [.int .i64 a0_0, .int .u64 a0_1, .int .i64 a0_2, .string a0_3, .string a0_4, .int .u64 a0_5, .int .i64 a0_6, .int .i64 a0_7, .int .i64 a0_8, .string a0_9, .int .i64 a0_10, .int .i64 a0_11, .int .i64 a0_12, .int .u32 a0_13] :: G) (by exact ⟨rfl, rfl, rfl, rfl, rfl, rfl, trivial⟩) (fun w h => h) ?_
    refine D.any [8] (by kernel_rfl) rfl ⟨?_, trivial⟩
    refine DW.j (ls' := [true, true, true, true, true, true, true, true, true, false, false, false]) rfl rfl ?_
    refine J.alloc (L := [.int .i64 0, .int .i64 0, .int .i64 0, .int .u32 0]) rfl ti34 rfl (fun g201 => ?_)
    refine J.nil ?_
    refine D.backK 3 rfl ?_
    exact D.to (by exact ⟨rfl, rfl, rfl, rfl, rfl, rfl, rfl, trivial⟩) (fun w h => (St.pick [1, 2, 0, 3] [_, _, _, _] h rfl)) (hD419 (g153, g177, g201))
  refine D.share (fun (i : Nat × Nat) => [(1, .pointer (some ⟨g1, 0, none⟩)), (3, .pointer (some ⟨i.1, 0, none⟩)), (5, .pointer (some ⟨i.2, 0, none⟩)), (10, .agg #[.int .u64 a0_1, .int .i64 a0_2, .string a0_3, .string a0_4]), (12, .agg #[.int .u64 a0_5, .int .i64 a0_6, .int .i64 a0_7, .int .i64 a0_8, .string a0_9]), (14, .agg #[.int .i64 a0_10, .int .i64 a0_11, .int .i64 a0_12, .int .u32 a0_13])]) (fun (i : Nat × Nat) => cells i.1 27 [.int .u64 0, .int .i64 0, .string ByteArray.empty, .string ByteArray.empty] :: cells i.2 34 [.int .i64 0, .int .i64 0, .int .i64 0, .int .u32 0] :: cells g1 36 [.int .i64 a0_0, .int .u64 a0_1, .int .i64 a0_2, .string a0_3, .string a0_4, .int .u64 a0_5, .int .i64 a0_6, .int .i64 a0_7, .int .i64 a0_8, .string a0_9, .int .i64 a0_10, .int .i64 a0_11, .int .i64 a0_12, .int .u32 a0_13] :: G) 4 [true, true, true, true, true, true, true, false, true, false, false, false] (fun i => ?_) (fun hD421 => ?_)
  · obtain ⟨g153, g201⟩ := i
    refine D.to (s' := [(1, .pointer (some ⟨g1, 0, none⟩)), (3, .pointer (some ⟨g153, 0, none⟩)), (5, .pointer (some ⟨g201, 0, none⟩)), (10, .agg #[.int .u64 a0_1, .int .i64 a0_2, .string a0_3, .string a0_4]), (12, .agg #[.int .u64 a0_5, .int .i64 a0_6, .int .i64 a0_7, .int .i64 a0_8, .string a0_9]), (14, .agg #[.int .i64 a0_10, .int .i64 a0_11, .int .i64 a0_12, .int .u32 a0_13])]) (G' := cells g153 27 [.int .u64 0, .int .i64 0, .string ByteArray.empty, .string ByteArray.empty] :: cells g201 34 [.int .i64 0, .int .i64 0, .int .i64 0, .int .u32 0] :: cells g1 36 [.int .i64 a0_0, .int .u64 a0_1, .int .i64 a0_2, .string a0_3, .string a0_4, .int .u64 a0_5, .int .i64 a0_6, .int .i64 a0_7, .int .i64 a0_8, .string a0_9, .int .i64 a0_10, .int .i64 a0_11, .int .i64 a0_12, .int .u32 a0_13] :: G) (by exact ⟨rfl, rfl, rfl, rfl, rfl, rfl, trivial⟩) (fun w h => h) ?_
    refine D.any [7] (by kernel_rfl) rfl ⟨?_, trivial⟩
    refine DW.j (ls' := [true, true, true, true, true, true, true, true, true, false, false, false]) rfl rfl ?_
    refine J.alloc (L := [.int .u64 0, .int .i64 0, .int .i64 0, .int .i64 0, .string ByteArray.empty]) rfl ti29 rfl (fun g177 => ?_)
    refine J.nil ?_
    refine D.backK 3 rfl ?_
    exact D.to (by exact ⟨rfl, rfl, rfl, rfl, rfl, rfl, rfl, trivial⟩) (fun w h => (St.pick [1, 0, 2, 3] [_, _, _, _] h rfl)) (hD419 (g153, g177, g201))
  refine D.share (fun (i : Nat × Nat) => [(1, .pointer (some ⟨g1, 0, none⟩)), (4, .pointer (some ⟨i.1, 0, none⟩)), (5, .pointer (some ⟨i.2, 0, none⟩)), (10, .agg #[.int .u64 a0_1, .int .i64 a0_2, .string a0_3, .string a0_4]), (12, .agg #[.int .u64 a0_5, .int .i64 a0_6, .int .i64 a0_7, .int .i64 a0_8, .string a0_9]), (14, .agg #[.int .i64 a0_10, .int .i64 a0_11, .int .i64 a0_12, .int .u32 a0_13])]) (fun (i : Nat × Nat) => cells i.1 29 [.int .u64 0, .int .i64 0, .int .i64 0, .int .i64 0, .string ByteArray.empty] :: cells i.2 34 [.int .i64 0, .int .i64 0, .int .i64 0, .int .u32 0] :: cells g1 36 [.int .i64 a0_0, .int .u64 a0_1, .int .i64 a0_2, .string a0_3, .string a0_4, .int .u64 a0_5, .int .i64 a0_6, .int .i64 a0_7, .int .i64 a0_8, .string a0_9, .int .i64 a0_10, .int .i64 a0_11, .int .i64 a0_12, .int .u32 a0_13] :: G) 4 [true, true, true, true, true, true, false, true, true, false, false, false] (fun i => ?_) (fun hD422 => ?_)
  · obtain ⟨g177, g201⟩ := i
    refine D.to (s' := [(1, .pointer (some ⟨g1, 0, none⟩)), (4, .pointer (some ⟨g177, 0, none⟩)), (5, .pointer (some ⟨g201, 0, none⟩)), (10, .agg #[.int .u64 a0_1, .int .i64 a0_2, .string a0_3, .string a0_4]), (12, .agg #[.int .u64 a0_5, .int .i64 a0_6, .int .i64 a0_7, .int .i64 a0_8, .string a0_9]), (14, .agg #[.int .i64 a0_10, .int .i64 a0_11, .int .i64 a0_12, .int .u32 a0_13])]) (G' := cells g177 29 [.int .u64 0, .int .i64 0, .int .i64 0, .int .i64 0, .string ByteArray.empty] :: cells g201 34 [.int .i64 0, .int .i64 0, .int .i64 0, .int .u32 0] :: cells g1 36 [.int .i64 a0_0, .int .u64 a0_1, .int .i64 a0_2, .string a0_3, .string a0_4, .int .u64 a0_5, .int .i64 a0_6, .int .i64 a0_7, .int .i64 a0_8, .string a0_9, .int .i64 a0_10, .int .i64 a0_11, .int .i64 a0_12, .int .u32 a0_13] :: G) (by exact ⟨rfl, rfl, rfl, rfl, rfl, rfl, trivial⟩) (fun w h => h) ?_
    refine D.any [6] (by kernel_rfl) rfl ⟨?_, trivial⟩
    refine DW.j (ls' := [true, true, true, true, true, true, true, true, true, false, false, false]) rfl rfl ?_
    refine J.alloc (L := [.int .u64 0, .int .i64 0, .string ByteArray.empty, .string ByteArray.empty]) rfl ti27 rfl (fun g153 => ?_)
    refine J.nil ?_
    refine D.backK 3 rfl ?_
    exact D.to (by exact ⟨rfl, rfl, rfl, rfl, rfl, rfl, rfl, trivial⟩) (fun w h => h) (hD419 (g153, g177, g201))
  refine D.share (fun (i : Nat) => [(1, .pointer (some ⟨g1, 0, none⟩)), (3, .pointer (some ⟨i, 0, none⟩)), (10, .agg #[.int .u64 a0_1, .int .i64 a0_2, .string a0_3, .string a0_4]), (12, .agg #[.int .u64 a0_5, .int .i64 a0_6, .int .i64 a0_7, .int .i64 a0_8, .string a0_9]), (14, .agg #[.int .i64 a0_10, .int .i64 a0_11, .int .i64 a0_12, .int .u32 a0_13])]) (fun (i : Nat) => cells i 27 [.int .u64 0, .int .i64 0, .string ByteArray.empty, .string ByteArray.empty] :: cells g1 36 [.int .i64 a0_0, .int .u64 a0_1, .int .i64 a0_2, .string a0_3, .string a0_4, .int .u64 a0_5, .int .i64 a0_6, .int .i64 a0_7, .int .i64 a0_8, .string a0_9, .int .i64 a0_10, .int .i64 a0_11, .int .i64 a0_12, .int .u32 a0_13] :: G) 5 [true, true, true, true, true, true, true, false, false, false, false, false] (fun g153 => ?_) (fun hD423 => ?_)
  · refine D.to (s' := [(1, .pointer (some ⟨g1, 0, none⟩)), (3, .pointer (some ⟨g153, 0, none⟩)), (10, .agg #[.int .u64 a0_1, .int .i64 a0_2, .string a0_3, .string a0_4]), (12, .agg #[.int .u64 a0_5, .int .i64 a0_6, .int .i64 a0_7, .int .i64 a0_8, .string a0_9]), (14, .agg #[.int .i64 a0_10, .int .i64 a0_11, .int .i64 a0_12, .int .u32 a0_13])]) (G' := cells g153 27 [.int .u64 0, .int .i64 0, .string ByteArray.empty, .string ByteArray.empty] :: cells g1 36 [.int .i64 a0_0, .int .u64 a0_1, .int .i64 a0_2, .string a0_3, .string a0_4, .int .u64 a0_5, .int .i64 a0_6, .int .i64 a0_7, .int .i64 a0_8, .string a0_9, .int .i64 a0_10, .int .i64 a0_11, .int .i64 a0_12, .int .u32 a0_13] :: G) (by exact ⟨rfl, rfl, rfl, rfl, rfl, trivial⟩) (fun w h => h) ?_
    refine D.any [7, 8] (by kernel_rfl) rfl ⟨?_, ?_, trivial⟩
    · refine DW.j (ls' := [true, true, true, true, true, true, true, true, false, false, false, false]) rfl rfl ?_
      refine J.alloc (L := [.int .u64 0, .int .i64 0, .int .i64 0, .int .i64 0, .string ByteArray.empty]) rfl ti29 rfl (fun g177 => ?_)
      refine J.nil ?_
      refine D.backK 2 rfl ?_
      exact D.to (by exact ⟨rfl, rfl, rfl, rfl, rfl, rfl, trivial⟩) (fun w h => (St.pick [1, 0, 2] [_, _, _] h rfl)) (hD420 (g153, g177))
    · refine DW.j (ls' := [true, true, true, true, true, true, true, false, true, false, false, false]) rfl rfl ?_
      refine J.alloc (L := [.int .i64 0, .int .i64 0, .int .i64 0, .int .u32 0]) rfl ti34 rfl (fun g201 => ?_)
      refine J.nil ?_
      refine D.backK 2 rfl ?_
      exact D.to (by exact ⟨rfl, rfl, rfl, rfl, rfl, rfl, trivial⟩) (fun w h => (St.pick [1, 0, 2] [_, _, _] h rfl)) (hD421 (g153, g201))
  refine D.share (fun (i : Nat) => [(1, .pointer (some ⟨g1, 0, none⟩)), (4, .pointer (some ⟨i, 0, none⟩)), (10, .agg #[.int .u64 a0_1, .int .i64 a0_2, .string a0_3, .string a0_4]), (12, .agg #[.int .u64 a0_5, .int .i64 a0_6, .int .i64 a0_7, .int .i64 a0_8, .string a0_9]), (14, .agg #[.int .i64 a0_10, .int .i64 a0_11, .int .i64 a0_12, .int .u32 a0_13])]) (fun (i : Nat) => cells i 29 [.int .u64 0, .int .i64 0, .int .i64 0, .int .i64 0, .string ByteArray.empty] :: cells g1 36 [.int .i64 a0_0, .int .u64 a0_1, .int .i64 a0_2, .string a0_3, .string a0_4, .int .u64 a0_5, .int .i64 a0_6, .int .i64 a0_7, .int .i64 a0_8, .string a0_9, .int .i64 a0_10, .int .i64 a0_11, .int .i64 a0_12, .int .u32 a0_13] :: G) 5 [true, true, true, true, true, true, false, true, false, false, false, false] (fun g177 => ?_) (fun hD424 => ?_)
  · refine D.to (s' := [(1, .pointer (some ⟨g1, 0, none⟩)), (4, .pointer (some ⟨g177, 0, none⟩)), (10, .agg #[.int .u64 a0_1, .int .i64 a0_2, .string a0_3, .string a0_4]), (12, .agg #[.int .u64 a0_5, .int .i64 a0_6, .int .i64 a0_7, .int .i64 a0_8, .string a0_9]), (14, .agg #[.int .i64 a0_10, .int .i64 a0_11, .int .i64 a0_12, .int .u32 a0_13])]) (G' := cells g177 29 [.int .u64 0, .int .i64 0, .int .i64 0, .int .i64 0, .string ByteArray.empty] :: cells g1 36 [.int .i64 a0_0, .int .u64 a0_1, .int .i64 a0_2, .string a0_3, .string a0_4, .int .u64 a0_5, .int .i64 a0_6, .int .i64 a0_7, .int .i64 a0_8, .string a0_9, .int .i64 a0_10, .int .i64 a0_11, .int .i64 a0_12, .int .u32 a0_13] :: G) (by exact ⟨rfl, rfl, rfl, rfl, rfl, trivial⟩) (fun w h => h) ?_
    refine D.any [6, 8] (by kernel_rfl) rfl ⟨?_, ?_, trivial⟩
    · refine DW.j (ls' := [true, true, true, true, true, true, true, true, false, false, false, false]) rfl rfl ?_
      refine J.alloc (L := [.int .u64 0, .int .i64 0, .string ByteArray.empty, .string ByteArray.empty]) rfl ti27 rfl (fun g153 => ?_)
      refine J.nil ?_
      refine D.backK 2 rfl ?_
      exact D.to (by exact ⟨rfl, rfl, rfl, rfl, rfl, rfl, trivial⟩) (fun w h => h) (hD420 (g153, g177))
    · refine DW.j (ls' := [true, true, true, true, true, true, false, true, true, false, false, false]) rfl rfl ?_
      refine J.alloc (L := [.int .i64 0, .int .i64 0, .int .i64 0, .int .u32 0]) rfl ti34 rfl (fun g201 => ?_)
      refine J.nil ?_
      refine D.backK 2 rfl ?_
      exact D.to (by exact ⟨rfl, rfl, rfl, rfl, rfl, rfl, trivial⟩) (fun w h => (St.pick [1, 0, 2] [_, _, _] h rfl)) (hD422 (g177, g201))
  refine D.share (fun (i : Nat) => [(1, .pointer (some ⟨g1, 0, none⟩)), (5, .pointer (some ⟨i, 0, none⟩)), (10, .agg #[.int .u64 a0_1, .int .i64 a0_2, .string a0_3, .string a0_4]), (12, .agg #[.int .u64 a0_5, .int .i64 a0_6, .int .i64 a0_7, .int .i64 a0_8, .string a0_9]), (14, .agg #[.int .i64 a0_10, .int .i64 a0_11, .int .i64 a0_12, .int .u32 a0_13])]) (fun (i : Nat) => cells i 34 [.int .i64 0, .int .i64 0, .int .i64 0, .int .u32 0] :: cells g1 36 [.int .i64 a0_0, .int .u64 a0_1, .int .i64 a0_2, .string a0_3, .string a0_4, .int .u64 a0_5, .int .i64 a0_6, .int .i64 a0_7, .int .i64 a0_8, .string a0_9, .int .i64 a0_10, .int .i64 a0_11, .int .i64 a0_12, .int .u32 a0_13] :: G) 5 [true, true, true, true, true, true, false, false, true, false, false, false] (fun g201 => ?_) (fun hD425 => ?_)
  · refine D.to (s' := [(1, .pointer (some ⟨g1, 0, none⟩)), (5, .pointer (some ⟨g201, 0, none⟩)), (10, .agg #[.int .u64 a0_1, .int .i64 a0_2, .string a0_3, .string a0_4]), (12, .agg #[.int .u64 a0_5, .int .i64 a0_6, .int .i64 a0_7, .int .i64 a0_8, .string a0_9]), (14, .agg #[.int .i64 a0_10, .int .i64 a0_11, .int .i64 a0_12, .int .u32 a0_13])]) (G' := cells g201 34 [.int .i64 0, .int .i64 0, .int .i64 0, .int .u32 0] :: cells g1 36 [.int .i64 a0_0, .int .u64 a0_1, .int .i64 a0_2, .string a0_3, .string a0_4, .int .u64 a0_5, .int .i64 a0_6, .int .i64 a0_7, .int .i64 a0_8, .string a0_9, .int .i64 a0_10, .int .i64 a0_11, .int .i64 a0_12, .int .u32 a0_13] :: G) (by exact ⟨rfl, rfl, rfl, rfl, rfl, trivial⟩) (fun w h => h) ?_
    refine D.any [6, 7] (by kernel_rfl) rfl ⟨?_, ?_, trivial⟩
    · refine DW.j (ls' := [true, true, true, true, true, true, true, false, true, false, false, false]) rfl rfl ?_
      refine J.alloc (L := [.int .u64 0, .int .i64 0, .string ByteArray.empty, .string ByteArray.empty]) rfl ti27 rfl (fun g153 => ?_)
      refine J.nil ?_
      refine D.backK 2 rfl ?_
      exact D.to (by exact ⟨rfl, rfl, rfl, rfl, rfl, rfl, trivial⟩) (fun w h => h) (hD421 (g153, g201))
    · refine DW.j (ls' := [true, true, true, true, true, true, false, true, true, false, false, false]) rfl rfl ?_
      refine J.alloc (L := [.int .u64 0, .int .i64 0, .int .i64 0, .int .i64 0, .string ByteArray.empty]) rfl ti29 rfl (fun g177 => ?_)
      refine J.nil ?_
      refine D.backK 2 rfl ?_
      exact D.to (by exact ⟨rfl, rfl, rfl, rfl, rfl, rfl, trivial⟩) (fun w h => h) (hD422 (g177, g201))
  refine D.any [6, 7, 8] (by kernel_rfl) rfl ⟨?_, ?_, ?_, trivial⟩
  · refine DW.j (ls' := [true, true, true, true, true, true, true, false, false, false, false, false]) rfl rfl ?_
    refine J.alloc (L := [.int .u64 0, .int .i64 0, .string ByteArray.empty, .string ByteArray.empty]) rfl ti27 rfl (fun g153 => ?_)
    refine J.nil ?_
    refine D.backK 1 rfl ?_
    exact D.to (by exact ⟨rfl, rfl, rfl, rfl, rfl, trivial⟩) (fun w h => h) (hD423 g153)
  · refine DW.j (ls' := [true, true, true, true, true, true, false, true, false, false, false, false]) rfl rfl ?_
    refine J.alloc (L := [.int .u64 0, .int .i64 0, .int .i64 0, .int .i64 0, .string ByteArray.empty]) rfl ti29 rfl (fun g177 => ?_)
    refine J.nil ?_
    refine D.backK 1 rfl ?_
    exact D.to (by exact ⟨rfl, rfl, rfl, rfl, rfl, trivial⟩) (fun w h => h) (hD424 g177)
  · refine DW.j (ls' := [true, true, true, true, true, true, false, false, true, false, false, false]) rfl rfl ?_
    refine J.alloc (L := [.int .i64 0, .int .i64 0, .int .i64 0, .int .u32 0]) rfl ti34 rfl (fun g201 => ?_)
    refine J.nil ?_
    refine D.backK 1 rfl ?_
    exact D.to (by exact ⟨rfl, rfl, rfl, rfl, rfl, trivial⟩) (fun w h => h) (hD425 g201)
end Go.Proofs.Ytakolnamobkkkaa
