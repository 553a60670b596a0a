/- Own text, printed by the lifting program: each Go function beside a plain function, and the proof that a call of the one comes to the other. Conditions: what came in can be read. -/
import Derived.Test.YtakolnamobkkkaaLiftA
set_option linter.unusedVariables false
set_option linter.unusedSimpArgs false
set_option maxRecDepth 10000
set_option maxHeartbeats 4000000
namespace Go.Proofs.Ytakolnamobkkkaa
open Go Go.Sx
theorem go71 : GoF Try.prog 71 := GoF.of Try.func71 (by kernel_rfl) (by kernel_rfl)
theorem go72 : GoF Try.prog 72 := GoF.of Try.func72 (by kernel_rfl) (by kernel_rfl)
/-! ### salvor/frame.check: function 46 -/
def check.f (a0_0 : Int) (a0_1 : Int) (a0_2 : Int) (a0_3 : ByteArray) (a0_4 : ByteArray) (a0_5 : Int) (a0_6 : Int) (a0_7 : Int) (a0_8 : Int) (a0_9 : ByteArray) (a0_10 : Int) (a0_11 : Int) (a0_12 : Int) (a0_13 : Int) : Option (Int) := thn ((if a0_0 = 1 then (some (decide (a0_0 = 1))) else (some (decide (a0_0 = 2)))).bind fun o65 => if o65 = true then (if a0_2 ≠ a0_0 then (some (.inl (46))) else ((may.f a0_1 a0_3 a0_4 a0_2).bind fun t70 => some (.inr (t70, true, a0_1, a0_2, a0_3, a0_4, 0, 0, 0, 0, ByteArray.empty, 0, 0, 0, 0)))) else (if a0_0 = 3 then ((isRecord.f a0_6).bind fun t74 => if t74 = true then ((may.f a0_5 a0_9 (⟨#[]⟩ : ByteArray) a0_6).bind fun t77 => ((between.f a0_7 0 4194304).bind fun t90 => if t90 = true then ((between.f a0_8 1 4194304).bind fun t93 => some t93) else (some false)).bind fun o86 => some (.inr (t77, o86, 0, 0, ByteArray.empty, ByteArray.empty, a0_5, a0_6, a0_7, a0_8, a0_9, 0, 0, 0, 0))) else (some (.inl (46)))) else (if a0_0 = 4 then (((between.f a0_10 0 4194304).bind fun t115 => if t115 = true then ((between.f a0_11 0 4194304).bind fun t118 => if t118 = true then ((between.f a0_12 0 4194304).bind fun t121 => some t121) else (some false)) else (some false)).bind fun o111 => some (.inr (0, o111, 0, 0, ByteArray.empty, ByteArray.empty, 0, 0, 0, 0, ByteArray.empty, a0_10, a0_11, a0_12, a0_13))) else (some (.inl (46)))))) fun o60 => (if o60.1 = 0 then (if o60.2.1 = true then (some (!(decide (a0_0 = a0_0 ∧ (o60.2.2.1 = a0_1 ∧ o60.2.2.2.1 = a0_2 ∧ o60.2.2.2.2.1 = a0_3 ∧ o60.2.2.2.2.2.1 = a0_4 ∧ True) ∧ (o60.2.2.2.2.2.2.1 = a0_5 ∧ o60.2.2.2.2.2.2.2.1 = a0_6 ∧ o60.2.2.2.2.2.2.2.2.1 = a0_7 ∧ o60.2.2.2.2.2.2.2.2.2.1 = a0_8 ∧ o60.2.2.2.2.2.2.2.2.2.2.1 = a0_9 ∧ True) ∧ (o60.2.2.2.2.2.2.2.2.2.2.2.1 = a0_10 ∧ (o60.2.2.2.2.2.2.2.2.2.2.2.2.1 = a0_11 ∧ o60.2.2.2.2.2.2.2.2.2.2.2.2.2.1 = a0_12 ∧ o60.2.2.2.2.2.2.2.2.2.2.2.2.2.2 = a0_13 ∧ True) ∧ True) ∧ True)))) else (some true)) else (some false)).bind fun o128 => if o128 = true then (some 40) else (some o60.1)
theorem check.calls {B : Nat} {w0 : World} {G : List HP} (a0_0 : Int) (a0_1 : Int) (a0_2 : Int) (a0_3 : ByteArray) (a0_4 : ByteArray) (a0_5 : Int) (a0_6 : Int) (a0_7 : Int) (a0_8 : Int) (a0_9 : ByteArray) (a0_10 : Int) (a0_11 : Int) (a0_12 : Int) (a0_13 : Int) (r : Int) (H : check.f a0_0 a0_1 a0_2 a0_3 a0_4 a0_5 a0_6 a0_7 a0_8 a0_9 a0_10 a0_11 a0_12 a0_13 = some r) (w : World) (hw : St B w0 (G) w) :
    Calls Try.prog 46 [.agg #[.int .i64 a0_0, .int .u64 a0_1, .int .i64 a0_2, .string a0_3, .string a0_4, .int .u64 a0_5, .int .i64 a0_6, .int .i64 a0_7, .int .i64 a0_8, .string a0_9, .int .i64 a0_10, .int .i64 a0_11, .int .i64 a0_12, .int .u32 a0_13]].toArray w (fun e w' => e = .returned (.int .i64 r) ∧ St B w0 (G) w') := by
  unfold check.f at H
  refine calls_of (n := 93) (s := [(0, .agg #[.int .i64 a0_0, .int .u64 a0_1, .int .i64 a0_2, .string a0_3, .string a0_4, .int .u64 a0_5, .int .i64 a0_6, .int .i64 a0_7, .int .i64 a0_8, .string a0_9, .int .i64 a0_10, .int .i64 a0_11, .int .i64 a0_12, .int .u32 a0_13])]) Try.func46 rfl rfl rfl rfl ?_ hw
  refine C.rs ?_
  refine J.box (L := [.int .i64 a0_0, .int .u64 a0_1, .int .i64 a0_2, .string a0_3, .string a0_4, .int .u64 a0_5, .int .i64 a0_6, .int .i64 a0_7, .int .i64 a0_8, .string a0_9, .int .i64 a0_10, .int .i64 a0_11, .int .i64 a0_12, .int .u32 a0_13]) rfl rfl rfl (fun g1 => ?_)
  refine J.p rfl rfl rfl rfl (Y.asg rfl) ?_
  refine J.nx ?_
  refine C.seq ?_
  refine C.drawn (fuel := 12) (ls := [false, false, false, false, false, false, false, false, false, false, false, false]) [] (cells g1 36 [.int .i64 a0_0, .int .u64 a0_1, .int .i64 a0_2, .string a0_3, .string a0_4, .int .u64 a0_5, .int .i64 a0_6, .int .i64 a0_7, .int .i64 a0_8, .string a0_9, .int .i64 a0_10, .int .i64 a0_11, .int .i64 a0_12, .int .u32 a0_13] :: G) mx rfl rfl ?_
  refine D.share (fun (i : Nat × Nat × Nat) => [(1, .pointer (some ⟨g1, 0, none⟩)), (3, .pointer (some ⟨i.1, 0, none⟩)), (4, .pointer (some ⟨i.2.1, 0, none⟩)), (5, .pointer (some ⟨i.2.2, 0, none⟩))]) (fun (i : Nat × Nat × Nat) => cells i.1 27 [.int .u64 a0_1, .int .i64 a0_2, .string a0_3, .string a0_4] :: cells i.2.1 29 [.int .u64 a0_5, .int .i64 a0_6, .int .i64 a0_7, .int .i64 a0_8, .string a0_9] :: cells i.2.2 34 [.int .i64 a0_10, .int .i64 a0_11, .int .i64 a0_12, .int .u32 a0_13] :: cells g1 36 [.int .i64 a0_0, .int .u64 a0_1, .int .i64 a0_2, .string a0_3, .string a0_4, .int .u64 a0_5, .int .i64 a0_6, .int .i64 a0_7, .int .i64 a0_8, .string a0_9, .int .i64 a0_10, .int .i64 a0_11, .int .i64 a0_12, .int .u32 a0_13] :: G) 0 [true, true, true, true, true, true, true, true, true, true, true, true] (fun i => ?_) (fun hD16 => ?_)
  · obtain ⟨g9, g10, g11⟩ := i
    refine D.to (s' := [(1, .pointer (some ⟨g1, 0, none⟩)), (3, .pointer (some ⟨g9, 0, none⟩)), (4, .pointer (some ⟨g10, 0, none⟩)), (5, .pointer (some ⟨g11, 0, none⟩))]) (G' := cells g9 27 [.int .u64 a0_1, .int .i64 a0_2, .string a0_3, .string a0_4] :: cells g10 29 [.int .u64 a0_5, .int .i64 a0_6, .int .i64 a0_7, .int .i64 a0_8, .string a0_9] :: cells g11 34 [.int .i64 a0_10, .int .i64 a0_11, .int .i64 a0_12, .int .u32 a0_13] :: cells g1 36 [.int .i64 a0_0, .int .u64 a0_1, .int .i64 a0_2, .string a0_3, .string a0_4, .int .u64 a0_5, .int .i64 a0_6, .int .i64 a0_7, .int .i64 a0_8, .string a0_9, .int .i64 a0_10, .int .i64 a0_11, .int .i64 a0_12, .int .u32 a0_13] :: G) (by exact ⟨rfl, rfl, rfl, rfl, trivial⟩) (fun w h => h) ?_
    refine D.nil (by kernel_rfl) ?_
    refine N.nx ?_
    refine C.rs ?_
    refine J.p rfl rfl rfl rfl (Y.asg rfl) ?_
    refine J.nx ?_
    refine C.rs ?_
    refine J.p rfl rfl rfl rfl (Y.fa0 fa36_0 rfl rfl) ?_
    refine J.r rfl rfl rfl rfl (Y.ldC 3 Try.underlying24 rfl rfl rfl rfl) ?_
    refine J.p rfl rfl rfl rfl (Y.bld (cs := [.int .i64 a0_0, .int .u64 0, .int .i64 0, .string ByteArray.empty, .string ByteArray.empty, .int .u64 0, .int .i64 0, .int .i64 0, .int .i64 0, .string ByteArray.empty, .int .i64 0, .int .i64 0, .int .i64 0, .int .u32 0]) rfl pl36 ti36 rfl rfl) ?_
    refine J.alloc (L := [.int .i64 0, .int .u64 0, .int .i64 0, .string ByteArray.empty, .string ByteArray.empty, .int .u64 0, .int .i64 0, .int .i64 0, .int .i64 0, .string ByteArray.empty, .int .i64 0, .int .i64 0, .int .i64 0, .int .u32 0]) rfl ti36 rfl (fun g17 => ?_)
    refine J.stA (us := [.int .i64 a0_0, .int .u64 0, .int .i64 0, .string ByteArray.empty, .string ByteArray.empty, .int .u64 0, .int .i64 0, .int .i64 0, .int .i64 0, .string ByteArray.empty, .int .i64 0, .int .i64 0, .int .i64 0, .int .u32 0]) (L' := [.int .i64 a0_0, .int .u64 0, .int .i64 0, .string ByteArray.empty, .string ByteArray.empty, .int .u64 0, .int .i64 0, .int .i64 0, .int .i64 0, .string ByteArray.empty, .int .i64 0, .int .i64 0, .int .i64 0, .int .u32 0]) ti36 rfl rfl rfl rfl rfl rfl ?_
    refine J.nx ?_
    refine C.rs ?_
    refine J.p rfl rfl rfl rfl (Y.asg rfl) ?_
    refine J.nx ?_
    refine C.seq ?_
    refine C.rs ?_
    refine J.p rfl rfl rfl rfl (Y.fa0 fa36_0 rfl rfl) ?_
    refine J.r rfl rfl rfl rfl (Y.ldC 4 Try.underlying24 rfl rfl rfl rfl) ?_
    refine J.nx ?_
    refine C.joinNR H (fun (o60 : Int × Bool × Int × Int × ByteArray × ByteArray × Int × Int × Int × Int × ByteArray × Int × Int × Int × Int) (j61 : Unit) => [(1, .pointer (some ⟨g1, 0, none⟩)), (6, .int .i64 o60.1), (7, .pointer (some ⟨g17, 0, none⟩)), (8, .bool o60.2.1)]) (fun (o60 : Int × Bool × Int × Int × ByteArray × ByteArray × Int × Int × Int × Int × ByteArray × Int × Int × Int × Int) (j61 : Unit) => cells g1 36 [.int .i64 a0_0, .int .u64 a0_1, .int .i64 a0_2, .string a0_3, .string a0_4, .int .u64 a0_5, .int .i64 a0_6, .int .i64 a0_7, .int .i64 a0_8, .string a0_9, .int .i64 a0_10, .int .i64 a0_11, .int .i64 a0_12, .int .u32 a0_13] :: cells g17 36 [.int .i64 a0_0, .int .u64 o60.2.2.1, .int .i64 o60.2.2.2.1, .string o60.2.2.2.2.1, .string o60.2.2.2.2.2.1, .int .u64 o60.2.2.2.2.2.2.1, .int .i64 o60.2.2.2.2.2.2.2.1, .int .i64 o60.2.2.2.2.2.2.2.2.1, .int .i64 o60.2.2.2.2.2.2.2.2.2.1, .string o60.2.2.2.2.2.2.2.2.2.2.1, .int .i64 o60.2.2.2.2.2.2.2.2.2.2.2.1, .int .i64 o60.2.2.2.2.2.2.2.2.2.2.2.2.1, .int .i64 o60.2.2.2.2.2.2.2.2.2.2.2.2.2.1, .int .u32 o60.2.2.2.2.2.2.2.2.2.2.2.2.2.2] :: G) (fun (o60 : Int × Bool × Int × Int × ByteArray × ByteArray × Int × Int × Int × Int × ByteArray × Int × Int × Int × Int) (j61 : Unit) => True) (fun o58 H HK59 => ?_) (fun o60 j61 H _ => ?_)
    · refine C.blk ?_
      refine C.seq ?_
      refine C.rs ?_
      refine J.p rfl rfl rfl rfl (Y.bin rfl rfl rfl) ?_
      refine J.p rfl rfl rfl rfl (Y.asg rfl) ?_
      refine J.nx ?_
      refine C.joinN H (fun (o65 : Bool) (j66 : Unit) => [(1, .pointer (some ⟨g1, 0, none⟩)), (3, .pointer (some ⟨g9, 0, none⟩)), (4, .pointer (some ⟨g10, 0, none⟩)), (5, .pointer (some ⟨g11, 0, none⟩)), (6, .int .i64 0), (7, .pointer (some ⟨g17, 0, none⟩)), (8, .bool true), (19, .int .i64 a0_0), (20, .bool o65)]) (fun (o65 : Bool) (j66 : Unit) => cells g1 36 [.int .i64 a0_0, .int .u64 a0_1, .int .i64 a0_2, .string a0_3, .string a0_4, .int .u64 a0_5, .int .i64 a0_6, .int .i64 a0_7, .int .i64 a0_8, .string a0_9, .int .i64 a0_10, .int .i64 a0_11, .int .i64 a0_12, .int .u32 a0_13] :: cells g9 27 [.int .u64 a0_1, .int .i64 a0_2, .string a0_3, .string a0_4] :: cells g10 29 [.int .u64 a0_5, .int .i64 a0_6, .int .i64 a0_7, .int .i64 a0_8, .string a0_9] :: cells g11 34 [.int .i64 a0_10, .int .i64 a0_11, .int .i64 a0_12, .int .u32 a0_13] :: cells g17 36 [.int .i64 a0_0, .int .u64 0, .int .i64 0, .string ByteArray.empty, .string ByteArray.empty, .int .u64 0, .int .i64 0, .int .i64 0, .int .i64 0, .string ByteArray.empty, .int .i64 0, .int .i64 0, .int .i64 0, .int .u32 0] :: G) (fun (o65 : Bool) (j66 : Unit) => True) (fun o63 H HK64 => ?_) (fun o65 j66 H _ => ?_)
      · refine split2 H (fun c67 H => ?_) (fun c67 H => ?_)
        · refine C.condT (congrArg (fun b => some (Value.bool b)) (decide_eq_true c67)) ?_
          refine C.skip ?_
          obtain rfl := Option.some.inj H
          exact N.meet (decide (a0_0 = 1), ()) ⟨HK64, trivial⟩ (by exact ⟨rfl, rfl, rfl, rfl, rfl, rfl, rfl, rfl, rfl, trivial⟩) (by exact fun w h => (St.pick [4, 1, 2, 3, 0] [_, _, _, _, _] h rfl))
        · refine C.condF (congrArg (fun b => some (Value.bool b)) (decide_eq_false c67)) ?_
          refine C.reg ?_
          refine J.p rfl rfl rfl rfl (Y.bin rfl rfl rfl) ?_
          refine J.p rfl rfl rfl rfl (Y.asg rfl) ?_
          refine J.nil ?_
          obtain rfl := Option.some.inj H
          exact N.meet (decide (a0_0 = 2), ()) ⟨HK64, trivial⟩ (by exact ⟨rfl, rfl, rfl, rfl, rfl, rfl, rfl, rfl, rfl, trivial⟩) (by exact fun w h => (St.pick [4, 1, 2, 3, 0] [_, _, _, _, _] h rfl))
      · refine N.at (s' := [(1, .pointer (some ⟨g1, 0, none⟩)), (3, .pointer (some ⟨g9, 0, none⟩)), (4, .pointer (some ⟨g10, 0, none⟩)), (5, .pointer (some ⟨g11, 0, none⟩)), (6, .int .i64 0), (7, .pointer (some ⟨g17, 0, none⟩)), (8, .bool true), (19, .int .i64 a0_0), (20, .bool o65)]) (G' := cells g1 36 [.int .i64 a0_0, .int .u64 a0_1, .int .i64 a0_2, .string a0_3, .string a0_4, .int .u64 a0_5, .int .i64 a0_6, .int .i64 a0_7, .int .i64 a0_8, .string a0_9, .int .i64 a0_10, .int .i64 a0_11, .int .i64 a0_12, .int .u32 a0_13] :: cells g9 27 [.int .u64 a0_1, .int .i64 a0_2, .string a0_3, .string a0_4] :: cells g10 29 [.int .u64 a0_5, .int .i64 a0_6, .int .i64 a0_7, .int .i64 a0_8, .string a0_9] :: cells g11 34 [.int .i64 a0_10, .int .i64 a0_11, .int .i64 a0_12, .int .u32 a0_13] :: cells g17 36 [.int .i64 a0_0, .int .u64 0, .int .i64 0, .string ByteArray.empty, .string ByteArray.empty, .int .u64 0, .int .i64 0, .int .i64 0, .int .i64 0, .string ByteArray.empty, .int .i64 0, .int .i64 0, .int .i64 0, .int .u32 0] :: G) rfl rfl ?_
        refine N.nx ?_
        refine split2 H (fun c68 H => ?_) (fun c68 H => ?_)
        · refine C.condT (congrArg (fun b => some (Value.bool b)) (c68)) ?_
          refine C.seq ?_
          refine C.rs ?_
          refine J.p rfl rfl rfl rfl (Y.fa0 fa27_1 rfl rfl) ?_
          refine J.r rfl rfl rfl rfl (Y.ldC 1 Try.underlying24 rfl rfl rfl rfl) ?_
          refine J.p rfl rfl rfl rfl (Y.fa0 fa36_0 rfl rfl) ?_
          refine J.r rfl rfl rfl rfl (Y.ldC 0 Try.underlying24 rfl rfl rfl rfl) ?_
          refine J.p rfl rfl rfl rfl (Y.bin rfl rfl rfl) ?_
          refine J.nx ?_
          refine split2 H (fun c69 H => ?_) (fun c69 H => ?_)
          · refine C.condT (congrArg (fun b => some (Value.bool b)) (decide_eq_true c69)) ?_
            refine C.rs ?_
            refine J.p rfl rfl rfl rfl (Y.asg rfl) ?_
            refine J.nx ?_
            refine C.ret ?_
            obtain rfl := Option.some.inj H
            obtain rfl := fin_inl HK59
            refine T.th ?_
            refine T.ib ?_
            refine T.th ?_
            refine T.th ?_
            exact ret_ok (ks := [2]) rfl rfl (fun w h => ⟨rfl, (St.pick [] [_, _, _, _, _] h rfl)⟩)
          · refine C.condF (congrArg (fun b => some (Value.bool b)) (decide_eq_false c69)) ?_
            refine C.skip ?_
            refine N.nx ?_
            refine C.rs ?_
            refine J.p rfl rfl rfl rfl (Y.fa0 fa27_0 rfl rfl) ?_
            refine J.r rfl rfl rfl rfl (Y.ldC 1 Try.underlying25 rfl rfl rfl rfl) ?_
            refine J.p rfl rfl rfl rfl (Y.fa0 fa27_2 rfl rfl) ?_
            refine J.r rfl rfl rfl rfl (Y.ldC 1 Try.underlying9 rfl rfl rfl rfl) ?_
            refine J.p rfl rfl rfl rfl (Y.fa0 fa27_3 rfl rfl) ?_
            refine J.r rfl rfl rfl rfl (Y.ldC 1 Try.underlying9 rfl rfl rfl rfl) ?_
            refine J.p rfl rfl rfl rfl (Y.fa0 fa27_1 rfl rfl) ?_
            refine J.r rfl rfl rfl rfl (Y.ldC 1 Try.underlying24 rfl rfl rfl rfl) ?_
            obtain ⟨t70, hC71, H⟩ := bind_some H
            refine J.call (us := []) (cap := []) rfl rfl rfl go71 (fun w hw => by have hcc := may.calls a0_1 a0_3 a0_4 a0_2 t70 hC71 w hw; exact hcc) (fun e w1 h1 => ?_)
            obtain ⟨rfl, hw72⟩ := h1
            refine ⟨_, _, rfl, hw72, ?_⟩
            refine J.p rfl rfl rfl rfl (Y.asg rfl) ?_
            refine J.nx ?_
            refine C.reg ?_
            refine J.r rfl rfl rfl rfl (Y.ldCA (us := [.int .u64 a0_1, .int .i64 a0_2, .string a0_3, .string a0_4]) 1 Try.underlying27 rfl ti27 rfl rfl rfl rfl) ?_
            refine J.p rfl rfl rfl rfl (Y.fa0 fa36_1 rfl rfl) ?_
            refine J.pull 4 rfl rfl ?_
            refine J.stA (us := [.int .u64 a0_1, .int .i64 a0_2, .string a0_3, .string a0_4]) (L' := [.int .i64 a0_0, .int .u64 a0_1, .int .i64 a0_2, .string a0_3, .string a0_4, .int .u64 0, .int .i64 0, .int .i64 0, .int .i64 0, .string ByteArray.empty, .int .i64 0, .int .i64 0, .int .i64 0, .int .u32 0]) ti27 rfl rfl rfl rfl rfl rfl ?_
            refine J.nil ?_
            refine N.ib ?_
            obtain rfl := Option.some.inj H
            exact N.meet ((t70, true, a0_1, a0_2, a0_3, a0_4, 0, 0, 0, 0, ByteArray.empty, 0, 0, 0, 0), ()) ⟨fin_inr HK59, trivial⟩ (by exact ⟨rfl, rfl, rfl, rfl, trivial⟩) (by exact fun w h => (St.pick [1, 0] [_, _, _, _, _] h rfl))
        · refine C.condF (congrArg (fun b => some (Value.bool b)) (nt c68)) ?_
          refine C.rs ?_
          refine J.p rfl rfl rfl rfl (Y.bin rfl rfl rfl) ?_
          refine J.p rfl rfl rfl rfl (Y.asg rfl) ?_
          refine J.nx ?_
          refine split2 H (fun c73 H => ?_) (fun c73 H => ?_)
          · refine C.condT (congrArg (fun b => some (Value.bool b)) (decide_eq_true c73)) ?_
            refine C.seq ?_
            refine C.rs ?_
            refine J.p rfl rfl rfl rfl (Y.fa0 fa29_1 rfl rfl) ?_
            refine J.r rfl rfl rfl rfl (Y.ldC 2 Try.underlying24 rfl rfl rfl rfl) ?_
            obtain ⟨t74, hC75, H⟩ := bind_some H
            refine J.call (us := []) (cap := []) rfl rfl rfl go72 (fun w hw => by have hcc := isRecord.calls a0_6 t74 hC75 w hw; exact hcc) (fun e w1 h1 => ?_)
            obtain ⟨rfl, hw98⟩ := h1
            refine ⟨_, _, rfl, hw98, ?_⟩
            refine J.p rfl rfl rfl rfl (Y.notb rfl) ?_
            refine J.nx ?_
            refine split2 H (fun c76 H => ?_) (fun c76 H => ?_)
            · refine C.condF (congrArg (fun b => some (Value.bool b)) (congrArg Bool.not (c76))) ?_
              refine C.skip ?_
              refine N.nx ?_
              refine C.rs ?_
              refine J.p rfl rfl rfl rfl (Y.fa0 fa29_0 rfl rfl) ?_
              refine J.r rfl rfl rfl rfl (Y.ldC 2 Try.underlying25 rfl rfl rfl rfl) ?_
              refine J.p rfl rfl rfl rfl (Y.fa0 fa29_4 rfl rfl) ?_
              refine J.r rfl rfl rfl rfl (Y.ldC 2 Try.underlying9 rfl rfl rfl rfl) ?_
              refine J.p rfl rfl rfl rfl (Y.fa0 fa29_1 rfl rfl) ?_
              refine J.r rfl rfl rfl rfl (Y.ldC 2 Try.underlying24 rfl rfl rfl rfl) ?_
              obtain ⟨t77, hC78, H⟩ := bind_some H
              refine J.call (us := []) (cap := []) rfl rfl rfl go71 (fun w hw => by have hcc := may.calls a0_5 a0_9 (⟨#[]⟩ : ByteArray) a0_6 t77 hC78 w hw; exact hcc) (fun e w1 h1 => ?_)
              obtain ⟨rfl, hw97⟩ := h1
              refine ⟨_, _, rfl, hw97, ?_⟩
              refine J.p rfl rfl rfl rfl (Y.asg rfl) ?_
              refine J.nx ?_
              refine C.rs ?_
              refine J.joinB H (fun (o86 : Bool) (j87 : Unit) => [(1, .pointer (some ⟨g1, 0, none⟩)), (4, .pointer (some ⟨g10, 0, none⟩)), (6, .int .i64 t77), (7, .pointer (some ⟨g17, 0, none⟩)), (8, .bool o86)]) (fun (o86 : Bool) (j87 : Unit) => cells g1 36 [.int .i64 a0_0, .int .u64 a0_1, .int .i64 a0_2, .string a0_3, .string a0_4, .int .u64 a0_5, .int .i64 a0_6, .int .i64 a0_7, .int .i64 a0_8, .string a0_9, .int .i64 a0_10, .int .i64 a0_11, .int .i64 a0_12, .int .u32 a0_13] :: cells g10 29 [.int .u64 a0_5, .int .i64 a0_6, .int .i64 a0_7, .int .i64 a0_8, .string a0_9] :: cells g17 36 [.int .i64 a0_0, .int .u64 0, .int .i64 0, .string ByteArray.empty, .string ByteArray.empty, .int .u64 0, .int .i64 0, .int .i64 0, .int .i64 0, .string ByteArray.empty, .int .i64 0, .int .i64 0, .int .i64 0, .int .u32 0] :: G) (fun (o86 : Bool) (j87 : Unit) => True) (fun o88 H HK89 => ?_) (fun o86 j87 H _ => ?_)
              · refine J.p rfl rfl rfl rfl (Y.fa0 fa29_2 rfl rfl) ?_
                refine J.r rfl rfl rfl rfl (Y.ldC 2 Try.underlying3 rfl rfl rfl rfl) ?_
                obtain ⟨t90, hC91, H⟩ := bind_some H
                refine J.call (us := []) (cap := []) rfl rfl rfl go73 (fun w hw => by have hcc := between.calls a0_7 0 4194304 t90 hC91 w hw; exact hcc) (fun e w1 h1 => ?_)
                obtain ⟨rfl, hw96⟩ := h1
                refine ⟨_, _, rfl, hw96, ?_⟩
                refine J.p rfl rfl rfl rfl (Y.mv rfl) ?_
                refine split2 H (fun c92 H => ?_) (fun c92 H => ?_)
                · refine J.as (k := 55) rfl (congrArg Value.bool (c92)) ?_
                  refine J.p rfl rfl rfl rfl (Y.fa0 fa29_3 rfl rfl) ?_
                  refine J.r rfl rfl rfl rfl (Y.ldC 2 Try.underlying3 rfl rfl rfl rfl) ?_
                  refine J.want rfl ?_
                  obtain ⟨t93, hC94, H⟩ := bind_some H
                  refine J.call (us := []) (cap := []) rfl rfl rfl go73 (fun w hw => by have hcc := between.calls a0_8 1 4194304 t93 hC94 w hw; exact hcc) (fun e w1 h1 => ?_)
                  obtain ⟨rfl, hw95⟩ := h1
                  refine ⟨_, _, rfl, hw95, ?_⟩
                  refine J.p rfl rfl rfl rfl (Y.pickT rfl rfl) ?_
                  refine J.p rfl rfl rfl rfl (Y.asg rfl) ?_
                  refine J.nil ?_
                  obtain rfl := Option.some.inj H
                  exact N.meet (t93, ()) ⟨HK89, trivial⟩ (by exact ⟨rfl, rfl, rfl, rfl, rfl, trivial⟩) (by exact fun w h => (St.pick [0, 2, 4] [_, _, _, _, _] h rfl))
                · refine J.as (k := 55) rfl (congrArg Value.bool (nt c92)) ?_
                  refine J.skip rfl rfl ?_
                  refine J.skip rfl rfl ?_
                  refine J.skip rfl rfl ?_
                  refine J.p rfl rfl rfl rfl (Y.pickF rfl rfl) ?_
                  refine J.p rfl rfl rfl rfl (Y.asg rfl) ?_
                  refine J.nil ?_
                  obtain rfl := Option.some.inj H
                  exact N.meet (false, ()) ⟨HK89, trivial⟩ (by exact ⟨rfl, rfl, rfl, rfl, rfl, trivial⟩) (by exact fun w h => (St.pick [0, 2, 4] [_, _, _, _, _] h rfl))
              · refine C.at (s' := [(1, .pointer (some ⟨g1, 0, none⟩)), (4, .pointer (some ⟨g10, 0, none⟩)), (6, .int .i64 t77), (7, .pointer (some ⟨g17, 0, none⟩)), (8, .bool o86)]) (G' := cells g1 36 [.int .i64 a0_0, .int .u64 a0_1, .int .i64 a0_2, .string a0_3, .string a0_4, .int .u64 a0_5, .int .i64 a0_6, .int .i64 a0_7, .int .i64 a0_8, .string a0_9, .int .i64 a0_10, .int .i64 a0_11, .int .i64 a0_12, .int .u32 a0_13] :: cells g10 29 [.int .u64 a0_5, .int .i64 a0_6, .int .i64 a0_7, .int .i64 a0_8, .string a0_9] :: cells g17 36 [.int .i64 a0_0, .int .u64 0, .int .i64 0, .string ByteArray.empty, .string ByteArray.empty, .int .u64 0, .int .i64 0, .int .i64 0, .int .i64 0, .string ByteArray.empty, .int .i64 0, .int .i64 0, .int .i64 0, .int .u32 0] :: G) rfl rfl ?_
                refine C.reg ?_
                refine J.r rfl rfl rfl rfl (Y.ldCA (us := [.int .u64 a0_5, .int .i64 a0_6, .int .i64 a0_7, .int .i64 a0_8, .string a0_9]) 1 Try.underlying29 rfl ti29 rfl rfl rfl rfl) ?_
                refine J.p rfl rfl rfl rfl (Y.fa0 fa36_2 rfl rfl) ?_
                refine J.pull 2 rfl rfl ?_
                refine J.stA (us := [.int .u64 a0_5, .int .i64 a0_6, .int .i64 a0_7, .int .i64 a0_8, .string a0_9]) (L' := [.int .i64 a0_0, .int .u64 0, .int .i64 0, .string ByteArray.empty, .string ByteArray.empty, .int .u64 a0_5, .int .i64 a0_6, .int .i64 a0_7, .int .i64 a0_8, .string a0_9, .int .i64 0, .int .i64 0, .int .i64 0, .int .u32 0]) ti29 rfl rfl rfl rfl rfl rfl ?_
                refine J.nil ?_
                refine N.ib ?_
                obtain rfl := Option.some.inj H
                exact N.meet ((t77, o86, 0, 0, ByteArray.empty, ByteArray.empty, a0_5, a0_6, a0_7, a0_8, a0_9, 0, 0, 0, 0), ()) ⟨fin_inr HK59, trivial⟩ (by exact ⟨rfl, rfl, rfl, rfl, trivial⟩) (by exact fun w h => (St.pick [1, 0] [_, _, _] h rfl))
            · refine C.condT (congrArg (fun b => some (Value.bool b)) (congrArg Bool.not (nt c76))) ?_
              refine C.rs ?_
              refine J.p rfl rfl rfl rfl (Y.asg rfl) ?_
              refine J.nx ?_
              refine C.ret ?_
              obtain rfl := Option.some.inj H
              obtain rfl := fin_inl HK59
              refine T.th ?_
              refine T.ib ?_
              refine T.th ?_
              refine T.th ?_
              exact ret_ok (ks := [2]) rfl rfl (fun w h => ⟨rfl, (St.pick [] [_, _, _, _, _] h rfl)⟩)
          · refine C.condF (congrArg (fun b => some (Value.bool b)) (decide_eq_false c73)) ?_
            refine C.rs ?_
            refine J.p rfl rfl rfl rfl (Y.bin rfl rfl rfl) ?_
            refine J.p rfl rfl rfl rfl (Y.asg rfl) ?_
            refine J.nx ?_
            refine split2 H (fun c99 H => ?_) (fun c99 H => ?_)
            · refine C.condT (congrArg (fun b => some (Value.bool b)) (decide_eq_true c99)) ?_
              refine C.rs ?_
              refine J.joinB H (fun (o111 : Bool) (j112 : Unit) => [(1, .pointer (some ⟨g1, 0, none⟩)), (5, .pointer (some ⟨g11, 0, none⟩)), (6, .int .i64 0), (7, .pointer (some ⟨g17, 0, none⟩)), (8, .bool o111)]) (fun (o111 : Bool) (j112 : Unit) => cells g1 36 [.int .i64 a0_0, .int .u64 a0_1, .int .i64 a0_2, .string a0_3, .string a0_4, .int .u64 a0_5, .int .i64 a0_6, .int .i64 a0_7, .int .i64 a0_8, .string a0_9, .int .i64 a0_10, .int .i64 a0_11, .int .i64 a0_12, .int .u32 a0_13] :: cells g11 34 [.int .i64 a0_10, .int .i64 a0_11, .int .i64 a0_12, .int .u32 a0_13] :: cells g17 36 [.int .i64 a0_0, .int .u64 0, .int .i64 0, .string ByteArray.empty, .string ByteArray.empty, .int .u64 0, .int .i64 0, .int .i64 0, .int .i64 0, .string ByteArray.empty, .int .i64 0, .int .i64 0, .int .i64 0, .int .u32 0] :: G) (fun (o111 : Bool) (j112 : Unit) => True) (fun o113 H HK114 => ?_) (fun o111 j112 H _ => ?_)
              · refine J.p rfl rfl rfl rfl (Y.fa0 fa34_0 rfl rfl) ?_
                refine J.r rfl rfl rfl rfl (Y.ldC 3 Try.underlying3 rfl rfl rfl rfl) ?_
                obtain ⟨t115, hC116, H⟩ := bind_some H
                refine J.call (us := []) (cap := []) rfl rfl rfl go73 (fun w hw => by have hcc := between.calls a0_10 0 4194304 t115 hC116 w hw; exact hcc) (fun e w1 h1 => ?_)
                obtain ⟨rfl, hw125⟩ := h1
                refine ⟨_, _, rfl, hw125, ?_⟩
                refine J.p rfl rfl rfl rfl (Y.mv rfl) ?_
                refine split2 H (fun c117 H => ?_) (fun c117 H => ?_)
                · refine J.as (k := 67) rfl (congrArg Value.bool (c117)) ?_
                  refine J.p rfl rfl rfl rfl (Y.fa0 fa34_1 rfl rfl) ?_
                  refine J.p rfl rfl rfl rfl (Y.fa0 fa32_0 rfl rfl) ?_
                  refine J.r rfl rfl rfl rfl (Y.ldC 3 Try.underlying3 rfl rfl rfl rfl) ?_
                  refine J.want rfl ?_
                  obtain ⟨t118, hC119, H⟩ := bind_some H
                  refine J.call (us := []) (cap := []) rfl rfl rfl go73 (fun w hw => by have hcc := between.calls a0_11 0 4194304 t118 hC119 w hw; exact hcc) (fun e w1 h1 => ?_)
                  obtain ⟨rfl, hw124⟩ := h1
                  refine ⟨_, _, rfl, hw124, ?_⟩
                  refine J.p rfl rfl rfl rfl (Y.pickT rfl rfl) ?_
                  refine J.p rfl rfl rfl rfl (Y.mv rfl) ?_
                  refine split2 H (fun c120 H => ?_) (fun c120 H => ?_)
                  · refine J.as (k := 73) rfl (congrArg Value.bool (c120)) ?_
                    refine J.p rfl rfl rfl rfl (Y.fa0 fa34_1 rfl rfl) ?_
                    refine J.p rfl rfl rfl rfl (Y.fa0 fa32_1 rfl rfl) ?_
                    refine J.r rfl rfl rfl rfl (Y.ldC 3 Try.underlying3 rfl rfl rfl rfl) ?_
                    refine J.want rfl ?_
                    obtain ⟨t121, hC122, H⟩ := bind_some H
                    refine J.call (us := []) (cap := []) rfl rfl rfl go73 (fun w hw => by have hcc := between.calls a0_12 0 4194304 t121 hC122 w hw; exact hcc) (fun e w1 h1 => ?_)
                    obtain ⟨rfl, hw123⟩ := h1
                    refine ⟨_, _, rfl, hw123, ?_⟩
                    refine J.p rfl rfl rfl rfl (Y.pickT rfl rfl) ?_
                    refine J.p rfl rfl rfl rfl (Y.asg rfl) ?_
                    refine J.nil ?_
                    obtain rfl := Option.some.inj H
                    exact N.meet (t121, ()) ⟨HK114, trivial⟩ (by exact ⟨rfl, rfl, rfl, rfl, rfl, trivial⟩) (by exact fun w h => (St.pick [0, 3, 4] [_, _, _, _, _] h rfl))
                  · refine J.as (k := 73) rfl (congrArg Value.bool (nt c120)) ?_
                    refine J.skip rfl rfl ?_
                    refine J.skip rfl rfl ?_
                    refine J.skip rfl rfl ?_
                    refine J.skip rfl rfl ?_
                    refine J.p rfl rfl rfl rfl (Y.pickF rfl rfl) ?_
                    refine J.p rfl rfl rfl rfl (Y.asg rfl) ?_
                    refine J.nil ?_
                    obtain rfl := Option.some.inj H
                    exact N.meet (false, ()) ⟨HK114, trivial⟩ (by exact ⟨rfl, rfl, rfl, rfl, rfl, trivial⟩) (by exact fun w h => (St.pick [0, 3, 4] [_, _, _, _, _] h rfl))
                · refine J.as (k := 67) rfl (congrArg Value.bool (nt c117)) ?_
                  refine J.skip rfl rfl ?_
                  refine J.skip rfl rfl ?_
                  refine J.skip rfl rfl ?_
                  refine J.skip rfl rfl ?_
                  refine J.p rfl rfl rfl rfl (Y.pickF rfl rfl) ?_
                  refine J.p rfl rfl rfl rfl (Y.mv rfl) ?_
                  refine J.skip rfl rfl ?_
                  refine J.skip rfl rfl ?_
                  refine J.skip rfl rfl ?_
                  refine J.skip rfl rfl ?_
                  refine J.p rfl rfl rfl rfl (Y.pickF rfl rfl) ?_
                  refine J.p rfl rfl rfl rfl (Y.asg rfl) ?_
                  refine J.nil ?_
                  obtain rfl := Option.some.inj H
                  exact N.meet (false, ()) ⟨HK114, trivial⟩ (by exact ⟨rfl, rfl, rfl, rfl, rfl, trivial⟩) (by exact fun w h => (St.pick [0, 3, 4] [_, _, _, _, _] h rfl))
              · refine C.at (s' := [(1, .pointer (some ⟨g1, 0, none⟩)), (5, .pointer (some ⟨g11, 0, none⟩)), (6, .int .i64 0), (7, .pointer (some ⟨g17, 0, none⟩)), (8, .bool o111)]) (G' := cells g1 36 [.int .i64 a0_0, .int .u64 a0_1, .int .i64 a0_2, .string a0_3, .string a0_4, .int .u64 a0_5, .int .i64 a0_6, .int .i64 a0_7, .int .i64 a0_8, .string a0_9, .int .i64 a0_10, .int .i64 a0_11, .int .i64 a0_12, .int .u32 a0_13] :: cells g11 34 [.int .i64 a0_10, .int .i64 a0_11, .int .i64 a0_12, .int .u32 a0_13] :: cells g17 36 [.int .i64 a0_0, .int .u64 0, .int .i64 0, .string ByteArray.empty, .string ByteArray.empty, .int .u64 0, .int .i64 0, .int .i64 0, .int .i64 0, .string ByteArray.empty, .int .i64 0, .int .i64 0, .int .i64 0, .int .u32 0] :: G) rfl rfl ?_
                refine C.reg ?_
                refine J.r rfl rfl rfl rfl (Y.ldCA (us := [.int .i64 a0_10, .int .i64 a0_11, .int .i64 a0_12, .int .u32 a0_13]) 1 Try.underlying34 rfl ti34 rfl rfl rfl rfl) ?_
                refine J.p rfl rfl rfl rfl (Y.fa0 fa36_3 rfl rfl) ?_
                refine J.pull 2 rfl rfl ?_
                refine J.stA (us := [.int .i64 a0_10, .int .i64 a0_11, .int .i64 a0_12, .int .u32 a0_13]) (L' := [.int .i64 a0_0, .int .u64 0, .int .i64 0, .string ByteArray.empty, .string ByteArray.empty, .int .u64 0, .int .i64 0, .int .i64 0, .int .i64 0, .string ByteArray.empty, .int .i64 a0_10, .int .i64 a0_11, .int .i64 a0_12, .int .u32 a0_13]) ti34 rfl rfl rfl rfl rfl rfl ?_
                refine J.nil ?_
                refine N.ib ?_
                obtain rfl := Option.some.inj H
                exact N.meet ((0, o111, 0, 0, ByteArray.empty, ByteArray.empty, 0, 0, 0, 0, ByteArray.empty, a0_10, a0_11, a0_12, a0_13), ()) ⟨fin_inr HK59, trivial⟩ (by exact ⟨rfl, rfl, rfl, rfl, trivial⟩) (by exact fun w h => (St.pick [1, 0] [_, _, _] h rfl))
            · refine C.condF (congrArg (fun b => some (Value.bool b)) (decide_eq_false c99)) ?_
              refine C.rs ?_
              refine J.p rfl rfl rfl rfl (Y.asg rfl) ?_
              refine J.nx ?_
              refine C.ret ?_
              obtain rfl := Option.some.inj H
              obtain rfl := fin_inl HK59
              refine T.ib ?_
              refine T.th ?_
              refine T.th ?_
              exact ret_ok (ks := [2]) rfl rfl (fun w h => ⟨rfl, (St.pick [] [_, _, _, _, _] h rfl)⟩)
    · refine N.at (s' := [(1, .pointer (some ⟨g1, 0, none⟩)), (6, .int .i64 o60.1), (7, .pointer (some ⟨g17, 0, none⟩)), (8, .bool o60.2.1)]) (G' := cells g1 36 [.int .i64 a0_0, .int .u64 a0_1, .int .i64 a0_2, .string a0_3, .string a0_4, .int .u64 a0_5, .int .i64 a0_6, .int .i64 a0_7, .int .i64 a0_8, .string a0_9, .int .i64 a0_10, .int .i64 a0_11, .int .i64 a0_12, .int .u32 a0_13] :: cells g17 36 [.int .i64 a0_0, .int .u64 o60.2.2.1, .int .i64 o60.2.2.2.1, .string o60.2.2.2.2.1, .string o60.2.2.2.2.2.1, .int .u64 o60.2.2.2.2.2.2.1, .int .i64 o60.2.2.2.2.2.2.2.1, .int .i64 o60.2.2.2.2.2.2.2.2.1, .int .i64 o60.2.2.2.2.2.2.2.2.2.1, .string o60.2.2.2.2.2.2.2.2.2.2.1, .int .i64 o60.2.2.2.2.2.2.2.2.2.2.2.1, .int .i64 o60.2.2.2.2.2.2.2.2.2.2.2.2.1, .int .i64 o60.2.2.2.2.2.2.2.2.2.2.2.2.2.1, .int .u32 o60.2.2.2.2.2.2.2.2.2.2.2.2.2.2] :: G) rfl rfl ?_
      refine N.nx ?_
      refine C.seq ?_
      refine C.rs ?_
      refine J.joinB H (fun (o128 : Bool) (j129 : Unit) => [(6, .int .i64 o60.1), (91, .bool o128)]) (fun (o128 : Bool) (j129 : Unit) => G) (fun (o128 : Bool) (j129 : Unit) => True) (fun o130 H HK131 => ?_) (fun o128 j129 H _ => ?_)
      · refine J.p rfl rfl rfl rfl (Y.mv rfl) ?_
        refine J.p rfl rfl rfl rfl (Y.bin rfl rfl rfl) ?_
        refine J.p rfl rfl rfl rfl (Y.mv rfl) ?_
        refine split2 H (fun c132 H => ?_) (fun c132 H => ?_)
        · refine J.as (k := 83) rfl (congrArg Value.bool (decide_eq_true c132)) ?_
          refine J.p rfl rfl rfl rfl (Y.mv rfl) ?_
          refine J.p rfl rfl rfl rfl (Y.notb rfl) ?_
          refine J.p rfl rfl rfl rfl (Y.mv rfl) ?_
          refine split2 H (fun c133 H => ?_) (fun c133 H => ?_)
          · refine J.as (k := 86) rfl (congrArg Value.bool (congrArg Bool.not (c133))) ?_
            refine J.r rfl rfl rfl rfl (Y.ldCA (us := [.int .i64 a0_0, .int .u64 o60.2.2.1, .int .i64 o60.2.2.2.1, .string o60.2.2.2.2.1, .string o60.2.2.2.2.2.1, .int .u64 o60.2.2.2.2.2.2.1, .int .i64 o60.2.2.2.2.2.2.2.1, .int .i64 o60.2.2.2.2.2.2.2.2.1, .int .i64 o60.2.2.2.2.2.2.2.2.2.1, .string o60.2.2.2.2.2.2.2.2.2.2.1, .int .i64 o60.2.2.2.2.2.2.2.2.2.2.2.1, .int .i64 o60.2.2.2.2.2.2.2.2.2.2.2.2.1, .int .i64 o60.2.2.2.2.2.2.2.2.2.2.2.2.2.1, .int .u32 o60.2.2.2.2.2.2.2.2.2.2.2.2.2.2]) 1 Try.underlying36 rfl ti36 rfl rfl rfl rfl) ?_
            refine J.r rfl rfl rfl rfl (Y.ldCA (us := [.int .i64 a0_0, .int .u64 a0_1, .int .i64 a0_2, .string a0_3, .string a0_4, .int .u64 a0_5, .int .i64 a0_6, .int .i64 a0_7, .int .i64 a0_8, .string a0_9, .int .i64 a0_10, .int .i64 a0_11, .int .i64 a0_12, .int .u32 a0_13]) 0 Try.underlying36 rfl ti36 rfl rfl rfl rfl) ?_
            refine J.p rfl rfl rfl rfl (Y.nest Try.eqGuardType36 rfl (EqV.struct Try.underlying36 Try.stoodInHeld36 (EqFs.cons rfl (part_one Try.underlying24 rfl rfl) (part_one Try.underlying24 rfl rfl) (EqV.int 2 Try.underlying24) (EqFs.cons rfl (part_agg Try.underlying27 rfl ti27 rfl) (part_agg Try.underlying27 rfl ti27 rfl) (EqV.struct Try.underlying27 Try.stoodInHeld27 (EqFs.cons rfl (part_one Try.underlying25 rfl rfl) (part_one Try.underlying25 rfl rfl) (EqV.int 1 Try.underlying25) (EqFs.cons rfl (part_one Try.underlying24 rfl rfl) (part_one Try.underlying24 rfl rfl) (EqV.int 1 Try.underlying24) (EqFs.cons rfl (part_one Try.underlying9 rfl rfl) (part_one Try.underlying9 rfl rfl) (EqV.str 1 Try.underlying9) (EqFs.cons rfl (part_one Try.underlying9 rfl rfl) (part_one Try.underlying9 rfl rfl) (EqV.str 1 Try.underlying9) EqFs.nil))))) (EqFs.cons rfl (part_agg Try.underlying29 rfl ti29 rfl) (part_agg Try.underlying29 rfl ti29 rfl) (EqV.struct Try.underlying29 Try.stoodInHeld29 (EqFs.cons rfl (part_one Try.underlying25 rfl rfl) (part_one Try.underlying25 rfl rfl) (EqV.int 1 Try.underlying25) (EqFs.cons rfl (part_one Try.underlying24 rfl rfl) (part_one Try.underlying24 rfl rfl) (EqV.int 1 Try.underlying24) (EqFs.cons rfl (part_one Try.underlying3 rfl rfl) (part_one Try.underlying3 rfl rfl) (EqV.int 1 Try.underlying3) (EqFs.cons rfl (part_one Try.underlying3 rfl rfl) (part_one Try.underlying3 rfl rfl) (EqV.int 1 Try.underlying3) (EqFs.cons rfl (part_one Try.underlying9 rfl rfl) (part_one Try.underlying9 rfl rfl) (EqV.str 1 Try.underlying9) EqFs.nil)))))) (EqFs.cons rfl (part_agg Try.underlying34 rfl ti34 rfl) (part_agg Try.underlying34 rfl ti34 rfl) (EqV.struct Try.underlying34 Try.stoodInHeld34 (EqFs.cons rfl (part_one Try.underlying3 rfl rfl) (part_one Try.underlying3 rfl rfl) (EqV.int 1 Try.underlying3) (EqFs.cons rfl (part_agg Try.underlying32 rfl ti32 rfl) (part_agg Try.underlying32 rfl ti32 rfl) (EqV.struct Try.underlying32 Try.stoodInHeld32 (EqFs.cons rfl (part_one Try.underlying3 rfl rfl) (part_one Try.underlying3 rfl rfl) (EqV.int 0 Try.underlying3) (EqFs.cons rfl (part_one Try.underlying3 rfl rfl) (part_one Try.underlying3 rfl rfl) (EqV.int 0 Try.underlying3) (EqFs.cons rfl (part_one Try.underlying30 rfl rfl) (part_one Try.underlying30 rfl rfl) (EqV.int 0 Try.underlying30) EqFs.nil)))) EqFs.nil))) EqFs.nil))))) rfl rfl) ?_
            refine J.p rfl rfl rfl rfl (Y.pickF rfl rfl) ?_
            refine J.p rfl rfl rfl rfl (Y.pickT rfl rfl) ?_
            refine J.nil ?_
            obtain rfl := Option.some.inj H
            exact N.meet (!(decide (a0_0 = a0_0 ∧ (o60.2.2.1 = a0_1 ∧ o60.2.2.2.1 = a0_2 ∧ o60.2.2.2.2.1 = a0_3 ∧ o60.2.2.2.2.2.1 = a0_4 ∧ True) ∧ (o60.2.2.2.2.2.2.1 = a0_5 ∧ o60.2.2.2.2.2.2.2.1 = a0_6 ∧ o60.2.2.2.2.2.2.2.2.1 = a0_7 ∧ o60.2.2.2.2.2.2.2.2.2.1 = a0_8 ∧ o60.2.2.2.2.2.2.2.2.2.2.1 = a0_9 ∧ True) ∧ (o60.2.2.2.2.2.2.2.2.2.2.2.1 = a0_10 ∧ (o60.2.2.2.2.2.2.2.2.2.2.2.2.1 = a0_11 ∧ o60.2.2.2.2.2.2.2.2.2.2.2.2.2.1 = a0_12 ∧ o60.2.2.2.2.2.2.2.2.2.2.2.2.2.2 = a0_13 ∧ True) ∧ True) ∧ True)), ()) ⟨HK131, trivial⟩ (by exact ⟨rfl, rfl, trivial⟩) (by exact fun w h => (St.pick [] [_, _] h rfl))
          · refine J.as (k := 86) rfl (congrArg Value.bool (congrArg Bool.not (nt c133))) ?_
            refine J.skip rfl rfl ?_
            refine J.skip rfl rfl ?_
            refine J.skip rfl rfl ?_
            refine J.p rfl rfl rfl rfl (Y.pickT rfl rfl) ?_
            refine J.p rfl rfl rfl rfl (Y.pickT rfl rfl) ?_
            refine J.nil ?_
            obtain rfl := Option.some.inj H
            exact N.meet (true, ()) ⟨HK131, trivial⟩ (by exact ⟨rfl, rfl, trivial⟩) (by exact fun w h => (St.pick [] [_, _] h rfl))
        · refine J.as (k := 83) rfl (congrArg Value.bool (decide_eq_false c132)) ?_
          refine J.skip rfl rfl ?_
          refine J.skip rfl rfl ?_
          refine J.skip rfl rfl ?_
          refine J.skip rfl rfl ?_
          refine J.skip rfl rfl ?_
          refine J.skip rfl rfl ?_
          refine J.skip rfl rfl ?_
          refine J.p rfl rfl rfl rfl (Y.pickF rfl rfl) ?_
          refine J.nil ?_
          obtain rfl := Option.some.inj H
          exact N.meet (false, ()) ⟨HK131, trivial⟩ (by exact ⟨rfl, rfl, trivial⟩) (by exact fun w h => (St.pick [] [_, _] h rfl))
      · refine C.at (s' := [(6, .int .i64 o60.1), (91, .bool o128)]) (G' := G) rfl rfl ?_
        refine split2 H (fun c134 H => ?_) (fun c134 H => ?_)
        · refine C.condT (congrArg (fun b => some (Value.bool b)) (c134)) ?_
          refine C.rs ?_
          refine J.p rfl rfl rfl rfl (Y.asg rfl) ?_
          refine J.nx ?_
          refine C.ret ?_
          obtain rfl := Option.some.inj H
          refine T.th ?_
          exact ret_ok (ks := [2]) rfl rfl (fun w h => ⟨rfl, h⟩)
        · refine C.condF (congrArg (fun b => some (Value.bool b)) (nt c134)) ?_
          refine C.skip ?_
          refine N.nx ?_
          refine C.rs ?_
          refine J.p rfl rfl rfl rfl (Y.mv rfl) ?_
          refine J.p rfl rfl rfl rfl (Y.asg rfl) ?_
          refine J.nx ?_
          refine C.ret ?_
          obtain rfl := Option.some.inj H
          exact ret_ok (ks := [2]) rfl rfl (fun w h => ⟨rfl, h⟩)
  refine D.share (fun (i : Nat × Nat × Nat) => [(1, .pointer (some ⟨g1, 0, none⟩)), (3, .pointer (some ⟨i.1, 0, none⟩)), (4, .pointer (some ⟨i.2.1, 0, none⟩)), (5, .pointer (some ⟨i.2.2, 0, none⟩)), (14, .agg #[.int .i64 a0_10, .int .i64 a0_11, .int .i64 a0_12, .int .u32 a0_13])]) (fun (i : Nat × Nat × Nat) => cells i.1 27 [.int .u64 a0_1, .int .i64 a0_2, .string a0_3, .string a0_4] :: cells i.2.1 29 [.int .u64 a0_5, .int .i64 a0_6, .int .i64 a0_7, .int .i64 a0_8, .string a0_9] :: cells i.2.2 34 [.int .i64 0, .int .i64 0, .int .i64 0, .int .u32 0] :: cells g1 36 [.int .i64 a0_0, .int .u64 a0_1, .int .i64 a0_2, .string a0_3, .string a0_4, .int .u64 a0_5, .int .i64 a0_6, .int .i64 a0_7, .int .i64 a0_8, .string a0_9, .int .i64 a0_10, .int .i64 a0_11, .int .i64 a0_12, .int .u32 a0_13] :: G) 1 [true, true, true, true, true, true, true, true, true, true, true, false] (fun i => ?_) (fun hD135 => ?_)
  · obtain ⟨g9, g10, g11⟩ := i
    refine D.to (s' := [(1, .pointer (some ⟨g1, 0, none⟩)), (3, .pointer (some ⟨g9, 0, none⟩)), (4, .pointer (some ⟨g10, 0, none⟩)), (5, .pointer (some ⟨g11, 0, none⟩)), (14, .agg #[.int .i64 a0_10, .int .i64 a0_11, .int .i64 a0_12, .int .u32 a0_13])]) (G' := cells g9 27 [.int .u64 a0_1, .int .i64 a0_2, .string a0_3, .string a0_4] :: cells g10 29 [.int .u64 a0_5, .int .i64 a0_6, .int .i64 a0_7, .int .i64 a0_8, .string a0_9] :: cells g11 34 [.int .i64 0, .int .i64 0, .int .i64 0, .int .u32 0] :: cells g1 36 [.int .i64 a0_0, .int .u64 a0_1, .int .i64 a0_2, .string a0_3, .string a0_4, .int .u64 a0_5, .int .i64 a0_6, .int .i64 a0_7, .int .i64 a0_8, .string a0_9, .int .i64 a0_10, .int .i64 a0_11, .int .i64 a0_12, .int .u32 a0_13] :: G) (by exact ⟨rfl, rfl, rfl, rfl, rfl, trivial⟩) (fun w h => h) ?_
    refine D.any [11] (by kernel_rfl) rfl ⟨?_, trivial⟩
    refine DW.j (ls' := [true, true, true, true, true, true, true, true, true, true, true, true]) rfl rfl ?_
    refine J.pull 2 rfl rfl ?_
    refine J.stA (us := [.int .i64 a0_10, .int .i64 a0_11, .int .i64 a0_12, .int .u32 a0_13]) (L' := [.int .i64 a0_10, .int .i64 a0_11, .int .i64 a0_12, .int .u32 a0_13]) ti34 rfl rfl rfl rfl rfl rfl ?_
    refine J.nil ?_
    refine D.backK 3 rfl ?_
    exact D.to (by exact ⟨rfl, rfl, rfl, rfl, trivial⟩) (fun w h => (St.pick [1, 2, 0, 3] [_, _, _, _] h rfl)) (hD16 (g9, g10, g11))
  refine D.share (fun (i : Nat × Nat × Nat) => [(1, .pointer (some ⟨g1, 0, none⟩)), (3, .pointer (some ⟨i.1, 0, none⟩)), (4, .pointer (some ⟨i.2.1, 0, none⟩)), (5, .pointer (some ⟨i.2.2, 0, none⟩)), (12, .agg #[.int .u64 a0_5, .int .i64 a0_6, .int .i64 a0_7, .int .i64 a0_8, .string a0_9]), (14, .agg #[.int .i64 a0_10, .int .i64 a0_11, .int .i64 a0_12, .int .u32 a0_13])]) (fun (i : Nat × Nat × Nat) => cells i.1 27 [.int .u64 a0_1, .int .i64 a0_2, .string a0_3, .string a0_4] :: cells i.2.1 29 [.int .u64 0, .int .i64 0, .int .i64 0, .int .i64 0, .string ByteArray.empty] :: cells i.2.2 34 [.int .i64 0, .int .i64 0, .int .i64 0, .int .u32 0] :: cells g1 36 [.int .i64 a0_0, .int .u64 a0_1, .int .i64 a0_2, .string a0_3, .string a0_4, .int .u64 a0_5, .int .i64 a0_6, .int .i64 a0_7, .int .i64 a0_8, .string a0_9, .int .i64 a0_10, .int .i64 a0_11, .int .i64 a0_12, .int .u32 a0_13] :: G) 2 [true, true, true, true, true, true, true, true, true, true, false, false] (fun i => ?_) (fun hD136 => ?_)
  · obtain ⟨g9, g10, g11⟩ := i
    refine D.to (s' := [(1, .pointer (some ⟨g1, 0, none⟩)), (3, .pointer (some ⟨g9, 0, none⟩)), (4, .pointer (some ⟨g10, 0, none⟩)), (5, .pointer (some ⟨g11, 0, none⟩)), (12, .agg #[.int .u64 a0_5, .int .i64 a0_6, .int .i64 a0_7, .int .i64 a0_8, .string a0_9]), (14, .agg #[.int .i64 a0_10, .int .i64 a0_11, .int .i64 a0_12, .int .u32 a0_13])]) (G' := cells g9 27 [.int .u64 a0_1, .int .i64 a0_2, .string a0_3, .string a0_4] :: cells g10 29 [.int .u64 0, .int .i64 0, .int .i64 0, .int .i64 0, .string ByteArray.empty] :: cells g11 34 [.int .i64 0, .int .i64 0, .int .i64 0, .int .u32 0] :: cells g1 36 [.int .i64 a0_0, .int .u64 a0_1, .int .i64 a0_2, .string a0_3, .string a0_4, .int .u64 a0_5, .int .i64 a0_6, .int .i64 a0_7, .int .i64 a0_8, .string a0_9, .int .i64 a0_10, .int .i64 a0_11, .int .i64 a0_12, .int .u32 a0_13] :: G) (by exact ⟨rfl, rfl, rfl, rfl, rfl, rfl, trivial⟩) (fun w h => h) ?_
    refine D.any [10] (by kernel_rfl) rfl ⟨?_, trivial⟩
    refine DW.j (ls' := [true, true, true, true, true, true, true, true, true, true, true, false]) rfl rfl ?_
    refine J.pull 1 rfl rfl ?_
    refine J.stA (us := [.int .u64 a0_5, .int .i64 a0_6, .int .i64 a0_7, .int .i64 a0_8, .string a0_9]) (L' := [.int .u64 a0_5, .int .i64 a0_6, .int .i64 a0_7, .int .i64 a0_8, .string a0_9]) ti29 rfl rfl rfl rfl rfl rfl ?_
    refine J.nil ?_
    refine D.backK 3 rfl ?_
    exact D.to (by exact ⟨rfl, rfl, rfl, rfl, rfl, trivial⟩) (fun w h => (St.pick [1, 0, 2, 3] [_, _, _, _] h rfl)) (hD135 (g9, g10, g11))
  refine D.share (fun (i : Nat × Nat × Nat) => [(1, .pointer (some ⟨g1, 0, none⟩)), (3, .pointer (some ⟨i.1, 0, none⟩)), (4, .pointer (some ⟨i.2.1, 0, none⟩)), (5, .pointer (some ⟨i.2.2, 0, none⟩)), (10, .agg #[.int .u64 a0_1, .int .i64 a0_2, .string a0_3, .string a0_4]), (12, .agg #[.int .u64 a0_5, .int .i64 a0_6, .int .i64 a0_7, .int .i64 a0_8, .string a0_9]), (14, .agg #[.int .i64 a0_10, .int .i64 a0_11, .int .i64 a0_12, .int .u32 a0_13])]) (fun (i : Nat × Nat × Nat) => cells i.1 27 [.int .u64 0, .int .i64 0, .string ByteArray.empty, .string ByteArray.empty] :: cells i.2.1 29 [.int .u64 0, .int .i64 0, .int .i64 0, .int .i64 0, .string ByteArray.empty] :: cells i.2.2 34 [.int .i64 0, .int .i64 0, .int .i64 0, .int .u32 0] :: cells g1 36 [.int .i64 a0_0, .int .u64 a0_1, .int .i64 a0_2, .string a0_3, .string a0_4, .int .u64 a0_5, .int .i64 a0_6, .int .i64 a0_7, .int .i64 a0_8, .string a0_9, .int .i64 a0_10, .int .i64 a0_11, .int .i64 a0_12, .int .u32 a0_13] :: G) 3 [true, true, true, true, true, true, true, true, true, false, false, false] (fun i => ?_) (fun hD137 => ?_)
  · obtain ⟨g9, g10, g11⟩ := i
    refine D.to (s' := [(1, .pointer (some ⟨g1, 0, none⟩)), (3, .pointer (some ⟨g9, 0, none⟩)), (4, .pointer (some ⟨g10, 0, none⟩)), (5, .pointer (some ⟨g11, 0, none⟩)), (10, .agg #[.int .u64 a0_1, .int .i64 a0_2, .string a0_3, .string a0_4]), (12, .agg #[.int .u64 a0_5, .int .i64 a0_6, .int .i64 a0_7, .int .i64 a0_8, .string a0_9]), (14, .agg #[.int .i64 a0_10, .int .i64 a0_11, .int .i64 a0_12, .int .u32 a0_13])]) (G' := cells g9 27 [.int .u64 0, .int .i64 0, .string ByteArray.empty, .string ByteArray.empty] :: cells g10 29 [.int .u64 0, .int .i64 0, .int .i64 0, .int .i64 0, .string ByteArray.empty] :: cells g11 34 [.int .i64 0, .int .i64 0, .int .i64 0, .int .u32 0] :: cells g1 36 [.int .i64 a0_0, .int .u64 a0_1, .int .i64 a0_2, .string a0_3, .string a0_4, .int .u64 a0_5, .int .i64 a0_6, .int .i64 a0_7, .int .i64 a0_8, .string a0_9, .int .i64 a0_10, .int .i64 a0_11, .int .i64 a0_12, .int .u32 a0_13] :: G) (by exact ⟨rfl, rfl, rfl, rfl, rfl, rfl, rfl, trivial⟩) (fun w h => h) ?_
    refine D.any [9] (by kernel_rfl) rfl ⟨?_, trivial⟩
    refine DW.j (ls' := [true, true, true, true, true, true, true, true, true, true, false, false]) rfl rfl ?_
    refine J.stA (us := [.int .u64 a0_1, .int .i64 a0_2, .string a0_3, .string a0_4]) (L' := [.int .u64 a0_1, .int .i64 a0_2, .string a0_3, .string a0_4]) ti27 rfl rfl rfl rfl rfl rfl ?_
    refine J.nil ?_
    refine D.backK 3 rfl ?_
    exact D.to (by exact ⟨rfl, rfl, rfl, rfl, rfl, rfl, trivial⟩) (fun w h => h) (hD136 (g9, g10, g11))
  refine D.share (fun (i : Nat × Nat) => [(1, .pointer (some ⟨g1, 0, none⟩)), (3, .pointer (some ⟨i.1, 0, none⟩)), (4, .pointer (some ⟨i.2, 0, none⟩)), (10, .agg #[.int .u64 a0_1, .int .i64 a0_2, .string a0_3, .string a0_4]), (12, .agg #[.int .u64 a0_5, .int .i64 a0_6, .int .i64 a0_7, .int .i64 a0_8, .string a0_9]), (14, .agg #[.int .i64 a0_10, .int .i64 a0_11, .int .i64 a0_12, .int .u32 a0_13])]) (fun (i : Nat × Nat) => cells i.1 27 [.int .u64 0, .int .i64 0, .string ByteArray.empty, .string ByteArray.empty] :: cells i.2 29 [.int .u64 0, .int .i64 0, .int .i64 0, .int .i64 0, .string ByteArray.empty] :: cells g1 36 [.int .i64 a0_0, .int .u64 a0_1, .int .i64 a0_2, .string a0_3, .string a0_4, .int .u64 a0_5, .int .i64 a0_6, .int .i64 a0_7, .int .i64 a0_8, .string a0_9, .int .i64 a0_10, .int .i64 a0_11, .int .i64 a0_12, .int .u32 a0_13] :: G) 4 [true, true, true, true, true, true, true, true, false, false, false, false] (fun i => ?_) (fun hD138 => ?_)
  · obtain ⟨g9, g10⟩ := i
    refine D.to (s' := [(1, .pointer (some ⟨g1, 0, none⟩)), (3, .pointer (some ⟨g9, 0, none⟩)), (4, .pointer (some ⟨g10, 0, none⟩)), (10, .agg #[.int .u64 a0_1, .int .i64 a0_2, .string a0_3, .string a0_4]), (12, .agg #[.int .u64 a0_5, .int .i64 a0_6, .int .i64 a0_7, .int .i64 a0_8, .string a0_9]), (14, .agg #[.int .i64 a0_10, .int .i64 a0_11, .int .i64 a0_12, .int .u32 a0_13])]) (G' := cells g9 27 [.int .u64 0, .int .i64 0, .string ByteArray.empty, .string ByteArray.empty] :: cells g10 29 [.int .u64 0, .int .i64 0, .int .i64 0, .int .i64 0, .string ByteArray.empty] :: cells g1 36 [.int .i64 a0_0, .int .u64 a0_1, .int .i64 a0_2, .string a0_3, .string a0_4, .int .u64 a0_5, .int .i64 a0_6, .int .i64 a0_7, .int .i64 a0_8, .string a0_9, .int .i64 a0_10, .int .i64 a0_11, .int .i64 a0_12, .int .u32 a0_13] :: G) (by exact ⟨rfl, rfl, rfl, rfl, rfl, rfl, trivial⟩) (fun w h => h) ?_
    refine D.any [8] (by kernel_rfl) rfl ⟨?_, trivial⟩
    refine DW.j (ls' := [true, true, true, true, true, true, true, true, true, false, false, false]) rfl rfl ?_
    refine J.alloc (L := [.int .i64 0, .int .i64 0, .int .i64 0, .int .u32 0]) rfl ti34 rfl (fun g11 => ?_)
    refine J.nil ?_
    refine D.backK 3 rfl ?_
    exact D.to (by exact ⟨rfl, rfl, rfl, rfl, rfl, rfl, rfl, trivial⟩) (fun w h => (St.pick [1, 2, 0, 3] [_, _, _, _] h rfl)) (hD137 (g9, g10, g11))
  refine D.share (fun (i : Nat × Nat) => [(1, .pointer (some ⟨g1, 0, none⟩)), (3, .pointer (some ⟨i.1, 0, none⟩)), (5, .pointer (some ⟨i.2, 0, none⟩)), (10, .agg #[.int .u64 a0_1, .int .i64 a0_2, .string a0_3, .string a0_4]), (12, .agg #[.int .u64 a0_5, .int .i64 a0_6, .int .i64 a0_7, .int .i64 a0_8, .string a0_9]), (14, .agg #[.int .i64 a0_10, .int .i64 a0_11, .int .i64 a0_12, .int .u32 a0_13])]) (fun (i : Nat × Nat) => cells i.1 27 [.int .u64 0, .int .i64 0, .string ByteArray.empty, .string ByteArray.empty] :: cells i.2 34 [.int .i64 0, .int .i64 0, .int .i64 0, .int .u32 0] :: cells g1 36 [.int .i64 a0_0, .int .u64 a0_1, .int .i64 a0_2, .string a0_3, .string a0_4, .int .u64 a0_5, .int .i64 a0_6, .int .i64 a0_7, .int .i64 a0_8, .string a0_9, .int .i64 a0_10, .int .i64 a0_11, .int .i64 a0_12, .int .u32 a0_13] :: G) 4 [true, true, true, true, true, true, true, false, true, false, false, false] (fun i => ?_) (fun hD139 => ?_)
  · obtain ⟨g9, g11⟩ := i
    refine D.to (s' := [(1, .pointer (some ⟨g1, 0, none⟩)), (3, .pointer (some ⟨g9, 0, none⟩)), (5, .pointer (some ⟨g11, 0, none⟩)), (10, .agg #[.int .u64 a0_1, .int .i64 a0_2, .string a0_3, .string a0_4]), (12, .agg #[.int .u64 a0_5, .int .i64 a0_6, .int .i64 a0_7, .int .i64 a0_8, .string a0_9]), (14, .agg #[.int .i64 a0_10, .int .i64 a0_11, .int .i64 a0_12, .int .u32 a0_13])]) (G' := cells g9 27 [.int .u64 0, .int .i64 0, .string ByteArray.empty, .string ByteArray.empty] :: cells g11 34 [.int .i64 0, .int .i64 0, .int .i64 0, .int .u32 0] :: cells g1 36 [.int .i64 a0_0, .int .u64 a0_1, .int .i64 a0_2, .string a0_3, .string a0_4, .int .u64 a0_5, .int .i64 a0_6, .int .i64 a0_7, .int .i64 a0_8, .string a0_9, .int .i64 a0_10, .int .i64 a0_11, .int .i64 a0_12, .int .u32 a0_13] :: G) (by exact ⟨rfl, rfl, rfl, rfl, rfl, rfl, trivial⟩) (fun w h => h) ?_
    refine D.any [7] (by kernel_rfl) rfl ⟨?_, trivial⟩
    refine DW.j (ls' := [true, true, true, true, true, true, true, true, true, false, false, false]) rfl rfl ?_
    refine J.alloc (L := [.int .u64 0, .int .i64 0, .int .i64 0, .int .i64 0, .string ByteArray.empty]) rfl ti29 rfl (fun g10 => ?_)
    refine J.nil ?_
    refine D.backK 3 rfl ?_
    exact D.to (by exact ⟨rfl, rfl, rfl, rfl, rfl, rfl, rfl, trivial⟩) (fun w h => (St.pick [1, 0, 2, 3] [_, _, _, _] h rfl)) (hD137 (g9, g10, g11))
  refine D.share (fun (i : Nat × Nat) => [(1, .pointer (some ⟨g1, 0, none⟩)), (4, .pointer (some ⟨i.1, 0, none⟩)), (5, .pointer (some ⟨i.2, 0, none⟩)), (10, .agg #[.int .u64 a0_1, .int .i64 a0_2, .string a0_3, .string a0_4]), (12, .agg #[.int .u64 a0_5, .int .i64 a0_6, .int .i64 a0_7, .int .i64 a0_8, .string a0_9]), (14, .agg #[.int .i64 a0_10, .int .i64 a0_11, .int .i64 a0_12, .int .u32 a0_13])]) (fun (i : Nat × Nat) => cells i.1 29 [.int .u64 0, .int .i64 0, .int .i64 0, .int .i64 0, .string ByteArray.empty] :: cells i.2 34 [.int .i64 0, .int .i64 0, .int .i64 0, .int .u32 0] :: cells g1 36 [.int .i64 a0_0, .int .u64 a0_1, .int .i64 a0_2, .string a0_3, .string a0_4, .int .u64 a0_5, .int .i64 a0_6, .int .i64 a0_7, .int .i64 a0_8, .string a0_9, .int .i64 a0_10, .int .i64 a0_11, .int .i64 a0_12, .int .u32 a0_13] :: G) 4 [true, true, true, true, true, true, false, true, true, false, false, false] (fun i => ?_) (fun hD140 => ?_)
  · obtain ⟨g10, g11⟩ := i
    refine D.to (s' := [(1, .pointer (some ⟨g1, 0, none⟩)), (4, .pointer (some ⟨g10, 0, none⟩)), (5, .pointer (some ⟨g11, 0, none⟩)), (10, .agg #[.int .u64 a0_1, .int .i64 a0_2, .string a0_3, .string a0_4]), (12, .agg #[.int .u64 a0_5, .int .i64 a0_6, .int .i64 a0_7, .int .i64 a0_8, .string a0_9]), (14, .agg #[.int .i64 a0_10, .int .i64 a0_11, .int .i64 a0_12, .int .u32 a0_13])]) (G' := cells g10 29 [.int .u64 0, .int .i64 0, .int .i64 0, .int .i64 0, .string ByteArray.empty] :: cells g11 34 [.int .i64 0, .int .i64 0, .int .i64 0, .int .u32 0] :: cells g1 36 [.int .i64 a0_0, .int .u64 a0_1, .int .i64 a0_2, .string a0_3, .string a0_4, .int .u64 a0_5, .int .i64 a0_6, .int .i64 a0_7, .int .i64 a0_8, .string a0_9, .int .i64 a0_10, .int .i64 a0_11, .int .i64 a0_12, .int .u32 a0_13] :: G) (by exact ⟨rfl, rfl, rfl, rfl, rfl, rfl, trivial⟩) (fun w h => h) ?_
    refine D.any [6] (by kernel_rfl) rfl ⟨?_, trivial⟩
    refine DW.j (ls' := [true, true, true, true, true, true, true, true, true, false, false, false]) rfl rfl ?_
    refine J.alloc (L := [.int .u64 0, .int .i64 0, .string ByteArray.empty, .string ByteArray.empty]) rfl ti27 rfl (fun g9 => ?_)
    refine J.nil ?_
    refine D.backK 3 rfl ?_
    exact D.to (by exact ⟨rfl, rfl, rfl, rfl, rfl, rfl, rfl, trivial⟩) (fun w h => h) (hD137 (g9, g10, g11))
  refine D.share (fun (i : Nat) => [(1, .pointer (some ⟨g1, 0, none⟩)), (3, .pointer (some ⟨i, 0, none⟩)), (10, .agg #[.int .u64 a0_1, .int .i64 a0_2, .string a0_3, .string a0_4]), (12, .agg #[.int .u64 a0_5, .int .i64 a0_6, .int .i64 a0_7, .int .i64 a0_8, .string a0_9]), (14, .agg #[.int .i64 a0_10, .int .i64 a0_11, .int .i64 a0_12, .int .u32 a0_13])]) (fun (i : Nat) => cells i 27 [.int .u64 0, .int .i64 0, .string ByteArray.empty, .string ByteArray.empty] :: cells g1 36 [.int .i64 a0_0, .int .u64 a0_1, .int .i64 a0_2, .string a0_3, .string a0_4, .int .u64 a0_5, .int .i64 a0_6, .int .i64 a0_7, .int .i64 a0_8, .string a0_9, .int .i64 a0_10, .int .i64 a0_11, .int .i64 a0_12, .int .u32 a0_13] :: G) 5 [true, true, true, true, true, true, true, false, false, false, false, false] (fun g9 => ?_) (fun hD141 => ?_)
  · refine D.to (s' := [(1, .pointer (some ⟨g1, 0, none⟩)), (3, .pointer (some ⟨g9, 0, none⟩)), (10, .agg #[.int .u64 a0_1, .int .i64 a0_2, .string a0_3, .string a0_4]), (12, .agg #[.int .u64 a0_5, .int .i64 a0_6, .int .i64 a0_7, .int .i64 a0_8, .string a0_9]), (14, .agg #[.int .i64 a0_10, .int .i64 a0_11, .int .i64 a0_12, .int .u32 a0_13])]) (G' := cells g9 27 [.int .u64 0, .int .i64 0, .string ByteArray.empty, .string ByteArray.empty] :: cells g1 36 [.int .i64 a0_0, .int .u64 a0_1, .int .i64 a0_2, .string a0_3, .string a0_4, .int .u64 a0_5, .int .i64 a0_6, .int .i64 a0_7, .int .i64 a0_8, .string a0_9, .int .i64 a0_10, .int .i64 a0_11, .int .i64 a0_12, .int .u32 a0_13] :: G) (by exact ⟨rfl, rfl, rfl, rfl, rfl, trivial⟩) (fun w h => h) ?_
    refine D.any [7, 8] (by kernel_rfl) rfl ⟨?_, ?_, trivial⟩
    · refine DW.j (ls' := [true, true, true, true, true, true, true, true, false, false, false, false]) rfl rfl ?_
      refine J.alloc (L := [.int .u64 0, .int .i64 0, .int .i64 0, .int .i64 0, .string ByteArray.empty]) rfl ti29 rfl (fun g10 => ?_)
      refine J.nil ?_
      refine D.backK 2 rfl ?_
      exact D.to (by exact ⟨rfl, rfl, rfl, rfl, rfl, rfl, trivial⟩) (fun w h => (St.pick [1, 0, 2] [_, _, _] h rfl)) (hD138 (g9, g10))
    · refine DW.j (ls' := [true, true, true, true, true, true, true, false, true, false, false, false]) rfl rfl ?_
      refine J.alloc (L := [.int .i64 0, .int .i64 0, .int .i64 0, .int .u32 0]) rfl ti34 rfl (fun g11 => ?_)
      refine J.nil ?_
      refine D.backK 2 rfl ?_
      exact D.to (by exact ⟨rfl, rfl, rfl, rfl, rfl, rfl, trivial⟩) (fun w h => (St.pick [1, 0, 2] [_, _, _] h rfl)) (hD139 (g9, g11))
  refine D.share (fun (i : Nat) => [(1, .pointer (some ⟨g1, 0, none⟩)), (4, .pointer (some ⟨i, 0, none⟩)), (10, .agg #[.int .u64 a0_1, .int .i64 a0_2, .string a0_3, .string a0_4]), (12, .agg #[.int .u64 a0_5, .int .i64 a0_6, .int .i64 a0_7, .int .i64 a0_8, .string a0_9]), (14, .agg #[.int .i64 a0_10, .int .i64 a0_11, .int .i64 a0_12, .int .u32 a0_13])]) (fun (i : Nat) => cells i 29 [.int .u64 0, .int .i64 0, .int .i64 0, .int .i64 0, .string ByteArray.empty] :: cells g1 36 [.int .i64 a0_0, .int .u64 a0_1, .int .i64 a0_2, .string a0_3, .string a0_4, .int .u64 a0_5, .int .i64 a0_6, .int .i64 a0_7, .int .i64 a0_8, .string a0_9, .int .i64 a0_10, .int .i64 a0_11, .int .i64 a0_12, .int .u32 a0_13] :: G) 5 [true, true, true, true, true, true, false, true, false, false, false, false] (fun g10 => ?_) (fun hD142 => ?_)
  · refine D.to (s' := [(1, .pointer (some ⟨g1, 0, none⟩)), (4, .pointer (some ⟨g10, 0, none⟩)), (10, .agg #[.int .u64 a0_1, .int .i64 a0_2, .string a0_3, .string a0_4]), (12, .agg #[.int .u64 a0_5, .int .i64 a0_6, .int .i64 a0_7, .int .i64 a0_8, .string a0_9]), (14, .agg #[.int .i64 a0_10, .int .i64 a0_11, .int .i64 a0_12, .int .u32 a0_13])]) (G' := cells g10 29 [.int .u64 0, .int .i64 0, .int .i64 0, .int .i64 0, .string ByteArray.empty] :: cells g1 36 [.int .i64 a0_0, .int .u64 a0_1, .int .i64 a0_2, .string a0_3, .string a0_4, .int .u64 a0_5, .int .i64 a0_6, .int .i64 a0_7, .int .i64 a0_8, .string a0_9, .int .i64 a0_10, .int .i64 a0_11, .int .i64 a0_12, .int .u32 a0_13] :: G) (by exact ⟨rfl, rfl, rfl, rfl, rfl, trivial⟩) (fun w h => h) ?_
    refine D.any [6, 8] (by kernel_rfl) rfl ⟨?_, ?_, trivial⟩
    · refine DW.j (ls' := [true, true, true, true, true, true, true, true, false, false, false, false]) rfl rfl ?_
      refine J.alloc (L := [.int .u64 0, .int .i64 0, .string ByteArray.empty, .string ByteArray.empty]) rfl ti27 rfl (fun g9 => ?_)
      refine J.nil ?_
      refine D.backK 2 rfl ?_
      exact D.to (by exact ⟨rfl, rfl, rfl, rfl, rfl, rfl, trivial⟩) (fun w h => h) (hD138 (g9, g10))
    · refine DW.j (ls' := [true, true, true, true, true, true, false, true, true, false, false, false]) rfl rfl ?_
      refine J.alloc (L := [.int .i64 0, .int .i64 0, .int .i64 0, .int .u32 0]) rfl ti34 rfl (fun g11 => ?_)
      refine J.nil ?_
      refine D.backK 2 rfl ?_
      exact D.to (by exact ⟨rfl, rfl, rfl, rfl, rfl, rfl, trivial⟩) (fun w h => (St.pick [1, 0, 2] [_, _, _] h rfl)) (hD140 (g10, g11))
  refine D.share (fun (i : Nat) => [(1, .pointer (some ⟨g1, 0, none⟩)), (5, .pointer (some ⟨i, 0, none⟩)), (10, .agg #[.int .u64 a0_1, .int .i64 a0_2, .string a0_3, .string a0_4]), (12, .agg #[.int .u64 a0_5, .int .i64 a0_6, .int .i64 a0_7, .int .i64 a0_8, .string a0_9]), (14, .agg #[.int .i64 a0_10, .int .i64 a0_11, .int .i64 a0_12, .int .u32 a0_13])]) (fun (i : Nat) => cells i 34 [.int .i64 0, .int .i64 0, .int .i64 0, .int .u32 0] :: cells g1 36 [.int .i64 a0_0, .int .u64 a0_1, .int .i64 a0_2, .string a0_3, .string a0_4, .int .u64 a0_5, .int .i64 a0_6, .int .i64 a0_7, .int .i64 a0_8, .string a0_9, .int .i64 a0_10, .int .i64 a0_11, .int .i64 a0_12, .int .u32 a0_13] :: G) 5 [true, true, true, true, true, true, false, false, true, false, false, false] (fun g11 => ?_) (fun hD143 => ?_)
  · refine D.to (s' := [(1, .pointer (some ⟨g1, 0, none⟩)), (5, .pointer (some ⟨g11, 0, none⟩)), (10, .agg #[.int .u64 a0_1, .int .i64 a0_2, .string a0_3, .string a0_4]), (12, .agg #[.int .u64 a0_5, .int .i64 a0_6, .int .i64 a0_7, .int .i64 a0_8, .string a0_9]), (14, .agg #[.int .i64 a0_10, .int .i64 a0_11, .int .i64 a0_12, .int .u32 a0_13])]) (G' := cells g11 34 [.int .i64 0, .int .i64 0, .int .i64 0, .int .u32 0] :: cells g1 36 [.int .i64 a0_0, .int .u64 a0_1, .int .i64 a0_2, .string a0_3, .string a0_4, .int .u64 a0_5, .int .i64 a0_6, .int .i64 a0_7, .int .i64 a0_8, .string a0_9, .int .i64 a0_10, .int .i64 a0_11, .int .i64 a0_12, .int .u32 a0_13] :: G) (by exact ⟨rfl, rfl, rfl, rfl, rfl, trivial⟩) (fun w h => h) ?_
    refine D.any [6, 7] (by kernel_rfl) rfl ⟨?_, ?_, trivial⟩
    · refine DW.j (ls' := [true, true, true, true, true, true, true, false, true, false, false, false]) rfl rfl ?_
      refine J.alloc (L := [.int .u64 0, .int .i64 0, .string ByteArray.empty, .string ByteArray.empty]) rfl ti27 rfl (fun g9 => ?_)
      refine J.nil ?_
      refine D.backK 2 rfl ?_
      exact D.to (by exact ⟨rfl, rfl, rfl, rfl, rfl, rfl, trivial⟩) (fun w h => h) (hD139 (g9, g11))
    · refine DW.j (ls' := [true, true, true, true, true, true, false, true, true, false, false, false]) rfl rfl ?_
      refine J.alloc (L := [.int .u64 0, .int .i64 0, .int .i64 0, .int .i64 0, .string ByteArray.empty]) rfl ti29 rfl (fun g10 => ?_)
      refine J.nil ?_
      refine D.backK 2 rfl ?_
      exact D.to (by exact ⟨rfl, rfl, rfl, rfl, rfl, rfl, trivial⟩) (fun w h => h) (hD140 (g10, g11))
  refine D.share (fun (i : Unit) => [(1, .pointer (some ⟨g1, 0, none⟩)), (10, .agg #[.int .u64 a0_1, .int .i64 a0_2, .string a0_3, .string a0_4]), (12, .agg #[.int .u64 a0_5, .int .i64 a0_6, .int .i64 a0_7, .int .i64 a0_8, .string a0_9]), (14, .agg #[.int .i64 a0_10, .int .i64 a0_11, .int .i64 a0_12, .int .u32 a0_13])]) (fun (i : Unit) => cells g1 36 [.int .i64 a0_0, .int .u64 a0_1, .int .i64 a0_2, .string a0_3, .string a0_4, .int .u64 a0_5, .int .i64 a0_6, .int .i64 a0_7, .int .i64 a0_8, .string a0_9, .int .i64 a0_10, .int .i64 a0_11, .int .i64 a0_12, .int .u32 a0_13] :: G) 6 [true, true, true, true, true, true, false, false, false, false, false, false] (fun i => ?_) (fun hD144 => ?_)
  · refine D.to (s' := [(1, .pointer (some ⟨g1, 0, none⟩)), (10, .agg #[.int .u64 a0_1, .int .i64 a0_2, .string a0_3, .string a0_4]), (12, .agg #[.int .u64 a0_5, .int .i64 a0_6, .int .i64 a0_7, .int .i64 a0_8, .string a0_9]), (14, .agg #[.int .i64 a0_10, .int .i64 a0_11, .int .i64 a0_12, .int .u32 a0_13])]) (G' := cells g1 36 [.int .i64 a0_0, .int .u64 a0_1, .int .i64 a0_2, .string a0_3, .string a0_4, .int .u64 a0_5, .int .i64 a0_6, .int .i64 a0_7, .int .i64 a0_8, .string a0_9, .int .i64 a0_10, .int .i64 a0_11, .int .i64 a0_12, .int .u32 a0_13] :: G) (by exact ⟨rfl, rfl, rfl, rfl, trivial⟩) (fun w h => h) ?_
    refine D.any [6, 7, 8] (by kernel_rfl) rfl ⟨?_, ?_, ?_, trivial⟩
    · refine DW.j (ls' := [true, true, true, true, true, true, true, false, false, false, false, false]) rfl rfl ?_
      refine J.alloc (L := [.int .u64 0, .int .i64 0, .string ByteArray.empty, .string ByteArray.empty]) rfl ti27 rfl (fun g9 => ?_)
      refine J.nil ?_
      refine D.backK 1 rfl ?_
      exact D.to (by exact ⟨rfl, rfl, rfl, rfl, rfl, trivial⟩) (fun w h => h) (hD141 g9)
    · refine DW.j (ls' := [true, true, true, true, true, true, false, true, false, false, false, false]) rfl rfl ?_
      refine J.alloc (L := [.int .u64 0, .int .i64 0, .int .i64 0, .int .i64 0, .string ByteArray.empty]) rfl ti29 rfl (fun g10 => ?_)
      refine J.nil ?_
      refine D.backK 1 rfl ?_
      exact D.to (by exact ⟨rfl, rfl, rfl, rfl, rfl, trivial⟩) (fun w h => h) (hD142 g10)
    · refine DW.j (ls' := [true, true, true, true, true, true, false, false, true, false, false, false]) rfl rfl ?_
      refine J.alloc (L := [.int .i64 0, .int .i64 0, .int .i64 0, .int .u32 0]) rfl ti34 rfl (fun g11 => ?_)
      refine J.nil ?_
      refine D.backK 1 rfl ?_
      exact D.to (by exact ⟨rfl, rfl, rfl, rfl, rfl, trivial⟩) (fun w h => h) (hD143 g11)
  refine D.p (ls' := [true, false, false, false, false, false, false, false, false, false, false, false]) 0 rfl rfl rfl rfl (by kernel_rfl) rfl (Y.fa0 fa36_1 rfl rfl) ?_
  refine D.r (ls' := [true, true, false, false, false, false, false, false, false, false, false, false]) 1 1 0 rfl rfl rfl rfl (by kernel_rfl) (by kernel_rfl) rfl rfl (Y.ldCA (us := [.int .u64 a0_1, .int .i64 a0_2, .string a0_3, .string a0_4]) 0 Try.underlying27 rfl ti27 rfl rfl rfl rfl) ?_
  refine D.p (ls' := [true, true, true, false, false, false, false, false, false, false, false, false]) 2 rfl rfl rfl rfl (by kernel_rfl) rfl (Y.fa0 fa36_2 rfl rfl) ?_
  refine D.r (ls' := [true, true, true, true, false, false, false, false, false, false, false, false]) 3 1 0 rfl rfl rfl rfl (by kernel_rfl) (by kernel_rfl) rfl rfl (Y.ldCA (us := [.int .u64 a0_5, .int .i64 a0_6, .int .i64 a0_7, .int .i64 a0_8, .string a0_9]) 0 Try.underlying29 rfl ti29 rfl rfl rfl rfl) ?_
  refine D.p (ls' := [true, true, true, true, true, false, false, false, false, false, false, false]) 4 rfl rfl rfl rfl (by kernel_rfl) rfl (Y.fa0 fa36_3 rfl rfl) ?_
  refine D.r (ls' := [true, true, true, true, true, true, false, false, false, false, false, false]) 5 1 0 rfl rfl rfl rfl (by kernel_rfl) (by kernel_rfl) rfl rfl (Y.ldCA (us := [.int .i64 a0_10, .int .i64 a0_11, .int .i64 a0_12, .int .u32 a0_13]) 0 Try.underlying34 rfl ti34 rfl rfl rfl rfl) ?_
  exact D.to (by exact ⟨rfl, rfl, rfl, rfl, trivial⟩) (fun w h => h) (hD144 ())
end Go.Proofs.Ytakolnamobkkkaa
