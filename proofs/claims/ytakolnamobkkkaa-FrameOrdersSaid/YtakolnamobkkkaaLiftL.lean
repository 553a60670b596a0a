/- Own text, printed by the lifting program: each Go function beside a plain function, and the proof that a call of the one comes to the other. Conditions: what came in can be read. -/
import Derived.Test.YtakolnamobkkkaaLiftK
set_option linter.unusedVariables false
set_option linter.unusedSimpArgs false
set_option maxRecDepth 10000
set_option maxHeartbeats 4000000
namespace Go.Proofs.Ytakolnamobkkkaa
open Go Go.Sx
theorem ti30 : TI Try.prog 30 1 4 (.int .u32 0) := TI.of (by kernel_rfl)
theorem fa32_2 : FA Try.prog 32 2 2 := FA.of Try.underlying32 rfl ti30 (by decide) rfl
theorem go19 : GoF Try.prog 19 := GoF.of Try.func19 (by kernel_rfl) (by kernel_rfl)
theorem go20 : GoF Try.prog 20 := GoF.of Try.func20 (by kernel_rfl) (by kernel_rfl)
theorem go43 : GoF Try.prog 43 := GoF.of Try.func43 (by kernel_rfl) (by kernel_rfl)
theorem go44 : GoF Try.prog 44 := GoF.of Try.func44 (by kernel_rfl) (by kernel_rfl)
theorem go46 : GoF Try.prog 46 := GoF.of Try.func46 (by kernel_rfl) (by kernel_rfl)
theorem go47 : GoF Try.prog 47 := GoF.of Try.func47 (by kernel_rfl) (by kernel_rfl)
/-! ### salvor/frame.Body: function 20 -/
def fBody.f (K : Nat) (a0_0 : Int) (a0_1 : Int) (a0_2 : Int) (a0_3 : ByteArray) (a0_4 : ByteArray) (a0_5 : Int) (a0_6 : Int) (a0_7 : Int) (a0_8 : Int) (a0_9 : ByteArray) (a0_10 : Int) (a0_11 : Int) (a0_12 : Int) (a0_13 : Int) : Option ((List Int) × Int) := (check.f a0_0 a0_1 a0_2 a0_3 a0_4 a0_5 a0_6 a0_7 a0_8 a0_9 a0_10 a0_11 a0_12 a0_13).bind fun t3 => if t3 ≠ 0 then (some (([] : List Int), t3)) else ((if a0_0 = 1 then ((Encode.f K [a0_1, IntKind.wrap .u64 (a0_3.size : Int)]).bind fun t396 => gd (([IntKind.wrap .u8 a0_0].length + t396.length) * 1 ≤ 140737488355328) (gd (a0_3.size + a0_4.size ≤ 9223372036854775807) (gd ((([IntKind.wrap .u8 a0_0] ++ t396).length + (a0_3 ++ a0_4).size) * 1 ≤ 140737488355328) (some (([IntKind.wrap .u8 a0_0] ++ t396) ++ bytesOf (a0_3 ++ a0_4)))))) else (if a0_0 = 2 then ((Encode.f K [a0_1]).bind fun t414 => gd (([IntKind.wrap .u8 a0_0].length + t414.length) * 1 ≤ 140737488355328) (gd ((([IntKind.wrap .u8 a0_0] ++ t414).length + a0_3.size) * 1 ≤ 140737488355328) (some (([IntKind.wrap .u8 a0_0] ++ t414) ++ bytesOf a0_3)))) else (if a0_0 = 3 then ((Encode.f K [a0_5]).bind fun t431 => gd (([IntKind.wrap .u8 a0_0].length + t431.length) * 1 ≤ 140737488355328) (gd ((([IntKind.wrap .u8 a0_0] ++ t431).length + [IntKind.wrap .u8 a0_6].length) * 1 ≤ 140737488355328) ((Encode.f K [IntKind.wrap .u64 a0_7, IntKind.wrap .u64 a0_8]).bind fun t448 => gd (((([IntKind.wrap .u8 a0_0] ++ t431) ++ [IntKind.wrap .u8 a0_6]).length + t448.length) * 1 ≤ 140737488355328) (gd ((((([IntKind.wrap .u8 a0_0] ++ t431) ++ [IntKind.wrap .u8 a0_6]) ++ t448).length + a0_9.size) * 1 ≤ 140737488355328) (some (((([IntKind.wrap .u8 a0_0] ++ t431) ++ [IntKind.wrap .u8 a0_6]) ++ t448) ++ bytesOf a0_9)))))) else (if a0_0 = 4 then ((Encode.f K [IntKind.wrap .u64 a0_10, IntKind.wrap .u64 a0_11, IntKind.wrap .u64 a0_12, IntKind.wrap .u64 a0_13]).bind fun t466 => gd (([IntKind.wrap .u8 a0_0].length + t466.length) * 1 ≤ 140737488355328) (some ([IntKind.wrap .u8 a0_0] ++ t466))) else (some [IntKind.wrap .u8 a0_0]))))).bind fun o390 => some (o390, 0))
theorem fBody.calls {B : Nat} {w0 : World} {G : List HP} (K : Nat) (a0_0 : Int) (a0_1 : Int) (a0_2 : Int) (a0_3 : ByteArray) (a0_4 : ByteArray) (a0_5 : Int) (a0_6 : Int) (a0_7 : Int) (a0_8 : Int) (a0_9 : ByteArray) (a0_10 : Int) (a0_11 : Int) (a0_12 : Int) (a0_13 : Int) (r : (List Int) × Int) (H : fBody.f K a0_0 a0_1 a0_2 a0_3 a0_4 a0_5 a0_6 a0_7 a0_8 a0_9 a0_10 a0_11 a0_12 a0_13 = some r) (w : World) (hw : St B w0 (G) w) :
    Calls Try.prog 20 [.agg #[.int .i64 a0_0, .int .u64 a0_1, .int .i64 a0_2, .string a0_3, .string a0_4, .int .u64 a0_5, .int .i64 a0_6, .int .i64 a0_7, .int .i64 a0_8, .string a0_9, .int .i64 a0_10, .int .i64 a0_11, .int .i64 a0_12, .int .u32 a0_13]].toArray w (fun e w' => ∃ A0 c0, e = .returned (.tuple #[.slice A0 r.1.length c0, .int .i64 r.2]) ∧ St B w0 (own 5 1 A0 c0 (r.1.map (Value.int .u8)) :: G) w') := by
  unfold fBody.f at H
  refine calls_of (n := 107) (s := [(0, .agg #[.int .i64 a0_0, .int .u64 a0_1, .int .i64 a0_2, .string a0_3, .string a0_4, .int .u64 a0_5, .int .i64 a0_6, .int .i64 a0_7, .int .i64 a0_8, .string a0_9, .int .i64 a0_10, .int .i64 a0_11, .int .i64 a0_12, .int .u32 a0_13])]) Try.func20 rfl rfl rfl rfl ?_ hw
  refine C.rs ?_
  refine J.box (L := [.int .i64 a0_0, .int .u64 a0_1, .int .i64 a0_2, .string a0_3, .string a0_4, .int .u64 a0_5, .int .i64 a0_6, .int .i64 a0_7, .int .i64 a0_8, .string a0_9, .int .i64 a0_10, .int .i64 a0_11, .int .i64 a0_12, .int .u32 a0_13]) rfl rfl rfl (fun g1 => ?_)
  refine J.p rfl rfl rfl rfl (Y.asg rfl) ?_
  refine J.p rfl rfl rfl rfl (Y.asg rfl) ?_
  refine J.nx ?_
  refine C.seq ?_
  refine C.rs ?_
  refine J.r rfl rfl rfl rfl (Y.ldCA (us := [.int .i64 a0_0, .int .u64 a0_1, .int .i64 a0_2, .string a0_3, .string a0_4, .int .u64 a0_5, .int .i64 a0_6, .int .i64 a0_7, .int .i64 a0_8, .string a0_9, .int .i64 a0_10, .int .i64 a0_11, .int .i64 a0_12, .int .u32 a0_13]) 0 Try.underlying36 rfl ti36 rfl rfl rfl rfl) ?_
  obtain ⟨t3, hC4, H⟩ := bind_some H
  refine J.call (us := []) (cap := []) rfl rfl rfl go46 (fun w hw => by have hcc := check.calls a0_0 a0_1 a0_2 a0_3 a0_4 a0_5 a0_6 a0_7 a0_8 a0_9 a0_10 a0_11 a0_12 a0_13 t3 hC4 w hw; exact hcc) (fun e w1 h1 => ?_)
  obtain ⟨rfl, hw485⟩ := h1
  refine ⟨_, _, rfl, hw485, ?_⟩
  refine J.p rfl rfl rfl rfl (Y.asg rfl) ?_
  refine J.nx ?_
  refine C.rs ?_
  refine J.p rfl rfl rfl rfl (Y.mv rfl) ?_
  refine J.p rfl rfl rfl rfl (Y.bin rfl rfl rfl) ?_
  refine J.nx ?_
  refine split2 H (fun c5 H => ?_) (fun c5 H => ?_)
  · refine C.condT (congrArg (fun b => some (Value.bool b)) (decide_eq_true c5)) ?_
    refine C.rs ?_
    refine J.p rfl rfl rfl rfl (Y.mv rfl) ?_
    refine J.p rfl rfl rfl rfl (Y.asg rfl) ?_
    refine J.p rfl rfl rfl rfl (Y.asg rfl) ?_
    refine J.nx ?_
    refine C.ret ?_
    obtain rfl := Option.some.inj H
    refine T.th ?_
    exact ret_ok (ks := [2, 3]) rfl rfl (fun w h => ⟨none, 0, rfl, (St.pick [0] [_, _] (h.nilOwn 5 1) rfl)⟩)
  · refine C.condF (congrArg (fun b => some (Value.bool b)) (decide_eq_false c5)) ?_
    refine C.skip ?_
    refine N.nx ?_
    refine C.seq ?_
    refine C.drawn (fuel := 12) (ls := [false, false, false, false, false, false, false, false, false, false, false, false]) [] (cells g1 36 [.int .i64 a0_0, .int .u64 a0_1, .int .i64 a0_2, .string a0_3, .string a0_4, .int .u64 a0_5, .int .i64 a0_6, .int .i64 a0_7, .int .i64 a0_8, .string a0_9, .int .i64 a0_10, .int .i64 a0_11, .int .i64 a0_12, .int .u32 a0_13] :: G) mx rfl rfl ?_
    refine D.p (ls' := [true, false, false, false, false, false, false, false, false, false, false, false]) 0 rfl rfl rfl rfl (by kernel_rfl) rfl (Y.fa0 fa36_1 rfl rfl) ?_
    refine D.r (ls' := [true, true, false, false, false, false, false, false, false, false, false, false]) 1 1 0 rfl rfl rfl rfl (by kernel_rfl) (by kernel_rfl) rfl rfl (Y.ldCA (us := [.int .u64 a0_1, .int .i64 a0_2, .string a0_3, .string a0_4]) 0 Try.underlying27 rfl ti27 rfl rfl rfl rfl) ?_
    refine D.p (ls' := [true, true, true, false, false, false, false, false, false, false, false, false]) 2 rfl rfl rfl rfl (by kernel_rfl) rfl (Y.fa0 fa36_2 rfl rfl) ?_
    refine D.r (ls' := [true, true, true, true, false, false, false, false, false, false, false, false]) 3 1 0 rfl rfl rfl rfl (by kernel_rfl) (by kernel_rfl) rfl rfl (Y.ldCA (us := [.int .u64 a0_5, .int .i64 a0_6, .int .i64 a0_7, .int .i64 a0_8, .string a0_9]) 0 Try.underlying29 rfl ti29 rfl rfl rfl rfl) ?_
    refine D.p (ls' := [true, true, true, true, true, false, false, false, false, false, false, false]) 4 rfl rfl rfl rfl (by kernel_rfl) rfl (Y.fa0 fa36_3 rfl rfl) ?_
    refine D.r (ls' := [true, true, true, true, true, true, false, false, false, false, false, false]) 5 1 0 rfl rfl rfl rfl (by kernel_rfl) (by kernel_rfl) rfl rfl (Y.ldCA (us := [.int .i64 a0_10, .int .i64 a0_11, .int .i64 a0_12, .int .u32 a0_13]) 0 Try.underlying34 rfl ti34 rfl rfl rfl rfl) ?_
    refine D.share (fun (i : Nat × Nat × Nat) => [(1, .pointer (some ⟨g1, 0, none⟩)), (5, .pointer (some ⟨i.1, 0, none⟩)), (6, .pointer (some ⟨i.2.1, 0, none⟩)), (7, .pointer (some ⟨i.2.2, 0, none⟩))]) (fun (i : Nat × Nat × Nat) => cells i.1 27 [.int .u64 a0_1, .int .i64 a0_2, .string a0_3, .string a0_4] :: cells i.2.1 29 [.int .u64 a0_5, .int .i64 a0_6, .int .i64 a0_7, .int .i64 a0_8, .string a0_9] :: cells i.2.2 34 [.int .i64 a0_10, .int .i64 a0_11, .int .i64 a0_12, .int .u32 a0_13] :: cells g1 36 [.int .i64 a0_0, .int .u64 a0_1, .int .i64 a0_2, .string a0_3, .string a0_4, .int .u64 a0_5, .int .i64 a0_6, .int .i64 a0_7, .int .i64 a0_8, .string a0_9, .int .i64 a0_10, .int .i64 a0_11, .int .i64 a0_12, .int .u32 a0_13] :: G) 0 [true, true, true, true, true, true, true, true, true, true, true, true] (fun i => ?_) (fun hD302 => ?_)
    · obtain ⟨g157, g181, g205⟩ := i
      refine D.to (s' := [(1, .pointer (some ⟨g1, 0, none⟩)), (5, .pointer (some ⟨g157, 0, none⟩)), (6, .pointer (some ⟨g181, 0, none⟩)), (7, .pointer (some ⟨g205, 0, none⟩))]) (G' := cells g157 27 [.int .u64 a0_1, .int .i64 a0_2, .string a0_3, .string a0_4] :: cells g181 29 [.int .u64 a0_5, .int .i64 a0_6, .int .i64 a0_7, .int .i64 a0_8, .string a0_9] :: cells g205 34 [.int .i64 a0_10, .int .i64 a0_11, .int .i64 a0_12, .int .u32 a0_13] :: cells g1 36 [.int .i64 a0_0, .int .u64 a0_1, .int .i64 a0_2, .string a0_3, .string a0_4, .int .u64 a0_5, .int .i64 a0_6, .int .i64 a0_7, .int .i64 a0_8, .string a0_9, .int .i64 a0_10, .int .i64 a0_11, .int .i64 a0_12, .int .u32 a0_13] :: G) (by exact ⟨rfl, rfl, rfl, rfl, trivial⟩) (fun w h => h) ?_
      refine D.nil (by kernel_rfl) ?_
      refine N.nx ?_
      refine C.rs ?_
      refine J.p rfl rfl rfl rfl (Y.fa0 fa36_0 rfl rfl) ?_
      refine J.r rfl rfl rfl rfl (Y.ldC 3 Try.underlying24 rfl rfl rfl rfl) ?_
      refine J.p rfl rfl rfl rfl (Y.conv Try.underlying24 Try.underlying5 rfl) ?_
      refine J.bsL (enc := (Value.int .u8)) (xs := [IntKind.wrap .u8 a0_0]) rfl Try.underlying22 ti5 rfl rfl rfl rfl rfl (fun A303 => ?_)
      refine J.p rfl rfl rfl rfl (Y.asg rfl) ?_
      refine J.nx ?_
      refine C.seq ?_
      refine C.rs ?_
      refine J.p rfl rfl rfl rfl (Y.fa0 fa36_0 rfl rfl) ?_
      refine J.r rfl rfl rfl rfl (Y.ldC 4 Try.underlying24 rfl rfl rfl rfl) ?_
      refine J.nx ?_
      refine C.joinN H (fun (o390 : (List Int)) (j391 : (Option Addr) × Nat) => [(8, .slice j391.1 o390.length j391.2)]) (fun (o390 : (List Int)) (j391 : (Option Addr) × Nat) => own 5 1 j391.1 j391.2 (o390.map (Value.int .u8)) :: G) (fun (o390 : (List Int)) (j391 : (Option Addr) × Nat) => True) (fun o388 H HK389 => ?_) (fun o390 j391 H _ => ?_)
      · refine C.blk ?_
        refine C.rs ?_
        refine J.p rfl rfl rfl rfl (Y.bin rfl rfl rfl) ?_
        refine J.p rfl rfl rfl rfl (Y.asg rfl) ?_
        refine J.nx ?_
        refine split2 H (fun c393 H => ?_) (fun c393 H => ?_)
        · refine C.condT (congrArg (fun b => some (Value.bool b)) (decide_eq_true c393)) ?_
          refine C.rs ?_
          refine J.p rfl rfl rfl rfl (Y.mv rfl) ?_
          refine J.p rfl rfl rfl rfl (Y.fa0 fa27_0 rfl rfl) ?_
          refine J.r rfl rfl rfl rfl (Y.ldC 1 Try.underlying25 rfl rfl rfl rfl) ?_
          refine J.p rfl rfl rfl rfl (Y.fa0 fa27_2 rfl rfl) ?_
          refine J.r rfl rfl rfl rfl (Y.ldC 1 Try.underlying9 rfl rfl rfl rfl) ?_
          refine J.p rfl rfl rfl rfl (Y.lenT Try.underlying9 rfl) ?_
          refine J.p rfl rfl rfl rfl (Y.conv Try.underlying3 Try.underlying25 rfl) ?_
          refine J.bsL (enc := (Value.int .u64)) (xs := [a0_1, IntKind.wrap .u64 (a0_3.size : Int)]) rfl Try.underlying114 ti25 rfl rfl rfl rfl rfl (fun A394 => ?_)
          obtain ⟨t396, hC397, H⟩ := bind_some H
          refine J.call (us := []) (cap := []) rfl rfl rfl go47 (fun w hw => by have hcc := Encode.calls K [a0_1, IntKind.wrap .u64 (a0_3.size : Int)] A394 2 (RdG.own 0 rfl) (show [a0_1, IntKind.wrap .u64 (a0_3.size : Int)].length ≤ 2 from Nat.le_refl _) t396 hC397 w hw; exact hcc) (fun e w1 h1 => ?_)
          obtain ⟨A398, c399, rfl, hw410⟩ := h1
          refine ⟨_, _, rfl, hw410, ?_⟩
          refine J.pull 2 rfl rfl ?_
          obtain ⟨p403, H⟩ := gd_some H
          refine J.appL (enc := (Value.int .u8)) (xs := [IntKind.wrap .u8 a0_0]) (ys := t396) rfl Try.underlying22 ti5 rfl (by decide) rfl rfl (fun _ => rfl) (RdG.own 1 rfl) p403 (fun A401 c402 => ?_)
          refine J.pull 1 rfl rfl (J.drop ?_)
          refine J.p rfl rfl rfl rfl (Y.asg rfl) ?_
          refine J.nx ?_
          refine C.reg ?_
          refine J.p rfl rfl rfl rfl (Y.mv rfl) ?_
          refine J.p rfl rfl rfl rfl (Y.fa0 fa27_2 rfl rfl) ?_
          refine J.r rfl rfl rfl rfl (Y.ldC 2 Try.underlying9 rfl rfl rfl rfl) ?_
          refine J.p rfl rfl rfl rfl (Y.fa0 fa27_3 rfl rfl) ?_
          refine J.r rfl rfl rfl rfl (Y.ldC 2 Try.underlying9 rfl rfl rfl rfl) ?_
          obtain ⟨p405, H⟩ := gd_some H
          refine J.p rfl rfl rfl rfl (Y.cat rfl rfl p405) ?_
          obtain ⟨p408, H⟩ := gd_some H
          refine J.appT rfl Try.underlying22 Try.underlying9 ti5 rfl rfl p408 (fun A406 c407 => ?_)
          refine J.p rfl rfl rfl rfl (Y.asg rfl) ?_
          refine J.nil ?_
          refine N.ib ?_
          obtain rfl := Option.some.inj H
          exact N.meet ((([IntKind.wrap .u8 a0_0] ++ t396) ++ bytesOf (a0_3 ++ a0_4)), (A406, c407)) ⟨HK389, trivial⟩ (by exact ⟨rfl, trivial⟩) (by exact fun w h => (St.pick [0] [_, _, _, _, _, _] h rfl))
        · refine C.condF (congrArg (fun b => some (Value.bool b)) (decide_eq_false c393)) ?_
          refine C.rs ?_
          refine J.p rfl rfl rfl rfl (Y.bin rfl rfl rfl) ?_
          refine J.p rfl rfl rfl rfl (Y.asg rfl) ?_
          refine J.nx ?_
          refine split2 H (fun c411 H => ?_) (fun c411 H => ?_)
          · refine C.condT (congrArg (fun b => some (Value.bool b)) (decide_eq_true c411)) ?_
            refine C.rs ?_
            refine J.p rfl rfl rfl rfl (Y.mv rfl) ?_
            refine J.p rfl rfl rfl rfl (Y.fa0 fa27_0 rfl rfl) ?_
            refine J.r rfl rfl rfl rfl (Y.ldC 1 Try.underlying25 rfl rfl rfl rfl) ?_
            refine J.bsL (enc := (Value.int .u64)) (xs := [a0_1]) rfl Try.underlying114 ti25 rfl rfl rfl rfl rfl (fun A412 => ?_)
            obtain ⟨t414, hC415, H⟩ := bind_some H
            refine J.call (us := []) (cap := []) rfl rfl rfl go47 (fun w hw => by have hcc := Encode.calls K [a0_1] A412 1 (RdG.own 0 rfl) (show [a0_1].length ≤ 1 from Nat.le_refl _) t414 hC415 w hw; exact hcc) (fun e w1 h1 => ?_)
            obtain ⟨A416, c417, rfl, hw427⟩ := h1
            refine ⟨_, _, rfl, hw427, ?_⟩
            refine J.pull 2 rfl rfl ?_
            obtain ⟨p421, H⟩ := gd_some H
            refine J.appL (enc := (Value.int .u8)) (xs := [IntKind.wrap .u8 a0_0]) (ys := t414) rfl Try.underlying22 ti5 rfl (by decide) rfl rfl (fun _ => rfl) (RdG.own 1 rfl) p421 (fun A419 c420 => ?_)
            refine J.pull 1 rfl rfl (J.drop ?_)
            refine J.p rfl rfl rfl rfl (Y.asg rfl) ?_
            refine J.nx ?_
            refine C.reg ?_
            refine J.p rfl rfl rfl rfl (Y.mv rfl) ?_
            refine J.p rfl rfl rfl rfl (Y.fa0 fa27_2 rfl rfl) ?_
            refine J.r rfl rfl rfl rfl (Y.ldC 2 Try.underlying9 rfl rfl rfl rfl) ?_
            obtain ⟨p425, H⟩ := gd_some H
            refine J.appT rfl Try.underlying22 Try.underlying9 ti5 rfl rfl p425 (fun A423 c424 => ?_)
            refine J.p rfl rfl rfl rfl (Y.asg rfl) ?_
            refine J.nil ?_
            refine N.ib ?_
            obtain rfl := Option.some.inj H
            exact N.meet ((([IntKind.wrap .u8 a0_0] ++ t414) ++ bytesOf a0_3), (A423, c424)) ⟨HK389, trivial⟩ (by exact ⟨rfl, trivial⟩) (by exact fun w h => (St.pick [0] [_, _, _, _, _, _] h rfl))
          · refine C.condF (congrArg (fun b => some (Value.bool b)) (decide_eq_false c411)) ?_
            refine C.rs ?_
            refine J.p rfl rfl rfl rfl (Y.bin rfl rfl rfl) ?_
            refine J.p rfl rfl rfl rfl (Y.asg rfl) ?_
            refine J.nx ?_
            refine split2 H (fun c428 H => ?_) (fun c428 H => ?_)
            · refine C.condT (congrArg (fun b => some (Value.bool b)) (decide_eq_true c428)) ?_
              refine C.rs ?_
              refine J.p rfl rfl rfl rfl (Y.mv rfl) ?_
              refine J.p rfl rfl rfl rfl (Y.fa0 fa29_0 rfl rfl) ?_
              refine J.r rfl rfl rfl rfl (Y.ldC 2 Try.underlying25 rfl rfl rfl rfl) ?_
              refine J.bsL (enc := (Value.int .u64)) (xs := [a0_5]) rfl Try.underlying114 ti25 rfl rfl rfl rfl rfl (fun A429 => ?_)
              obtain ⟨t431, hC432, H⟩ := bind_some H
              refine J.call (us := []) (cap := []) rfl rfl rfl go47 (fun w hw => by have hcc := Encode.calls K [a0_5] A429 1 (RdG.own 0 rfl) (show [a0_5].length ≤ 1 from Nat.le_refl _) t431 hC432 w hw; exact hcc) (fun e w1 h1 => ?_)
              obtain ⟨A433, c434, rfl, hw462⟩ := h1
              refine ⟨_, _, rfl, hw462, ?_⟩
              refine J.pull 2 rfl rfl ?_
              obtain ⟨p438, H⟩ := gd_some H
              refine J.appL (enc := (Value.int .u8)) (xs := [IntKind.wrap .u8 a0_0]) (ys := t431) rfl Try.underlying22 ti5 rfl (by decide) rfl rfl (fun _ => rfl) (RdG.own 1 rfl) p438 (fun A436 c437 => ?_)
              refine J.pull 1 rfl rfl (J.drop ?_)
              refine J.p rfl rfl rfl rfl (Y.asg rfl) ?_
              refine J.nx ?_
              refine C.rs ?_
              refine J.p rfl rfl rfl rfl (Y.mv rfl) ?_
              refine J.p rfl rfl rfl rfl (Y.fa0 fa29_1 rfl rfl) ?_
              refine J.r rfl rfl rfl rfl (Y.ldC 3 Try.underlying24 rfl rfl rfl rfl) ?_
              refine J.p rfl rfl rfl rfl (Y.conv Try.underlying24 Try.underlying5 rfl) ?_
              refine J.bsL (enc := (Value.int .u8)) (xs := [IntKind.wrap .u8 a0_6]) rfl Try.underlying22 ti5 rfl rfl rfl rfl rfl (fun A440 => ?_)
              refine J.pull 1 rfl rfl ?_
              obtain ⟨p444, H⟩ := gd_some H
              refine J.appL (enc := (Value.int .u8)) (xs := ([IntKind.wrap .u8 a0_0] ++ t431)) (ys := [IntKind.wrap .u8 a0_6]) rfl Try.underlying22 ti5 rfl (by decide) rfl rfl (fun _ => rfl) (RdG.own 1 rfl) p444 (fun A442 c443 => ?_)
              refine J.pull 1 rfl rfl (J.drop ?_)
              refine J.p rfl rfl rfl rfl (Y.asg rfl) ?_
              refine J.nx ?_
              refine C.rs ?_
              refine J.p rfl rfl rfl rfl (Y.mv rfl) ?_
              refine J.p rfl rfl rfl rfl (Y.fa0 fa29_2 rfl rfl) ?_
              refine J.r rfl rfl rfl rfl (Y.ldC 3 Try.underlying3 rfl rfl rfl rfl) ?_
              refine J.p rfl rfl rfl rfl (Y.conv Try.underlying3 Try.underlying25 rfl) ?_
              refine J.p rfl rfl rfl rfl (Y.fa0 fa29_3 rfl rfl) ?_
              refine J.r rfl rfl rfl rfl (Y.ldC 3 Try.underlying3 rfl rfl rfl rfl) ?_
              refine J.p rfl rfl rfl rfl (Y.conv Try.underlying3 Try.underlying25 rfl) ?_
              refine J.bsL (enc := (Value.int .u64)) (xs := [IntKind.wrap .u64 a0_7, IntKind.wrap .u64 a0_8]) rfl Try.underlying114 ti25 rfl rfl rfl rfl rfl (fun A446 => ?_)
              obtain ⟨t448, hC449, H⟩ := bind_some H
              refine J.call (us := []) (cap := []) rfl rfl rfl go47 (fun w hw => by have hcc := Encode.calls K [IntKind.wrap .u64 a0_7, IntKind.wrap .u64 a0_8] A446 2 (RdG.own 0 rfl) (show [IntKind.wrap .u64 a0_7, IntKind.wrap .u64 a0_8].length ≤ 2 from Nat.le_refl _) t448 hC449 w hw; exact hcc) (fun e w1 h1 => ?_)
              obtain ⟨A450, c451, rfl, hw461⟩ := h1
              refine ⟨_, _, rfl, hw461, ?_⟩
              refine J.pull 2 rfl rfl ?_
              obtain ⟨p455, H⟩ := gd_some H
              refine J.appL (enc := (Value.int .u8)) (xs := (([IntKind.wrap .u8 a0_0] ++ t431) ++ [IntKind.wrap .u8 a0_6])) (ys := t448) rfl Try.underlying22 ti5 rfl (by decide) rfl rfl (fun _ => rfl) (RdG.own 1 rfl) p455 (fun A453 c454 => ?_)
              refine J.pull 1 rfl rfl (J.drop ?_)
              refine J.p rfl rfl rfl rfl (Y.asg rfl) ?_
              refine J.nx ?_
              refine C.reg ?_
              refine J.p rfl rfl rfl rfl (Y.mv rfl) ?_
              refine J.p rfl rfl rfl rfl (Y.fa0 fa29_4 rfl rfl) ?_
              refine J.r rfl rfl rfl rfl (Y.ldC 4 Try.underlying9 rfl rfl rfl rfl) ?_
              obtain ⟨p459, H⟩ := gd_some H
              refine J.appT rfl Try.underlying22 Try.underlying9 ti5 rfl rfl p459 (fun A457 c458 => ?_)
              refine J.p rfl rfl rfl rfl (Y.asg rfl) ?_
              refine J.nil ?_
              refine N.ib ?_
              obtain rfl := Option.some.inj H
              exact N.meet ((((([IntKind.wrap .u8 a0_0] ++ t431) ++ [IntKind.wrap .u8 a0_6]) ++ t448) ++ bytesOf a0_9), (A457, c458)) ⟨HK389, trivial⟩ (by exact ⟨rfl, trivial⟩) (by exact fun w h => (St.pick [0] [_, _, _, _, _, _, _] h rfl))
            · refine C.condF (congrArg (fun b => some (Value.bool b)) (decide_eq_false c428)) ?_
              refine C.rs ?_
              refine J.p rfl rfl rfl rfl (Y.bin rfl rfl rfl) ?_
              refine J.p rfl rfl rfl rfl (Y.asg rfl) ?_
              refine J.nx ?_
              refine split2 H (fun c463 H => ?_) (fun c463 H => ?_)
              · refine C.condT (congrArg (fun b => some (Value.bool b)) (decide_eq_true c463)) ?_
                refine C.reg ?_
                refine J.p rfl rfl rfl rfl (Y.mv rfl) ?_
                refine J.p rfl rfl rfl rfl (Y.fa0 fa34_0 rfl rfl) ?_
                refine J.r rfl rfl rfl rfl (Y.ldC 3 Try.underlying3 rfl rfl rfl rfl) ?_
                refine J.p rfl rfl rfl rfl (Y.conv Try.underlying3 Try.underlying25 rfl) ?_
                refine J.p rfl rfl rfl rfl (Y.fa0 fa34_1 rfl rfl) ?_
                refine J.p rfl rfl rfl rfl (Y.fa0 fa32_0 rfl rfl) ?_
                refine J.r rfl rfl rfl rfl (Y.ldC 3 Try.underlying3 rfl rfl rfl rfl) ?_
                refine J.p rfl rfl rfl rfl (Y.conv Try.underlying3 Try.underlying25 rfl) ?_
                refine J.p rfl rfl rfl rfl (Y.fa0 fa34_1 rfl rfl) ?_
                refine J.p rfl rfl rfl rfl (Y.fa0 fa32_1 rfl rfl) ?_
                refine J.r rfl rfl rfl rfl (Y.ldC 3 Try.underlying3 rfl rfl rfl rfl) ?_
                refine J.p rfl rfl rfl rfl (Y.conv Try.underlying3 Try.underlying25 rfl) ?_
                refine J.p rfl rfl rfl rfl (Y.fa0 fa34_1 rfl rfl) ?_
                refine J.p rfl rfl rfl rfl (Y.fa0 fa32_2 rfl rfl) ?_
                refine J.r rfl rfl rfl rfl (Y.ldC 3 Try.underlying30 rfl rfl rfl rfl) ?_
                refine J.p rfl rfl rfl rfl (Y.conv Try.underlying30 Try.underlying25 rfl) ?_
                refine J.bsL (enc := (Value.int .u64)) (xs := [IntKind.wrap .u64 a0_10, IntKind.wrap .u64 a0_11, IntKind.wrap .u64 a0_12, IntKind.wrap .u64 a0_13]) rfl Try.underlying114 ti25 rfl rfl rfl rfl rfl (fun A464 => ?_)
                obtain ⟨t466, hC467, H⟩ := bind_some H
                refine J.call (us := []) (cap := []) rfl rfl rfl go47 (fun w hw => by have hcc := Encode.calls K [IntKind.wrap .u64 a0_10, IntKind.wrap .u64 a0_11, IntKind.wrap .u64 a0_12, IntKind.wrap .u64 a0_13] A464 4 (RdG.own 0 rfl) (show [IntKind.wrap .u64 a0_10, IntKind.wrap .u64 a0_11, IntKind.wrap .u64 a0_12, IntKind.wrap .u64 a0_13].length ≤ 4 from Nat.le_refl _) t466 hC467 w hw; exact hcc) (fun e w1 h1 => ?_)
                obtain ⟨A468, c469, rfl, hw475⟩ := h1
                refine ⟨_, _, rfl, hw475, ?_⟩
                refine J.pull 2 rfl rfl ?_
                obtain ⟨p473, H⟩ := gd_some H
                refine J.appL (enc := (Value.int .u8)) (xs := [IntKind.wrap .u8 a0_0]) (ys := t466) rfl Try.underlying22 ti5 rfl (by decide) rfl rfl (fun _ => rfl) (RdG.own 1 rfl) p473 (fun A471 c472 => ?_)
                refine J.pull 1 rfl rfl (J.drop ?_)
                refine J.p rfl rfl rfl rfl (Y.asg rfl) ?_
                refine J.nil ?_
                refine N.ib ?_
                obtain rfl := Option.some.inj H
                exact N.meet (([IntKind.wrap .u8 a0_0] ++ t466), (A471, c472)) ⟨HK389, trivial⟩ (by exact ⟨rfl, trivial⟩) (by exact fun w h => (St.pick [0] [_, _, _, _, _, _] h rfl))
              · refine C.condF (congrArg (fun b => some (Value.bool b)) (decide_eq_false c463)) ?_
                refine C.skip ?_
                refine N.ib ?_
                obtain rfl := Option.some.inj H
                exact N.meet ([IntKind.wrap .u8 a0_0], (A303, 1)) ⟨HK389, trivial⟩ (by exact ⟨rfl, trivial⟩) (by exact fun w h => (St.pick [0] [_, _, _, _, _] h rfl))
      · refine N.at (s' := [(8, .slice j391.1 o390.length j391.2)]) (G' := own 5 1 j391.1 j391.2 (o390.map (Value.int .u8)) :: G) rfl rfl ?_
        refine N.nx ?_
        refine C.rs ?_
        refine J.p rfl rfl rfl rfl (Y.mv rfl) ?_
        refine J.p rfl rfl rfl rfl (Y.asg rfl) ?_
        refine J.p rfl rfl rfl rfl (Y.asg rfl) ?_
        refine J.nx ?_
        refine C.ret ?_
        obtain rfl := Option.some.inj H
        exact ret_ok (ks := [2, 3]) rfl rfl (fun w h => ⟨j391.1, j391.2, rfl, h⟩)
    refine D.share (fun (i : Nat × Nat × Nat) => [(1, .pointer (some ⟨g1, 0, none⟩)), (5, .pointer (some ⟨i.1, 0, none⟩)), (6, .pointer (some ⟨i.2.1, 0, none⟩)), (7, .pointer (some ⟨i.2.2, 0, none⟩)), (19, .agg #[.int .i64 a0_10, .int .i64 a0_11, .int .i64 a0_12, .int .u32 a0_13])]) (fun (i : Nat × Nat × Nat) => cells i.1 27 [.int .u64 a0_1, .int .i64 a0_2, .string a0_3, .string a0_4] :: cells i.2.1 29 [.int .u64 a0_5, .int .i64 a0_6, .int .i64 a0_7, .int .i64 a0_8, .string a0_9] :: cells i.2.2 34 [.int .i64 0, .int .i64 0, .int .i64 0, .int .u32 0] :: cells g1 36 [.int .i64 a0_0, .int .u64 a0_1, .int .i64 a0_2, .string a0_3, .string a0_4, .int .u64 a0_5, .int .i64 a0_6, .int .i64 a0_7, .int .i64 a0_8, .string a0_9, .int .i64 a0_10, .int .i64 a0_11, .int .i64 a0_12, .int .u32 a0_13] :: G) 1 [true, true, true, true, true, true, true, true, true, true, true, false] (fun i => ?_) (fun hD476 => ?_)
    · obtain ⟨g157, g181, g205⟩ := i
      refine D.to (s' := [(1, .pointer (some ⟨g1, 0, none⟩)), (5, .pointer (some ⟨g157, 0, none⟩)), (6, .pointer (some ⟨g181, 0, none⟩)), (7, .pointer (some ⟨g205, 0, none⟩)), (19, .agg #[.int .i64 a0_10, .int .i64 a0_11, .int .i64 a0_12, .int .u32 a0_13])]) (G' := cells g157 27 [.int .u64 a0_1, .int .i64 a0_2, .string a0_3, .string a0_4] :: cells g181 29 [.int .u64 a0_5, .int .i64 a0_6, .int .i64 a0_7, .int .i64 a0_8, .string a0_9] :: cells g205 34 [.int .i64 0, .int .i64 0, .int .i64 0, .int .u32 0] :: cells g1 36 [.int .i64 a0_0, .int .u64 a0_1, .int .i64 a0_2, .string a0_3, .string a0_4, .int .u64 a0_5, .int .i64 a0_6, .int .i64 a0_7, .int .i64 a0_8, .string a0_9, .int .i64 a0_10, .int .i64 a0_11, .int .i64 a0_12, .int .u32 a0_13] :: G) (by exact ⟨rfl, rfl, rfl, rfl, rfl, trivial⟩) (fun w h => h) ?_
      refine D.any [11] (by kernel_rfl) rfl ⟨?_, trivial⟩
      refine DW.j (ls' := [true, true, true, true, true, true, true, true, true, true, true, true]) rfl rfl ?_
      refine J.pull 2 rfl rfl ?_
      refine J.stA (us := [.int .i64 a0_10, .int .i64 a0_11, .int .i64 a0_12, .int .u32 a0_13]) (L' := [.int .i64 a0_10, .int .i64 a0_11, .int .i64 a0_12, .int .u32 a0_13]) ti34 rfl rfl rfl rfl rfl rfl ?_
      refine J.nil ?_
      refine D.backK 3 rfl ?_
      exact D.to (by exact ⟨rfl, rfl, rfl, rfl, trivial⟩) (fun w h => (St.pick [1, 2, 0, 3] [_, _, _, _] h rfl)) (hD302 (g157, g181, g205))
    refine D.share (fun (i : Nat × Nat × Nat) => [(1, .pointer (some ⟨g1, 0, none⟩)), (5, .pointer (some ⟨i.1, 0, none⟩)), (6, .pointer (some ⟨i.2.1, 0, none⟩)), (7, .pointer (some ⟨i.2.2, 0, none⟩)), (17, .agg #[.int .u64 a0_5, .int .i64 a0_6, .int .i64 a0_7, .int .i64 a0_8, .string a0_9]), (19, .agg #[.int .i64 a0_10, .int .i64 a0_11, .int .i64 a0_12, .int .u32 a0_13])]) (fun (i : Nat × Nat × Nat) => cells i.1 27 [.int .u64 a0_1, .int .i64 a0_2, .string a0_3, .string a0_4] :: cells i.2.1 29 [.int .u64 0, .int .i64 0, .int .i64 0, .int .i64 0, .string ByteArray.empty] :: cells i.2.2 34 [.int .i64 0, .int .i64 0, .int .i64 0, .int .u32 0] :: cells g1 36 [.int .i64 a0_0, .int .u64 a0_1, .int .i64 a0_2, .string a0_3, .string a0_4, .int .u64 a0_5, .int .i64 a0_6, .int .i64 a0_7, .int .i64 a0_8, .string a0_9, .int .i64 a0_10, .int .i64 a0_11, .int .i64 a0_12, .int .u32 a0_13] :: G) 2 [true, true, true, true, true, true, true, true, true, true, false, false] (fun i => ?_) (fun hD477 => ?_)
    · obtain ⟨g157, g181, g205⟩ := i
      refine D.to (s' := [(1, .pointer (some ⟨g1, 0, none⟩)), (5, .pointer (some ⟨g157, 0, none⟩)), (6, .pointer (some ⟨g181, 0, none⟩)), (7, .pointer (some ⟨g205, 0, none⟩)), (17, .agg #[.int .u64 a0_5, .int .i64 a0_6, .int .i64 a0_7, .int .i64 a0_8, .string a0_9]), (19, .agg #[.int .i64 a0_10, .int .i64 a0_11, .int .i64 a0_12, .int .u32 a0_13])]) (G' := cells g157 27 [.int .u64 a0_1, .int .i64 a0_2, .string a0_3, .string a0_4] :: cells g181 29 [.int .u64 0, .int .i64 0, .int .i64 0, .int .i64 0, .string ByteArray.empty] :: cells g205 34 [.int .i64 0, .int .i64 0, .int .i64 0, .int .u32 0] :: cells g1 36 [.int .i64 a0_0, .int .u64 a0_1, .int .i64 a0_2, .string a0_3, .string a0_4, .int .u64 a0_5, .int .i64 a0_6, .int .i64 a0_7, .int .i64 a0_8, .string a0_9, .int .i64 a0_10, .int .i64 a0_11, .int .i64 a0_12, .int .u32 a0_13] :: G) (by exact ⟨rfl, rfl, rfl, rfl, rfl, rfl, trivial⟩) (fun w h => h) ?_
      refine D.any [10] (by kernel_rfl) rfl ⟨?_, trivial⟩
      refine DW.j (ls' := [true, true, true, true, true, true, true, true, true, true, true, false]) rfl rfl ?_
      refine J.pull 1 rfl rfl ?_
      refine J.stA (us := [.int .u64 a0_5, .int .i64 a0_6, .int .i64 a0_7, .int .i64 a0_8, .string a0_9]) (L' := [.int .u64 a0_5, .int .i64 a0_6, .int .i64 a0_7, .int .i64 a0_8, .string a0_9]) ti29 rfl rfl rfl rfl rfl rfl ?_
      refine J.nil ?_
      refine D.backK 3 rfl ?_
      exact D.to (by exact ⟨rfl, rfl, rfl, rfl, rfl, trivial⟩) (fun w h => (St.pick [1, 0, 2, 3] [_, _, _, _] h rfl)) (hD476 (g157, g181, g205))
    refine D.share (fun (i : Nat × Nat × Nat) => [(1, .pointer (some ⟨g1, 0, none⟩)), (5, .pointer (some ⟨i.1, 0, none⟩)), (6, .pointer (some ⟨i.2.1, 0, none⟩)), (7, .pointer (some ⟨i.2.2, 0, none⟩)), (15, .agg #[.int .u64 a0_1, .int .i64 a0_2, .string a0_3, .string a0_4]), (17, .agg #[.int .u64 a0_5, .int .i64 a0_6, .int .i64 a0_7, .int .i64 a0_8, .string a0_9]), (19, .agg #[.int .i64 a0_10, .int .i64 a0_11, .int .i64 a0_12, .int .u32 a0_13])]) (fun (i : Nat × Nat × Nat) => cells i.1 27 [.int .u64 0, .int .i64 0, .string ByteArray.empty, .string ByteArray.empty] :: cells i.2.1 29 [.int .u64 0, .int .i64 0, .int .i64 0, .int .i64 0, .string ByteArray.empty] :: cells i.2.2 34 [.int .i64 0, .int .i64 0, .int .i64 0, .int .u32 0] :: cells g1 36 [.int .i64 a0_0, .int .u64 a0_1, .int .i64 a0_2, .string a0_3, .string a0_4, .int .u64 a0_5, .int .i64 a0_6, .int .i64 a0_7, .int .i64 a0_8, .string a0_9, .int .i64 a0_10, .int .i64 a0_11, .int .i64 a0_12, .int .u32 a0_13] :: G) 3 [true, true, true, true, true, true, true, true, true, false, false, false] (fun i => ?_) (fun hD478 => ?_)
    · obtain ⟨g157, g181, g205⟩ := i
      refine D.to (s' := [(1, .pointer (some ⟨g1, 0, none⟩)), (5, .pointer (some ⟨g157, 0, none⟩)), (6, .pointer (some ⟨g181, 0, none⟩)), (7, .pointer (some ⟨g205, 0, none⟩)), (15, .agg #[.int .u64 a0_1, .int .i64 a0_2, .string a0_3, .string a0_4]), (17, .agg #[.int .u64 a0_5, .int .i64 a0_6, .int .i64 a0_7, .int .i64 a0_8, .string a0_9]), (19, .agg #[.int .i64 a0_10, .int .i64 a0_11, .int .i64 a0_12, .int .u32 a0_13])]) (G' := cells g157 27 [.int .u64 0, .int .i64 0, .string ByteArray.empty, .string ByteArray.empty] :: cells g181 29 [.int .u64 0, .int .i64 0, .int .i64 0, .int .i64 0, .string ByteArray.empty] :: cells g205 34 [.int .i64 0, .int .i64 0, .int .i64 0, .int .u32 0] :: cells g1 36 [.int .i64 a0_0, .int .u64 a0_1, .int .i64 a0_2, .string a0_3, .string a0_4, .int .u64 a0_5, .int .i64 a0_6, .int .i64 a0_7, .int .i64 a0_8, .string a0_9, .int .i64 a0_10, .int .i64 a0_11, .int .i64 a0_12, .int .u32 a0_13] :: G) (by exact ⟨rfl, rfl, rfl, rfl, rfl, rfl, rfl, trivial⟩) (fun w h => h) ?_
      refine D.any [9] (by kernel_rfl) rfl ⟨?_, trivial⟩
      refine DW.j (ls' := [true, true, true, true, true, true, true, true, true, true, false, false]) rfl rfl ?_
      refine J.stA (us := [.int .u64 a0_1, .int .i64 a0_2, .string a0_3, .string a0_4]) (L' := [.int .u64 a0_1, .int .i64 a0_2, .string a0_3, .string a0_4]) ti27 rfl rfl rfl rfl rfl rfl ?_
      refine J.nil ?_
      refine D.backK 3 rfl ?_
      exact D.to (by exact ⟨rfl, rfl, rfl, rfl, rfl, rfl, trivial⟩) (fun w h => h) (hD477 (g157, g181, g205))
    refine D.share (fun (i : Nat × Nat) => [(1, .pointer (some ⟨g1, 0, none⟩)), (5, .pointer (some ⟨i.1, 0, none⟩)), (6, .pointer (some ⟨i.2, 0, none⟩)), (15, .agg #[.int .u64 a0_1, .int .i64 a0_2, .string a0_3, .string a0_4]), (17, .agg #[.int .u64 a0_5, .int .i64 a0_6, .int .i64 a0_7, .int .i64 a0_8, .string a0_9]), (19, .agg #[.int .i64 a0_10, .int .i64 a0_11, .int .i64 a0_12, .int .u32 a0_13])]) (fun (i : Nat × Nat) => cells i.1 27 [.int .u64 0, .int .i64 0, .string ByteArray.empty, .string ByteArray.empty] :: cells i.2 29 [.int .u64 0, .int .i64 0, .int .i64 0, .int .i64 0, .string ByteArray.empty] :: cells g1 36 [.int .i64 a0_0, .int .u64 a0_1, .int .i64 a0_2, .string a0_3, .string a0_4, .int .u64 a0_5, .int .i64 a0_6, .int .i64 a0_7, .int .i64 a0_8, .string a0_9, .int .i64 a0_10, .int .i64 a0_11, .int .i64 a0_12, .int .u32 a0_13] :: G) 4 [true, true, true, true, true, true, true, true, false, false, false, false] (fun i => ?_) (fun hD479 => ?_)
    · obtain ⟨g157, g181⟩ := i
      refine D.to (s' := [(1, .pointer (some ⟨g1, 0, none⟩)), (5, .pointer (some ⟨g157, 0, none⟩)), (6, .pointer (some ⟨g181, 0, none⟩)), (15, .agg #[.int .u64 a0_1, .int .i64 a0_2, .string a0_3, .string a0_4]), (17, .agg #[.int .u64 a0_5, .int .i64 a0_6, .int .i64 a0_7, .int .i64 a0_8, .string a0_9]), (19, .agg #[.int .i64 a0_10, .int .i64 a0_11, .int .i64 a0_12, .int .u32 a0_13])]) (G' := cells g157 27 [.int .u64 0, .int .i64 0, .string ByteArray.empty, .string ByteArray.empty] :: cells g181 29 [.int .u64 0, .int .i64 0, .int .i64 0, .int .i64 0, .string ByteArray.empty] :: cells g1 36 [.int .i64 a0_0, .int .u64 a0_1, .int .i64 a0_2, .string a0_3, .string a0_4, .int .u64 a0_5, .int .i64 a0_6, .int .i64 a0_7, .int .i64 a0_8, .string a0_9, .int .i64 a0_10, .int .i64 a0_11, .int .i64 a0_12, .int .u32 a0_13] :: G) (by exact ⟨rfl, rfl, rfl, rfl, rfl, rfl, trivial⟩) (fun w h => h) ?_
      refine D.any [8] (by kernel_rfl) rfl ⟨?_, trivial⟩
      refine DW.j (ls' := [true, true, true, true, true, true, true, true, true, false, false, false]) rfl rfl ?_
      refine J.alloc (L := [.int .i64 0, .int .i64 0, .int .i64 0, .int .u32 0]) rfl ti34 rfl (fun g205 => ?_)
      refine J.nil ?_
      refine D.backK 3 rfl ?_
      exact D.to (by exact ⟨rfl, rfl, rfl, rfl, rfl, rfl, rfl, trivial⟩) (fun w h => (St.pick [1, 2, 0, 3] [_, _, _, _] h rfl)) (hD478 (g157, g181, g205))
    refine D.share (fun (i : Nat × Nat) => [(1, .pointer (some ⟨g1, 0, none⟩)), (5, .pointer (some ⟨i.1, 0, none⟩)), (7, .pointer (some ⟨i.2, 0, none⟩)), (15, .agg #[.int .u64 a0_1, .int .i64 a0_2, .string a0_3, .string a0_4]), (17, .agg #[.int .u64 a0_5, .int .i64 a0_6, .int .i64 a0_7, .int .i64 a0_8, .string a0_9]), (19, .agg #[.int .i64 a0_10, .int .i64 a0_11, .int .i64 a0_12, .int .u32 a0_13])]) (fun (i : Nat × Nat) => cells i.1 27 [.int .u64 0, .int .i64 0, .string ByteArray.empty, .string ByteArray.empty] :: cells i.2 34 [.int .i64 0, .int .i64 0, .int .i64 0, .int .u32 0] :: cells g1 36 [.int .i64 a0_0, .int .u64 a0_1, .int .i64 a0_2, .string a0_3, .string a0_4, .int .u64 a0_5, .int .i64 a0_6, .int .i64 a0_7, .int .i64 a0_8, .string a0_9, .int .i64 a0_10, .int .i64 a0_11, .int .i64 a0_12, .int .u32 a0_13] :: G) 4 [true, true, true, true, true, true, true, false, true, false, false, false] (fun i => ?_) (fun hD480 => ?_)
    · obtain ⟨g157, g205⟩ := i
      refine D.to (s' := [(1, .pointer (some ⟨g1, 0, none⟩)), (5, .pointer (some ⟨g157, 0, none⟩)), (7, .pointer (some ⟨g205, 0, none⟩)), (15, .agg #[.int .u64 a0_1, .int .i64 a0_2, .string a0_3, .string a0_4]), (17, .agg #[.int .u64 a0_5, .int .i64 a0_6, .int .i64 a0_7, .int .i64 a0_8, .string a0_9]), (19, .agg #[.int .i64 a0_10, .int .i64 a0_11, .int .i64 a0_12, .int .u32 a0_13])]) (G' := cells g157 27 [.int .u64 0, .int .i64 0, .string ByteArray.empty, .string ByteArray.empty] :: cells g205 34 [.int .i64 0, .int .i64 0, .int .i64 0, .int .u32 0] :: cells g1 36 [.int .i64 a0_0, .int .u64 a0_1, .int .i64 a0_2, .string a0_3, .string a0_4, .int .u64 a0_5, .int .i64 a0_6, .int .i64 a0_7, .int .i64 a0_8, .string a0_9, .int .i64 a0_10, .int .i64 a0_11, .int .i64 a0_12, .int .u32 a0_13] :: G) (by exact ⟨rfl, rfl, rfl, rfl, rfl, rfl, trivial⟩) (fun w h => h) ?_
      refine D.any [7] (by kernel_rfl) rfl ⟨?_, trivial⟩
      refine DW.j (ls' := [true, true, true, true, true, true, true, true, true, false, false, false]) rfl rfl ?_
      refine J.alloc (L := [.int .u64 0, .int .i64 0, .int .i64 0, .int .i64 0, .string ByteArray.empty]) rfl ti29 rfl (fun g181 => ?_)
      refine J.nil ?_
      refine D.backK 3 rfl ?_
      exact D.to (by exact ⟨rfl, rfl, rfl, rfl, rfl, rfl, rfl, trivial⟩) (fun w h => (St.pick [1, 0, 2, 3] [_, _, _, _] h rfl)) (hD478 (g157, g181, g205))
    refine D.share (fun (i : Nat × Nat) => [(1, .pointer (some ⟨g1, 0, none⟩)), (6, .pointer (some ⟨i.1, 0, none⟩)), (7, .pointer (some ⟨i.2, 0, none⟩)), (15, .agg #[.int .u64 a0_1, .int .i64 a0_2, .string a0_3, .string a0_4]), (17, .agg #[.int .u64 a0_5, .int .i64 a0_6, .int .i64 a0_7, .int .i64 a0_8, .string a0_9]), (19, .agg #[.int .i64 a0_10, .int .i64 a0_11, .int .i64 a0_12, .int .u32 a0_13])]) (fun (i : Nat × Nat) => cells i.1 29 [.int .u64 0, .int .i64 0, .int .i64 0, .int .i64 0, .string ByteArray.empty] :: cells i.2 34 [.int .i64 0, .int .i64 0, .int .i64 0, .int .u32 0] :: cells g1 36 [.int .i64 a0_0, .int .u64 a0_1, .int .i64 a0_2, .string a0_3, .string a0_4, .int .u64 a0_5, .int .i64 a0_6, .int .i64 a0_7, .int .i64 a0_8, .string a0_9, .int .i64 a0_10, .int .i64 a0_11, .int .i64 a0_12, .int .u32 a0_13] :: G) 4 [true, true, true, true, true, true, false, true, true, false, false, false] (fun i => ?_) (fun hD481 => ?_)
    · obtain ⟨g181, g205⟩ := i
      refine D.to (s' := [(1, .pointer (some ⟨g1, 0, none⟩)), (6, .pointer (some ⟨g181, 0, none⟩)), (7, .pointer (some ⟨g205, 0, none⟩)), (15, .agg #[.int .u64 a0_1, .int .i64 a0_2, .string a0_3, .string a0_4]), (17, .agg #[.int .u64 a0_5, .int .i64 a0_6, .int .i64 a0_7, .int .i64 a0_8, .string a0_9]), (19, .agg #[.int .i64 a0_10, .int .i64 a0_11, .int .i64 a0_12, .int .u32 a0_13])]) (G' := cells g181 29 [.int .u64 0, .int .i64 0, .int .i64 0, .int .i64 0, .string ByteArray.empty] :: cells g205 34 [.int .i64 0, .int .i64 0, .int .i64 0, .int .u32 0] :: cells g1 36 [.int .i64 a0_0, .int .u64 a0_1, .int .i64 a0_2, .string a0_3, .string a0_4, .int .u64 a0_5, .int .i64 a0_6, .int .i64 a0_7, .int .i64 a0_8, .string a0_9, .int .i64 a0_10, .int .i64 a0_11, .int .i64 a0_12, .int .u32 a0_13] :: G) (by exact ⟨rfl, rfl, rfl, rfl, rfl, rfl, trivial⟩) (fun w h => h) ?_
      refine D.any [6] (by kernel_rfl) rfl ⟨?_, trivial⟩
      refine DW.j (ls' := [true, true, true, true, true, true, true, true, true, false, false, false]) rfl rfl ?_
      refine J.alloc (L := [.int .u64 0, .int .i64 0, .string ByteArray.empty, .string ByteArray.empty]) rfl ti27 rfl (fun g157 => ?_)
      refine J.nil ?_
      refine D.backK 3 rfl ?_
      exact D.to (by exact ⟨rfl, rfl, rfl, rfl, rfl, rfl, rfl, trivial⟩) (fun w h => h) (hD478 (g157, g181, g205))
    refine D.share (fun (i : Nat) => [(1, .pointer (some ⟨g1, 0, none⟩)), (5, .pointer (some ⟨i, 0, none⟩)), (15, .agg #[.int .u64 a0_1, .int .i64 a0_2, .string a0_3, .string a0_4]), (17, .agg #[.int .u64 a0_5, .int .i64 a0_6, .int .i64 a0_7, .int .i64 a0_8, .string a0_9]), (19, .agg #[.int .i64 a0_10, .int .i64 a0_11, .int .i64 a0_12, .int .u32 a0_13])]) (fun (i : Nat) => cells i 27 [.int .u64 0, .int .i64 0, .string ByteArray.empty, .string ByteArray.empty] :: cells g1 36 [.int .i64 a0_0, .int .u64 a0_1, .int .i64 a0_2, .string a0_3, .string a0_4, .int .u64 a0_5, .int .i64 a0_6, .int .i64 a0_7, .int .i64 a0_8, .string a0_9, .int .i64 a0_10, .int .i64 a0_11, .int .i64 a0_12, .int .u32 a0_13] :: G) 5 [true, true, true, true, true, true, true, false, false, false, false, false] (fun g157 => ?_) (fun hD482 => ?_)
    · refine D.to (s' := [(1, .pointer (some ⟨g1, 0, none⟩)), (5, .pointer (some ⟨g157, 0, none⟩)), (15, .agg #[.int .u64 a0_1, .int .i64 a0_2, .string a0_3, .string a0_4]), (17, .agg #[.int .u64 a0_5, .int .i64 a0_6, .int .i64 a0_7, .int .i64 a0_8, .string a0_9]), (19, .agg #[.int .i64 a0_10, .int .i64 a0_11, .int .i64 a0_12, .int .u32 a0_13])]) (G' := cells g157 27 [.int .u64 0, .int .i64 0, .string ByteArray.empty, .string ByteArray.empty] :: cells g1 36 [.int .i64 a0_0, .int .u64 a0_1, .int .i64 a0_2, .string a0_3, .string a0_4, .int .u64 a0_5, .int .i64 a0_6, .int .i64 a0_7, .int .i64 a0_8, .string a0_9, .int .i64 a0_10, .int .i64 a0_11, .int .i64 a0_12, .int .u32 a0_13] :: G) (by exact ⟨rfl, rfl, rfl, rfl, rfl, trivial⟩) (fun w h => h) ?_
      refine D.any [7, 8] (by kernel_rfl) rfl ⟨?_, ?_, trivial⟩
      · refine DW.j (ls' := [true, true, true, true, true, true, true, true, false, false, false, false]) rfl rfl ?_
        refine J.alloc (L := [.int .u64 0, .int .i64 0, .int .i64 0, .int .i64 0, .string ByteArray.empty]) rfl ti29 rfl (fun g181 => ?_)
        refine J.nil ?_
        refine D.backK 2 rfl ?_
        exact D.to (by exact ⟨rfl, rfl, rfl, rfl, rfl, rfl, trivial⟩) (fun w h => (St.pick [1, 0, 2] [_, _, _] h rfl)) (hD479 (g157, g181))
      · refine DW.j (ls' := [true, true, true, true, true, true, true, false, true, false, false, false]) rfl rfl ?_
        refine J.alloc (L := [.int .i64 0, .int .i64 0, .int .i64 0, .int .u32 0]) rfl ti34 rfl (fun g205 => ?_)
        refine J.nil ?_
        refine D.backK 2 rfl ?_
        exact D.to (by exact ⟨rfl, rfl, rfl, rfl, rfl, rfl, trivial⟩) (fun w h => (St.pick [1, 0, 2] [_, _, _] h rfl)) (hD480 (g157, g205))
    refine D.share (fun (i : Nat) => [(1, .pointer (some ⟨g1, 0, none⟩)), (6, .pointer (some ⟨i, 0, none⟩)), (15, .agg #[.int .u64 a0_1, .int .i64 a0_2, .string a0_3, .string a0_4]), (17, .agg #[.int .u64 a0_5, .int .i64 a0_6, .int .i64 a0_7, .int .i64 a0_8, .string a0_9]), (19, .agg #[.int .i64 a0_10, .int .i64 a0_11, .int .i64 a0_12, .int .u32 a0_13])]) (fun (i : Nat) => cells i 29 [.int .u64 0, .int .i64 0, .int .i64 0, .int .i64 0, .string ByteArray.empty] :: cells g1 36 [.int .i64 a0_0, .int .u64 a0_1, .int .i64 a0_2, .string a0_3, .string a0_4, .int .u64 a0_5, .int .i64 a0_6, .int .i64 a0_7, .int .i64 a0_8, .string a0_9, .int .i64 a0_10, .int .i64 a0_11, .int .i64 a0_12, .int .u32 a0_13] :: G) 5 [true, true, true, true, true, true, false, true, false, false, false, false] (fun g181 => ?_) (fun hD483 => ?_)
    · refine D.to (s' := [(1, .pointer (some ⟨g1, 0, none⟩)), (6, .pointer (some ⟨g181, 0, none⟩)), (15, .agg #[.int .u64 a0_1, .int .i64 a0_2, .string a0_3, .string a0_4]), (17, .agg #[.int .u64 a0_5, .int .i64 a0_6, .int .i64 a0_7, .int .i64 a0_8, .string a0_9]), (19, .agg #[.int .i64 a0_10, .int .i64 a0_11, .int .i64 a0_12, .int .u32 a0_13])]) (G' := cells g181 29 [.int .u64 0, .int .i64 0, .int .i64 0, .int .i64 0, .string ByteArray.empty] :: cells g1 36 [.int .i64 a0_0, .int .u64 a0_1, .int .i64 a0_2, .string a0_3, .string a0_4, .int .u64 a0_5, .int .i64 a0_6, .int .i64 a0_7, .int .i64 a0_8, .string a0_9, .int .i64 a0_10, .int .i64 a0_11, .int .i64 a0_12, .int .u32 a0_13] :: G) (by exact ⟨rfl, rfl, rfl, rfl, rfl, trivial⟩) (fun w h => h) ?_
      refine D.any [6, 8] (by kernel_rfl) rfl ⟨?_, ?_, trivial⟩
      · refine DW.j (ls' := [true, true, true, true, true, true, true, true, false, false, false, false]) rfl rfl ?_
        refine J.alloc (L := [.int .u64 0, .int .i64 0, .string ByteArray.empty, .string ByteArray.empty]) rfl ti27 rfl (fun g157 => ?_)
        refine J.nil ?_
        refine D.backK 2 rfl ?_
        exact D.to (by exact ⟨rfl, rfl, rfl, rfl, rfl, rfl, trivial⟩) (fun w h => h) (hD479 (g157, g181))
      · refine DW.j (ls' := [true, true, true, true, true, true, false, true, true, false, false, false]) rfl rfl ?_
        refine J.alloc (L := [.int .i64 0, .int .i64 0, .int .i64 0, .int .u32 0]) rfl ti34 rfl (fun g205 => ?_)
        refine J.nil ?_
        refine D.backK 2 rfl ?_
        exact D.to (by exact ⟨rfl, rfl, rfl, rfl, rfl, rfl, trivial⟩) (fun w h => (St.pick [1, 0, 2] [_, _, _] h rfl)) (hD481 (g181, g205))
    refine D.share (fun (i : Nat) => [(1, .pointer (some ⟨g1, 0, none⟩)), (7, .pointer (some ⟨i, 0, none⟩)), (15, .agg #[.int .u64 a0_1, .int .i64 a0_2, .string a0_3, .string a0_4]), (17, .agg #[.int .u64 a0_5, .int .i64 a0_6, .int .i64 a0_7, .int .i64 a0_8, .string a0_9]), (19, .agg #[.int .i64 a0_10, .int .i64 a0_11, .int .i64 a0_12, .int .u32 a0_13])]) (fun (i : Nat) => cells i 34 [.int .i64 0, .int .i64 0, .int .i64 0, .int .u32 0] :: cells g1 36 [.int .i64 a0_0, .int .u64 a0_1, .int .i64 a0_2, .string a0_3, .string a0_4, .int .u64 a0_5, .int .i64 a0_6, .int .i64 a0_7, .int .i64 a0_8, .string a0_9, .int .i64 a0_10, .int .i64 a0_11, .int .i64 a0_12, .int .u32 a0_13] :: G) 5 [true, true, true, true, true, true, false, false, true, false, false, false] (fun g205 => ?_) (fun hD484 => ?_)
    · refine D.to (s' := [(1, .pointer (some ⟨g1, 0, none⟩)), (7, .pointer (some ⟨g205, 0, none⟩)), (15, .agg #[.int .u64 a0_1, .int .i64 a0_2, .string a0_3, .string a0_4]), (17, .agg #[.int .u64 a0_5, .int .i64 a0_6, .int .i64 a0_7, .int .i64 a0_8, .string a0_9]), (19, .agg #[.int .i64 a0_10, .int .i64 a0_11, .int .i64 a0_12, .int .u32 a0_13])]) (G' := cells g205 34 [.int .i64 0, .int .i64 0, .int .i64 0, .int .u32 0] :: cells g1 36 [.int .i64 a0_0, .int .u64 a0_1, .int .i64 a0_2, .string a0_3, .string a0_4, .int .u64 a0_5, .int .i64 a0_6, .int .i64 a0_7, .int .i64 a0_8, .string a0_9, .int .i64 a0_10, .int .i64 a0_11, .int .i64 a0_12, .int .u32 a0_13] :: G) (by exact ⟨rfl, rfl, rfl, rfl, rfl, trivial⟩) (fun w h => h) ?_
      refine D.any [6, 7] (by kernel_rfl) rfl ⟨?_, ?_, trivial⟩
      · refine DW.j (ls' := [true, true, true, true, true, true, true, false, true, false, false, false]) rfl rfl ?_
        refine J.alloc (L := [.int .u64 0, .int .i64 0, .string ByteArray.empty, .string ByteArray.empty]) rfl ti27 rfl (fun g157 => ?_)
        refine J.nil ?_
        refine D.backK 2 rfl ?_
        exact D.to (by exact ⟨rfl, rfl, rfl, rfl, rfl, rfl, trivial⟩) (fun w h => h) (hD480 (g157, g205))
      · refine DW.j (ls' := [true, true, true, true, true, true, false, true, true, false, false, false]) rfl rfl ?_
        refine J.alloc (L := [.int .u64 0, .int .i64 0, .int .i64 0, .int .i64 0, .string ByteArray.empty]) rfl ti29 rfl (fun g181 => ?_)
        refine J.nil ?_
        refine D.backK 2 rfl ?_
        exact D.to (by exact ⟨rfl, rfl, rfl, rfl, rfl, rfl, trivial⟩) (fun w h => h) (hD481 (g181, g205))
    refine D.any [6, 7, 8] (by kernel_rfl) rfl ⟨?_, ?_, ?_, trivial⟩
    · refine DW.j (ls' := [true, true, true, true, true, true, true, false, false, false, false, false]) rfl rfl ?_
      refine J.alloc (L := [.int .u64 0, .int .i64 0, .string ByteArray.empty, .string ByteArray.empty]) rfl ti27 rfl (fun g157 => ?_)
      refine J.nil ?_
      refine D.backK 1 rfl ?_
      exact D.to (by exact ⟨rfl, rfl, rfl, rfl, rfl, trivial⟩) (fun w h => h) (hD482 g157)
    · refine DW.j (ls' := [true, true, true, true, true, true, false, true, false, false, false, false]) rfl rfl ?_
      refine J.alloc (L := [.int .u64 0, .int .i64 0, .int .i64 0, .int .i64 0, .string ByteArray.empty]) rfl ti29 rfl (fun g181 => ?_)
      refine J.nil ?_
      refine D.backK 1 rfl ?_
      exact D.to (by exact ⟨rfl, rfl, rfl, rfl, rfl, trivial⟩) (fun w h => h) (hD483 g181)
    · refine DW.j (ls' := [true, true, true, true, true, true, false, false, true, false, false, false]) rfl rfl ?_
      refine J.alloc (L := [.int .i64 0, .int .i64 0, .int .i64 0, .int .u32 0]) rfl ti34 rfl (fun g205 => ?_)
      refine J.nil ?_
      refine D.backK 1 rfl ?_
      exact D.to (by exact ⟨rfl, rfl, rfl, rfl, rfl, trivial⟩) (fun w h => h) (hD484 g205)
/-! ### salvor/frame.Encode: function 18 -/
def fEncode.f (K : Nat) (a0_0 : Int) (a0_1 : Int) (a0_2 : Int) (a0_3 : ByteArray) (a0_4 : ByteArray) (a0_5 : Int) (a0_6 : Int) (a0_7 : Int) (a0_8 : Int) (a0_9 : ByteArray) (a0_10 : Int) (a0_11 : Int) (a0_12 : Int) (a0_13 : Int) : Option ((List Int) × Int) := (fBody.f K a0_0 a0_1 a0_2 a0_3 a0_4 a0_5 a0_6 a0_7 a0_8 a0_9 a0_10 a0_11 a0_12 a0_13).bind fun t3 => if t3.2 ≠ 0 then (some (([] : List Int), t3.2)) else ((Wrap.f K t3.1).bind fun t11 => (Digits.f K (IntKind.wrap .u64 (t11.length : Int)) 3).bind fun t16 => if t16.2 ≠ 0 then (some (([] : List Int), 40)) else ((Sum.f K [t16.1, t11]).bind fun t29 => (Digits.f K (IntKind.wrap .u64 t29) 5).bind fun t31 => gd (([167].length + t16.1.length) * 1 ≤ 140737488355328) (gd ((([167] ++ t16.1).length + t11.length) * 1 ≤ 140737488355328) (gd (((([167] ++ t16.1) ++ t11).length + t31.1.length) * 1 ≤ 140737488355328) (some (((([167] ++ t16.1) ++ t11) ++ t31.1), 0))))))
theorem fEncode.calls {B : Nat} {w0 : World} {G : List HP} (K : Nat) (a0_0 : Int) (a0_1 : Int) (a0_2 : Int) (a0_3 : ByteArray) (a0_4 : ByteArray) (a0_5 : Int) (a0_6 : Int) (a0_7 : Int) (a0_8 : Int) (a0_9 : ByteArray) (a0_10 : Int) (a0_11 : Int) (a0_12 : Int) (a0_13 : Int) (r : (List Int) × Int) (H : fEncode.f K a0_0 a0_1 a0_2 a0_3 a0_4 a0_5 a0_6 a0_7 a0_8 a0_9 a0_10 a0_11 a0_12 a0_13 = some r) (w : World) (hw : St B w0 (G) w) :
    Calls Try.prog 18 [.agg #[.int .i64 a0_0, .int .u64 a0_1, .int .i64 a0_2, .string a0_3, .string a0_4, .int .u64 a0_5, .int .i64 a0_6, .int .i64 a0_7, .int .i64 a0_8, .string a0_9, .int .i64 a0_10, .int .i64 a0_11, .int .i64 a0_12, .int .u32 a0_13]].toArray w (fun e w' => ∃ A0 c0, e = .returned (.tuple #[.slice A0 r.1.length c0, .int .i64 r.2]) ∧ St B w0 (own 5 1 A0 c0 (r.1.map (Value.int .u8)) :: G) w') := by
  unfold fEncode.f at H
  refine calls_of (n := 48) (s := [(0, .agg #[.int .i64 a0_0, .int .u64 a0_1, .int .i64 a0_2, .string a0_3, .string a0_4, .int .u64 a0_5, .int .i64 a0_6, .int .i64 a0_7, .int .i64 a0_8, .string a0_9, .int .i64 a0_10, .int .i64 a0_11, .int .i64 a0_12, .int .u32 a0_13])]) Try.func18 rfl rfl rfl rfl ?_ hw
  refine C.rs ?_
  refine J.box (L := [.int .i64 a0_0, .int .u64 a0_1, .int .i64 a0_2, .string a0_3, .string a0_4, .int .u64 a0_5, .int .i64 a0_6, .int .i64 a0_7, .int .i64 a0_8, .string a0_9, .int .i64 a0_10, .int .i64 a0_11, .int .i64 a0_12, .int .u32 a0_13]) rfl rfl rfl (fun g1 => ?_)
  refine J.p rfl rfl rfl rfl (Y.asg rfl) ?_
  refine J.p rfl rfl rfl rfl (Y.asg rfl) ?_
  refine J.nx ?_
  refine C.rs ?_
  refine J.r rfl rfl rfl rfl (Y.ldCA (us := [.int .i64 a0_0, .int .u64 a0_1, .int .i64 a0_2, .string a0_3, .string a0_4, .int .u64 a0_5, .int .i64 a0_6, .int .i64 a0_7, .int .i64 a0_8, .string a0_9, .int .i64 a0_10, .int .i64 a0_11, .int .i64 a0_12, .int .u32 a0_13]) 0 Try.underlying36 rfl ti36 rfl rfl rfl rfl) ?_
  obtain ⟨t3, hC4, H⟩ := bind_some H
  refine J.call (us := []) (cap := []) rfl rfl rfl go20 (fun w hw => by have hcc := fBody.calls K a0_0 a0_1 a0_2 a0_3 a0_4 a0_5 a0_6 a0_7 a0_8 a0_9 a0_10 a0_11 a0_12 a0_13 t3 hC4 w hw; exact hcc) (fun e w1 h1 => ?_)
  obtain ⟨A5, c6, rfl, hw54⟩ := h1
  refine ⟨_, _, rfl, hw54, ?_⟩
  refine J.p rfl rfl rfl rfl (Y.mv rfl) ?_
  refine J.p rfl rfl rfl rfl (Y.ext rfl rfl) ?_
  refine J.p rfl rfl rfl rfl (Y.ext rfl rfl) ?_
  refine J.p rfl rfl rfl rfl (Y.asg rfl) ?_
  refine J.p rfl rfl rfl rfl (Y.asg rfl) ?_
  refine J.nx ?_
  refine C.seq ?_
  refine C.rs ?_
  refine J.p rfl rfl rfl rfl (Y.mv rfl) ?_
  refine J.p rfl rfl rfl rfl (Y.bin rfl rfl rfl) ?_
  refine J.nx ?_
  refine split2 H (fun c8 H => ?_) (fun c8 H => ?_)
  · refine C.condT (congrArg (fun b => some (Value.bool b)) (decide_eq_true c8)) ?_
    refine C.rs ?_
    refine J.p rfl rfl rfl rfl (Y.mv rfl) ?_
    refine J.p rfl rfl rfl rfl (Y.asg rfl) ?_
    refine J.p rfl rfl rfl rfl (Y.asg rfl) ?_
    refine J.nx ?_
    refine C.ret ?_
    obtain rfl := Option.some.inj H
    refine T.th ?_
    exact ret_ok (ks := [2, 3]) rfl rfl (fun w h => ⟨none, 0, rfl, (St.pick [0] [_, _, _] (h.nilOwn 5 1) rfl)⟩)
  · refine C.condF (congrArg (fun b => some (Value.bool b)) (decide_eq_false c8)) ?_
    refine C.skip ?_
    refine N.nx ?_
    refine C.rs ?_
    refine J.p rfl rfl rfl rfl (Y.mv rfl) ?_
    refine J.know (own_leL 0 rfl) (fun hc10 => ?_)
    obtain ⟨t11, hC12, H⟩ := bind_some H
    refine J.call (us := []) (cap := []) rfl rfl rfl go43 (fun w hw => by have hcc := Wrap.calls K t3.1 A5 c6 (RdG.own 0 rfl) hc10 t11 hC12 w hw; exact hcc) (fun e w1 h1 => ?_)
    obtain ⟨A13, c14, rfl, hw53⟩ := h1
    refine ⟨_, _, rfl, hw53, ?_⟩
    refine J.p rfl rfl rfl rfl (Y.asg rfl) ?_
    refine J.nx ?_
    refine C.rs ?_
    refine J.p rfl rfl rfl rfl (Y.mv rfl) ?_
    refine J.p rfl rfl rfl rfl (Y.lenS Try.underlying22 rfl) ?_
    refine J.p rfl rfl rfl rfl (Y.conv Try.underlying3 Try.underlying25 rfl) ?_
    obtain ⟨t16, hC17, H⟩ := bind_some H
    refine J.call (us := []) (cap := []) rfl rfl rfl go44 (fun w hw => by have hcc := Digits.calls K (IntKind.wrap .u64 (t11.length : Int)) 3 t16 hC17 w hw; exact hcc) (fun e w1 h1 => ?_)
    obtain ⟨A18, c19, rfl, hw52⟩ := h1
    refine ⟨_, _, rfl, hw52, ?_⟩
    refine J.p rfl rfl rfl rfl (Y.mv rfl) ?_
    refine J.p rfl rfl rfl rfl (Y.ext rfl rfl) ?_
    refine J.p rfl rfl rfl rfl (Y.ext rfl rfl) ?_
    refine J.p rfl rfl rfl rfl (Y.asg rfl) ?_
    refine J.p rfl rfl rfl rfl (Y.asg rfl) ?_
    refine J.nx ?_
    refine C.seq ?_
    refine C.rs ?_
    refine J.p rfl rfl rfl rfl (Y.mv rfl) ?_
    refine J.p rfl rfl rfl rfl (Y.bin rfl rfl rfl) ?_
    refine J.nx ?_
    refine split2 H (fun c21 H => ?_) (fun c21 H => ?_)
    · refine C.condT (congrArg (fun b => some (Value.bool b)) (decide_eq_true c21)) ?_
      refine C.rs ?_
      refine J.p rfl rfl rfl rfl (Y.asg rfl) ?_
      refine J.p rfl rfl rfl rfl (Y.asg rfl) ?_
      refine J.nx ?_
      refine C.ret ?_
      obtain rfl := Option.some.inj H
      refine T.th ?_
      exact ret_ok (ks := [2, 3]) rfl rfl (fun w h => ⟨none, 0, rfl, (St.pick [0] [_, _, _, _, _] (h.nilOwn 5 1) rfl)⟩)
    · refine C.condF (congrArg (fun b => some (Value.bool b)) (decide_eq_false c21)) ?_
      refine C.skip ?_
      refine N.nx ?_
      refine C.rs ?_
      refine J.p rfl rfl rfl rfl (Y.mv rfl) ?_
      refine J.p rfl rfl rfl rfl (Y.mv rfl) ?_
      refine J.know (own_leL 0 rfl) (fun hc24 => ?_)
      refine J.know (own_leL 1 rfl) (fun hc25 => ?_)
      refine J.bsV (L := [.slice A18 t16.1.length c19, .slice A13 t11.length c14]) rfl Try.underlying56 ti22 rfl rfl rfl rfl rfl (fun A23 => ?_)
      refine J.know (own_leL 2 rfl) (fun hc27 => ?_)
      refine J.know (own_leL 1 rfl) (fun hc28 => ?_)
      obtain ⟨t29, hC30, H⟩ := bind_some H
      refine J.call (us := []) (cap := []) rfl rfl rfl go19 (fun w hw => by have hcc := Sum.calls K [t16.1, t11] A23 2 [.slice A18 t16.1.length c19, .slice A13 t11.length c14] (RdG.own 0 rfl) (VV.cons (RdG.own 1 rfl) hc28 (VV.cons (RdG.own 2 rfl) hc27 VV.nil)) (Nat.le_refl _) t29 hC30 w hw; exact hcc) (fun e w1 h1 => ?_)
      obtain ⟨rfl, hw51⟩ := h1
      refine ⟨_, _, rfl, hw51, ?_⟩
      refine J.p rfl rfl rfl rfl (Y.conv Try.underlying30 Try.underlying25 rfl) ?_
      obtain ⟨t31, hC32, H⟩ := bind_some H
      refine J.call (us := []) (cap := []) rfl rfl rfl go44 (fun w hw => by have hcc := Digits.calls K (IntKind.wrap .u64 t29) 5 t31 hC32 w hw; exact hcc) (fun e w1 h1 => ?_)
      obtain ⟨A33, c34, rfl, hw50⟩ := h1
      refine ⟨_, _, rfl, hw50, ?_⟩
      refine J.p rfl rfl rfl rfl (Y.mv rfl) ?_
      refine J.p rfl rfl rfl rfl (Y.ext rfl rfl) ?_
      refine J.p rfl rfl rfl rfl (Y.ext rfl rfl) ?_
      refine J.p rfl rfl rfl rfl (Y.asg rfl) ?_
      refine J.p rfl rfl rfl rfl (Y.asg rfl) ?_
      refine J.nx ?_
      refine C.rs ?_
      refine J.bsL (enc := (Value.int .u8)) (xs := [167]) rfl Try.underlying22 ti5 rfl rfl rfl rfl rfl (fun A36 => ?_)
      refine J.p rfl rfl rfl rfl (Y.mv rfl) ?_
      obtain ⟨p40, H⟩ := gd_some H
      refine J.appL (enc := (Value.int .u8)) (xs := [167]) (ys := t16.1) rfl Try.underlying22 ti5 rfl (by decide) rfl rfl (fun _ => rfl) (RdG.own 3 rfl) p40 (fun A38 c39 => ?_)
      refine J.pull 3 rfl rfl (J.drop ?_)
      refine J.p rfl rfl rfl rfl (Y.asg rfl) ?_
      refine J.nx ?_
      refine C.rs ?_
      refine J.p rfl rfl rfl rfl (Y.mv rfl) ?_
      refine J.p rfl rfl rfl rfl (Y.mv rfl) ?_
      obtain ⟨p44, H⟩ := gd_some H
      refine J.appL (enc := (Value.int .u8)) (xs := ([167] ++ t16.1)) (ys := t11) rfl Try.underlying22 ti5 rfl (by decide) rfl rfl (fun _ => rfl) (RdG.own 3 rfl) p44 (fun A42 c43 => ?_)
      refine J.pull 3 rfl rfl (J.drop ?_)
      refine J.p rfl rfl rfl rfl (Y.asg rfl) ?_
      refine J.nx ?_
      refine C.rs ?_
      refine J.p rfl rfl rfl rfl (Y.mv rfl) ?_
      refine J.p rfl rfl rfl rfl (Y.mv rfl) ?_
      obtain ⟨p48, H⟩ := gd_some H
      refine J.appL (enc := (Value.int .u8)) (xs := (([167] ++ t16.1) ++ t11)) (ys := t31.1) rfl Try.underlying22 ti5 rfl (by decide) rfl rfl (fun _ => rfl) (RdG.own 1 rfl) p48 (fun A46 c47 => ?_)
      refine J.pull 1 rfl rfl (J.drop ?_)
      refine J.p rfl rfl rfl rfl (Y.asg rfl) ?_
      refine J.p rfl rfl rfl rfl (Y.asg rfl) ?_
      refine J.nx ?_
      refine C.ret ?_
      obtain rfl := Option.some.inj H
      exact ret_ok (ks := [2, 3]) rfl rfl (fun w h => ⟨A46, c47, rfl, (St.pick [0] [_, _, _, _] h rfl)⟩)
end Go.Proofs.Ytakolnamobkkkaa
