/- Own text, printed by the lifting program: each Go function beside a plain function, and the proof that a call of the one comes to the other. Conditions: what came in can be read. -/
import Derived.Test.YtakolnamobkkkaaLiftK
set_option linter.unusedVariables false
set_option linter.unusedSimpArgs false
set_option maxRecDepth 10000
set_option maxHeartbeats 4000000
namespace Go.Proofs.Ytakolnamobkkkaa
open Go Go.Sx
theorem go19 : GoF Try.prog 19 := GoF.of Try.func19 (by kernel_rfl) (by kernel_rfl)
theorem go20 : GoF Try.prog 20 := GoF.of Try.func20 (by kernel_rfl) (by kernel_rfl)
theorem go43 : GoF Try.prog 43 := GoF.of Try.func43 (by kernel_rfl) (by kernel_rfl)
theorem go44 : GoF Try.prog 44 := GoF.of Try.func44 (by kernel_rfl) (by kernel_rfl)
theorem go46 : GoF Try.prog 46 := GoF.of Try.func46 (by kernel_rfl) (by kernel_rfl)
theorem go47 : GoF Try.prog 47 := GoF.of Try.func47 (by kernel_rfl) (by kernel_rfl)
/-! ### salvor/frame.Body: function 20 -/
def fBody.f (K : Nat) (a0_0 : Int) (a0_1 : Int) (a0_2 : Int) (a0_3 : ByteArray) (a0_4 : ByteArray) (a0_5 : Int) (a0_6 : Int) (a0_7 : Int) (a0_8 : Int) (a0_9 : ByteArray) (a0_10 : Int) (a0_11 : Int) (a0_12 : Int) (a0_13 : Int) : Option ((List Int) × Int) := (check.f a0_0 a0_1 a0_2 a0_3 a0_4 a0_5 a0_6 a0_7 a0_8 a0_9 a0_10 a0_11 a0_12 a0_13).bind fun t3 => if t3 ≠ 0 then (some (([] : List Int), t3)) else ((if a0_0 = 1 then ((Encode.f K [a0_1, IntKind.wrap .u64 (a0_3.size : Int)]).bind fun t114 => gd (([IntKind.wrap .u8 a0_0].length + t114.length) * 1 ≤ 140737488355328) (gd (a0_3.size + a0_4.size ≤ 9223372036854775807) (gd ((([IntKind.wrap .u8 a0_0] ++ t114).length + (a0_3 ++ a0_4).size) * 1 ≤ 140737488355328) (some (([IntKind.wrap .u8 a0_0] ++ t114) ++ bytesOf (a0_3 ++ a0_4)))))) else (if a0_0 = 2 then ((Encode.f K [a0_1]).bind fun t132 => gd (([IntKind.wrap .u8 a0_0].length + t132.length) * 1 ≤ 140737488355328) (gd ((([IntKind.wrap .u8 a0_0] ++ t132).length + a0_3.size) * 1 ≤ 140737488355328) (some (([IntKind.wrap .u8 a0_0] ++ t132) ++ bytesOf a0_3)))) else (if a0_0 = 3 then ((Encode.f K [a0_5]).bind fun t149 => gd (([IntKind.wrap .u8 a0_0].length + t149.length) * 1 ≤ 140737488355328) (gd ((([IntKind.wrap .u8 a0_0] ++ t149).length + [IntKind.wrap .u8 a0_6].length) * 1 ≤ 140737488355328) ((Encode.f K [IntKind.wrap .u64 a0_7, IntKind.wrap .u64 a0_8]).bind fun t166 => gd (((([IntKind.wrap .u8 a0_0] ++ t149) ++ [IntKind.wrap .u8 a0_6]).length + t166.length) * 1 ≤ 140737488355328) (gd ((((([IntKind.wrap .u8 a0_0] ++ t149) ++ [IntKind.wrap .u8 a0_6]) ++ t166).length + a0_9.size) * 1 ≤ 140737488355328) (some (((([IntKind.wrap .u8 a0_0] ++ t149) ++ [IntKind.wrap .u8 a0_6]) ++ t166) ++ bytesOf a0_9)))))) else (if a0_0 = 4 then ((Encode.f K [IntKind.wrap .u64 a0_10, IntKind.wrap .u64 a0_11, IntKind.wrap .u64 a0_12, IntKind.wrap .u64 a0_13]).bind fun t184 => gd (([IntKind.wrap .u8 a0_0].length + t184.length) * 1 ≤ 140737488355328) (some ([IntKind.wrap .u8 a0_0] ++ t184))) else (some [IntKind.wrap .u8 a0_0]))))).bind fun o108 => some (o108, 0))
theorem fBody.calls {B : Nat} {w0 : World} {G : List HP} (K : Nat) (a0_0 : Int) (a0_1 : Int) (a0_2 : Int) (a0_3 : ByteArray) (a0_4 : ByteArray) (a0_5 : Int) (a0_6 : Int) (a0_7 : Int) (a0_8 : Int) (a0_9 : ByteArray) (a0_10 : Int) (a0_11 : Int) (a0_12 : Int) (a0_13 : Int) (r : (List Int) × Int) (H : fBody.f K a0_0 a0_1 a0_2 a0_3 a0_4 a0_5 a0_6 a0_7 a0_8 a0_9 a0_10 a0_11 a0_12 a0_13 = some r) (w : World) (hw : St B w0 (G) w) :
    Calls Try.prog 20 [.agg #[.int .i64 a0_0, .int .u64 a0_1, .int .i64 a0_2, .string a0_3, .string a0_4, .int .u64 a0_5, .int .i64 a0_6, .int .i64 a0_7, .int .i64 a0_8, .string a0_9, .int .i64 a0_10, .int .i64 a0_11, .int .i64 a0_12, .int .u32 a0_13]].toArray w (fun e w' => ∃ A0 c0, e = .returned (.tuple #[.slice A0 r.1.length c0, .int .i64 r.2]) ∧ St B w0 (own 5 1 A0 c0 (r.1.map (Value.int .u8)) :: G) w') := by
  unfold fBody.f at H
  refine calls_of (n := 107) (s := [(0, .agg #[.int .i64 a0_0, .int .u64 a0_1, .int .i64 a0_2, .string a0_3, .string a0_4, .int .u64 a0_5, .int .i64 a0_6, .int .i64 a0_7, .int .i64 a0_8, .string a0_9, .int .i64 a0_10, .int .i64 a0_11, .int .i64 a0_12, .int .u32 a0_13])]) Try.func20 rfl rfl rfl rfl ?_ hw
  refine C.rs ?_
  refine J.box (L := [.int .i64 a0_0, .int .u64 a0_1, .int .i64 a0_2, .string a0_3, .string a0_4, .int .u64 a0_5, .int .i64 a0_6, .int .i64 a0_7, .int .i64 a0_8, .string a0_9, .int .i64 a0_10, .int .i64 a0_11, .int .i64 a0_12, .int .u32 a0_13]) rfl rfl rfl (fun g1 => ?_)
  refine J.p rfl rfl rfl rfl (Y.asg rfl) ?_
  refine J.p rfl rfl rfl rfl (Y.asg rfl) ?_
  refine J.nx ?_
  refine C.seq ?_
  refine C.rs ?_
  refine J.r rfl rfl rfl rfl (Y.ldCA (us := [.int .i64 a0_0, .int .u64 a0_1, .int .i64 a0_2, .string a0_3, .string a0_4, .int .u64 a0_5, .int .i64 a0_6, .int .i64 a0_7, .int .i64 a0_8, .string a0_9, .int .i64 a0_10, .int .i64 a0_11, .int .i64 a0_12, .int .u32 a0_13]) 0 Try.underlying36 rfl ti36 rfl rfl rfl rfl) ?_
  obtain ⟨t3, hC4, H⟩ := bind_some H
  refine J.call (us := []) (cap := []) rfl rfl rfl go46 (fun w hw => by have hcc := check.calls a0_0 a0_1 a0_2 a0_3 a0_4 a0_5 a0_6 a0_7 a0_8 a0_9 a0_10 a0_11 a0_12 a0_13 t3 hC4 w hw; exact hcc) (fun e w1 h1 => ?_)
  obtain ⟨rfl, hw204⟩ := h1
  refine ⟨_, _, rfl, hw204, ?_⟩
  refine J.p rfl rfl rfl rfl (Y.asg rfl) ?_
  refine J.nx ?_
  refine C.rs ?_
  refine J.p rfl rfl rfl rfl (Y.mv rfl) ?_
  refine J.p rfl rfl rfl rfl (Y.bin rfl rfl rfl) ?_
  refine J.nx ?_
  refine split2 H (fun c5 H => ?_) (fun c5 H => ?_)
  · refine C.condT (congrArg (fun b => some (Value.bool b)) (decide_eq_true c5)) ?_
    refine C.rs ?_
    refine J.p rfl rfl rfl rfl (Y.mv rfl) ?_
    refine J.p rfl rfl rfl rfl (Y.asg rfl) ?_
    refine J.p rfl rfl rfl rfl (Y.asg rfl) ?_
    refine J.nx ?_
    refine C.ret ?_
    obtain rfl := Option.some.inj H
    refine T.th ?_
    exact ret_ok (ks := [2, 3]) rfl rfl (fun w h => ⟨none, 0, rfl, (St.pick [0] [_, _] (h.nilOwn 5 1) rfl)⟩)
  · refine C.condF (congrArg (fun b => some (Value.bool b)) (decide_eq_false c5)) ?_
    refine C.skip ?_
    refine N.nx ?_
    refine C.seq ?_
    refine C.drawn (fuel := 12) (ls := [false, false, false, false, false, false, false, false, false, false, false, false]) [] (cells g1 36 [.int .i64 a0_0, .int .u64 a0_1, .int .i64 a0_2, .string a0_3, .string a0_4, .int .u64 a0_5, .int .i64 a0_6, .int .i64 a0_7, .int .i64 a0_8, .string a0_9, .int .i64 a0_10, .int .i64 a0_11, .int .i64 a0_12, .int .u32 a0_13] :: G) mx rfl rfl ?_
    refine D.share (fun (i : Nat × Nat × Nat) => [(1, .pointer (some ⟨g1, 0, none⟩)), (5, .pointer (some ⟨i.1, 0, none⟩)), (6, .pointer (some ⟨i.2.1, 0, none⟩)), (7, .pointer (some ⟨i.2.2, 0, none⟩))]) (fun (i : Nat × Nat × Nat) => cells i.1 27 [.int .u64 a0_1, .int .i64 a0_2, .string a0_3, .string a0_4] :: cells i.2.1 29 [.int .u64 a0_5, .int .i64 a0_6, .int .i64 a0_7, .int .i64 a0_8, .string a0_9] :: cells i.2.2 34 [.int .i64 a0_10, .int .i64 a0_11, .int .i64 a0_12, .int .u32 a0_13] :: cells g1 36 [.int .i64 a0_0, .int .u64 a0_1, .int .i64 a0_2, .string a0_3, .string a0_4, .int .u64 a0_5, .int .i64 a0_6, .int .i64 a0_7, .int .i64 a0_8, .string a0_9, .int .i64 a0_10, .int .i64 a0_11, .int .i64 a0_12, .int .u32 a0_13] :: G) 0 [true, true, true, true, true, true, true, true, true, true, true, true] (fun i => ?_) (fun hD20 => ?_)
    · obtain ⟨g13, g14, g15⟩ := i
      refine D.to (s' := [(1, .pointer (some ⟨g1, 0, none⟩)), (5, .pointer (some ⟨g13, 0, none⟩)), (6, .pointer (some ⟨g14, 0, none⟩)), (7, .pointer (some ⟨g15, 0, none⟩))]) (G' := cells g13 27 [.int .u64 a0_1, .int .i64 a0_2, .string a0_3, .string a0_4] :: cells g14 29 [.int .u64 a0_5, .int .i64 a0_6, .int .i64 a0_7, .int .i64 a0_8, .string a0_9] :: cells g15 34 [.int .i64 a0_10, .int .i64 a0_11, .int .i64 a0_12, .int .u32 a0_13] :: cells g1 36 [.int .i64 a0_0, .int .u64 a0_1, .int .i64 a0_2, .string a0_3, .string a0_4, .int .u64 a0_5, .int .i64 a0_6, .int .i64 a0_7, .int .i64 a0_8, .string a0_9, .int .i64 a0_10, .int .i64 a0_11, .int .i64 a0_12, .int .u32 a0_13] :: G) (by exact ⟨rfl, rfl, rfl, rfl, trivial⟩) (fun w h => h) ?_
      refine D.nil (by kernel_rfl) ?_
      refine N.nx ?_
      refine C.rs ?_
      refine J.p rfl rfl rfl rfl (Y.fa0 fa36_0 rfl rfl) ?_
      refine J.r rfl rfl rfl rfl (Y.ldC 3 Try.underlying24 rfl rfl rfl rfl) ?_
      refine J.p rfl rfl rfl rfl (Y.conv Try.underlying24 Try.underlying5 rfl) ?_
      refine J.bsL (enc := (Value.int .u8)) (xs := [IntKind.wrap .u8 a0_0]) rfl Try.underlying22 ti5 rfl rfl rfl rfl rfl (fun A21 => ?_)
      refine J.p rfl rfl rfl rfl (Y.asg rfl) ?_
      refine J.nx ?_
      refine C.seq ?_
      refine C.rs ?_
      refine J.p rfl rfl rfl rfl (Y.fa0 fa36_0 rfl rfl) ?_
      refine J.r rfl rfl rfl rfl (Y.ldC 4 Try.underlying24 rfl rfl rfl rfl) ?_
      refine J.nx ?_
      refine C.joinN H (fun (o108 : (List Int)) (j109 : (Option Addr) × Nat) => [(8, .slice j109.1 o108.length j109.2)]) (fun (o108 : (List Int)) (j109 : (Option Addr) × Nat) => own 5 1 j109.1 j109.2 (o108.map (Value.int .u8)) :: G) (fun (o108 : (List Int)) (j109 : (Option Addr) × Nat) => True) (fun o106 H HK107 => ?_) (fun o108 j109 H _ => ?_)
      · refine C.blk ?_
        refine C.rs ?_
        refine J.p rfl rfl rfl rfl (Y.bin rfl rfl rfl) ?_
        refine J.p rfl rfl rfl rfl (Y.asg rfl) ?_
        refine J.nx ?_
        refine split2 H (fun c111 H => ?_) (fun c111 H => ?_)
        · refine C.condT (congrArg (fun b => some (Value.bool b)) (decide_eq_true c111)) ?_
          refine C.rs ?_
          refine J.p rfl rfl rfl rfl (Y.mv rfl) ?_
          refine J.p rfl rfl rfl rfl (Y.fa0 fa27_0 rfl rfl) ?_
          refine J.r rfl rfl rfl rfl (Y.ldC 1 Try.underlying25 rfl rfl rfl rfl) ?_
          refine J.p rfl rfl rfl rfl (Y.fa0 fa27_2 rfl rfl) ?_
          refine J.r rfl rfl rfl rfl (Y.ldC 1 Try.underlying9 rfl rfl rfl rfl) ?_
          refine J.p rfl rfl rfl rfl (Y.lenT Try.underlying9 rfl) ?_
          refine J.p rfl rfl rfl rfl (Y.conv Try.underlying3 Try.underlying25 rfl) ?_
          refine J.bsL (enc := (Value.int .u64)) (xs := [a0_1, IntKind.wrap .u64 (a0_3.size : Int)]) rfl Try.underlying114 ti25 rfl rfl rfl rfl rfl (fun A112 => ?_)
          obtain ⟨t114, hC115, H⟩ := bind_some H
          refine J.call (us := []) (cap := []) rfl rfl rfl go47 (fun w hw => by have hcc := Encode.calls K [a0_1, IntKind.wrap .u64 (a0_3.size : Int)] A112 2 (RdG.own 0 rfl) (show [a0_1, IntKind.wrap .u64 (a0_3.size : Int)].length ≤ 2 from Nat.le_refl _) t114 hC115 w hw; exact hcc) (fun e w1 h1 => ?_)
          obtain ⟨A116, c117, rfl, hw128⟩ := h1
          refine ⟨_, _, rfl, hw128, ?_⟩
          refine J.pull 2 rfl rfl ?_
          obtain ⟨p121, H⟩ := gd_some H
          refine J.appL (enc := (Value.int .u8)) (xs := [IntKind.wrap .u8 a0_0]) (ys := t114) rfl Try.underlying22 ti5 rfl (by decide) rfl rfl (fun _ => rfl) (RdG.own 1 rfl) p121 (fun A119 c120 => ?_)
          refine J.pull 1 rfl rfl (J.drop ?_)
          refine J.p rfl rfl rfl rfl (Y.asg rfl) ?_
          refine J.nx ?_
          refine C.reg ?_
          refine J.p rfl rfl rfl rfl (Y.mv rfl) ?_
          refine J.p rfl rfl rfl rfl (Y.fa0 fa27_2 rfl rfl) ?_
          refine J.r rfl rfl rfl rfl (Y.ldC 2 Try.underlying9 rfl rfl rfl rfl) ?_
          refine J.p rfl rfl rfl rfl (Y.fa0 fa27_3 rfl rfl) ?_
          refine J.r rfl rfl rfl rfl (Y.ldC 2 Try.underlying9 rfl rfl rfl rfl) ?_
          obtain ⟨p123, H⟩ := gd_some H
          refine J.p rfl rfl rfl rfl (Y.cat rfl rfl p123) ?_
          obtain ⟨p126, H⟩ := gd_some H
          refine J.appT rfl Try.underlying22 Try.underlying9 ti5 rfl rfl p126 (fun A124 c125 => ?_)
          refine J.p rfl rfl rfl rfl (Y.asg rfl) ?_
          refine J.nil ?_
          refine N.ib ?_
          obtain rfl := Option.some.inj H
          exact N.meet ((([IntKind.wrap .u8 a0_0] ++ t114) ++ bytesOf (a0_3 ++ a0_4)), (A124, c125)) ⟨HK107, trivial⟩ (by exact ⟨rfl, trivial⟩) (by exact fun w h => (St.pick [0] [_, _, _, _, _, _] h rfl))
        · refine C.condF (congrArg (fun b => some (Value.bool b)) (decide_eq_false c111)) ?_
          refine C.rs ?_
          refine J.p rfl rfl rfl rfl (Y.bin rfl rfl rfl) ?_
          refine J.p rfl rfl rfl rfl (Y.asg rfl) ?_
          refine J.nx ?_
          refine split2 H (fun c129 H => ?_) (fun c129 H => ?_)
          · refine C.condT (congrArg (fun b => some (Value.bool b)) (decide_eq_true c129)) ?_
            refine C.rs ?_
            refine J.p rfl rfl rfl rfl (Y.mv rfl) ?_
            refine J.p rfl rfl rfl rfl (Y.fa0 fa27_0 rfl rfl) ?_
            refine J.r rfl rfl rfl rfl (Y.ldC 1 Try.underlying25 rfl rfl rfl rfl) ?_
            refine J.bsL (enc := (Value.int .u64)) (xs := [a0_1]) rfl Try.underlying114 ti25 rfl rfl rfl rfl rfl (fun A130 => ?_)
            obtain ⟨t132, hC133, H⟩ := bind_some H
            refine J.call (us := []) (cap := []) rfl rfl rfl go47 (fun w hw => by have hcc := Encode.calls K [a0_1] A130 1 (RdG.own 0 rfl) (show [a0_1].length ≤ 1 from Nat.le_refl _) t132 hC133 w hw; exact hcc) (fun e w1 h1 => ?_)
            obtain ⟨A134, c135, rfl, hw145⟩ := h1
            refine ⟨_, _, rfl, hw145, ?_⟩
            refine J.pull 2 rfl rfl ?_
            obtain ⟨p139, H⟩ := gd_some H
            refine J.appL (enc := (Value.int .u8)) (xs := [IntKind.wrap .u8 a0_0]) (ys := t132) rfl Try.underlying22 ti5 rfl (by decide) rfl rfl (fun _ => rfl) (RdG.own 1 rfl) p139 (fun A137 c138 => ?_)
            refine J.pull 1 rfl rfl (J.drop ?_)
            refine J.p rfl rfl rfl rfl (Y.asg rfl) ?_
            refine J.nx ?_
            refine C.reg ?_
            refine J.p rfl rfl rfl rfl (Y.mv rfl) ?_
            refine J.p rfl rfl rfl rfl (Y.fa0 fa27_2 rfl rfl) ?_
            refine J.r rfl rfl rfl rfl (Y.ldC 2 Try.underlying9 rfl rfl rfl rfl) ?_
            obtain ⟨p143, H⟩ := gd_some H
            refine J.appT rfl Try.underlying22 Try.underlying9 ti5 rfl rfl p143 (fun A141 c142 => ?_)
            refine J.p rfl rfl rfl rfl (Y.asg rfl) ?_
            refine J.nil ?_
            refine N.ib ?_
            obtain rfl := Option.some.inj H
            exact N.meet ((([IntKind.wrap .u8 a0_0] ++ t132) ++ bytesOf a0_3), (A141, c142)) ⟨HK107, trivial⟩ (by exact ⟨rfl, trivial⟩) (by exact fun w h => (St.pick [0] [_, _, _, _, _, _] h rfl))
          · refine C.condF (congrArg (fun b => some (Value.bool b)) (decide_eq_false c129)) ?_
            refine C.rs ?_
            refine J.p rfl rfl rfl rfl (Y.bin rfl rfl rfl) ?_
            refine J.p rfl rfl rfl rfl (Y.asg rfl) ?_
            refine J.nx ?_
            refine split2 H (fun c146 H => ?_) (fun c146 H => ?_)
            · refine C.condT (congrArg (fun b => some (Value.bool b)) (decide_eq_true c146)) ?_
              refine C.rs ?_
              refine J.p rfl rfl rfl rfl (Y.mv rfl) ?_
              refine J.p rfl rfl rfl rfl (Y.fa0 fa29_0 rfl rfl) ?_
              refine J.r rfl rfl rfl rfl (Y.ldC 2 Try.underlying25 rfl rfl rfl rfl) ?_
              refine J.bsL (enc := (Value.int .u64)) (xs := [a0_5]) rfl Try.underlying114 ti25 rfl rfl rfl rfl rfl (fun A147 => ?_)
              obtain ⟨t149, hC150, H⟩ := bind_some H
              refine J.call (us := []) (cap := []) rfl rfl rfl go47 (fun w hw => by have hcc := Encode.calls K [a0_5] A147 1 (RdG.own 0 rfl) (show [a0_5].length ≤ 1 from Nat.le_refl _) t149 hC150 w hw; exact hcc) (fun e w1 h1 => ?_)
              obtain ⟨A151, c152, rfl, hw180⟩ := h1
              refine ⟨_, _, rfl, hw180, ?_⟩
              refine J.pull 2 rfl rfl ?_
              obtain ⟨p156, H⟩ := gd_some H
              refine J.appL (enc := (Value.int .u8)) (xs := [IntKind.wrap .u8 a0_0]) (ys := t149) rfl Try.underlying22 ti5 rfl (by decide) rfl rfl (fun _ => rfl) (RdG.own 1 rfl) p156 (fun A154 c155 => ?_)
              refine J.pull 1 rfl rfl (J.drop ?_)
              refine J.p rfl rfl rfl rfl (Y.asg rfl) ?_
              refine J.nx ?_
              refine C.rs ?_
              refine J.p rfl rfl rfl rfl (Y.mv rfl) ?_
              refine J.p rfl rfl rfl rfl (Y.fa0 fa29_1 rfl rfl) ?_
              refine J.r rfl rfl rfl rfl (Y.ldC 3 Try.underlying24 rfl rfl rfl rfl) ?_
              refine J.p rfl rfl rfl rfl (Y.conv Try.underlying24 Try.underlying5 rfl) ?_
              refine J.bsL (enc := (Value.int .u8)) (xs := [IntKind.wrap .u8 a0_6]) rfl Try.underlying22 ti5 rfl rfl rfl rfl rfl (fun A158 => ?_)
              refine J.pull 1 rfl rfl ?_
              obtain ⟨p162, H⟩ := gd_some H
              refine J.appL (enc := (Value.int .u8)) (xs := ([IntKind.wrap .u8 a0_0] ++ t149)) (ys := [IntKind.wrap .u8 a0_6]) rfl Try.underlying22 ti5 rfl (by decide) rfl rfl (fun _ => rfl) (RdG.own 1 rfl) p162 (fun A160 c161 => ?_)
              refine J.pull 1 rfl rfl (J.drop ?_)
              refine J.p rfl rfl rfl rfl (Y.asg rfl) ?_
              refine J.nx ?_
              refine C.rs ?_
              refine J.p rfl rfl rfl rfl (Y.mv rfl) ?_
              refine J.p rfl rfl rfl rfl (Y.fa0 fa29_2 rfl rfl) ?_
              refine J.r rfl rfl rfl rfl (Y.ldC 3 Try.underlying3 rfl rfl rfl rfl) ?_
              refine J.p rfl rfl rfl rfl (Y.conv Try.underlying3 Try.underlying25 rfl) ?_
              refine J.p rfl rfl rfl rfl (Y.fa0 fa29_3 rfl rfl) ?_
              refine J.r rfl rfl rfl rfl (Y.ldC 3 Try.underlying3 rfl rfl rfl rfl) ?_
              refine J.p rfl rfl rfl rfl (Y.conv Try.underlying3 Try.underlying25 rfl) ?_
              refine J.bsL (enc := (Value.int .u64)) (xs := [IntKind.wrap .u64 a0_7, IntKind.wrap .u64 a0_8]) rfl Try.underlying114 ti25 rfl rfl rfl rfl rfl (fun A164 => ?_)
              obtain ⟨t166, hC167, H⟩ := bind_some H
              refine J.call (us := []) (cap := []) rfl rfl rfl go47 (fun w hw => by have hcc := Encode.calls K [IntKind.wrap .u64 a0_7, IntKind.wrap .u64 a0_8] A164 2 (RdG.own 0 rfl) (show [IntKind.wrap .u64 a0_7, IntKind.wrap .u64 a0_8].length ≤ 2 from Nat.le_refl _) t166 hC167 w hw; exact hcc) (fun e w1 h1 => ?_)
              obtain ⟨A168, c169, rfl, hw179⟩ := h1
              refine ⟨_, _, rfl, hw179, ?_⟩
              refine J.pull 2 rfl rfl ?_
              obtain ⟨p173, H⟩ := gd_some H
              refine J.appL (enc := (Value.int .u8)) (xs := (([IntKind.wrap .u8 a0_0] ++ t149) ++ [IntKind.wrap .u8 a0_6])) (ys := t166) rfl Try.underlying22 ti5 rfl (by decide) rfl rfl (fun _ => rfl) (RdG.own 1 rfl) p173 (fun A171 c172 => ?_)
              refine J.pull 1 rfl rfl (J.drop ?_)
              refine J.p rfl rfl rfl rfl (Y.asg rfl) ?_
              refine J.nx ?_
              refine C.reg ?_
              refine J.p rfl rfl rfl rfl (Y.mv rfl) ?_
              refine J.p rfl rfl rfl rfl (Y.fa0 fa29_4 rfl rfl) ?_
              refine J.r rfl rfl rfl rfl (Y.ldC 4 Try.underlying9 rfl rfl rfl rfl) ?_
              obtain ⟨p177, H⟩ := gd_some H
              refine J.appT rfl Try.underlying22 Try.underlying9 ti5 rfl rfl p177 (fun A175 c176 => ?_)
              refine J.p rfl rfl rfl rfl (Y.asg rfl) ?_
              refine J.nil ?_
              refine N.ib ?_
              obtain rfl := Option.some.inj H
              exact N.meet ((((([IntKind.wrap .u8 a0_0] ++ t149) ++ [IntKind.wrap .u8 a0_6]) ++ t166) ++ bytesOf a0_9), (A175, c176)) ⟨HK107, trivial⟩ (by exact ⟨rfl, trivial⟩) (by exact fun w h => (St.pick [0] [_, _, _, _, _, _, _] h rfl))
            · refine C.condF (congrArg (fun b => some (Value.bool b)) (decide_eq_false c146)) ?_
              refine C.rs ?_
              refine J.p rfl rfl rfl rfl (Y.bin rfl rfl rfl) ?_
              refine J.p rfl rfl rfl rfl (Y.asg rfl) ?_
              refine J.nx ?_
              refine split2 H (fun c181 H => ?_) (fun c181 H => ?_)
              · refine C.condT (congrArg (fun b => some (Value.bool b)) (decide_eq_true c181)) ?_
                refine C.reg ?_
                refine J.p rfl rfl rfl rfl (Y.mv rfl) ?_
                refine J.p rfl rfl rfl rfl (Y.fa0 fa34_0 rfl rfl) ?_
                refine J.r rfl rfl rfl rfl (Y.ldC 3 Try.underlying3 rfl rfl rfl rfl) ?_
                refine J.p rfl rfl rfl rfl (Y.conv Try.underlying3 Try.underlying25 rfl) ?_
                refine J.p rfl rfl rfl rfl (Y.fa0 fa34_1 rfl rfl) ?_
                refine J.p rfl rfl rfl rfl (Y.fa0 fa32_0 rfl rfl) ?_
                refine J.r rfl rfl rfl rfl (Y.ldC 3 Try.underlying3 rfl rfl rfl rfl) ?_
                refine J.p rfl rfl rfl rfl (Y.conv Try.underlying3 Try.underlying25 rfl) ?_
                refine J.p rfl rfl rfl rfl (Y.fa0 fa34_1 rfl rfl) ?_
                refine J.p rfl rfl rfl rfl (Y.fa0 fa32_1 rfl rfl) ?_
                refine J.r rfl rfl rfl rfl (Y.ldC 3 Try.underlying3 rfl rfl rfl rfl) ?_
                refine J.p rfl rfl rfl rfl (Y.conv Try.underlying3 Try.underlying25 rfl) ?_
                refine J.p rfl rfl rfl rfl (Y.fa0 fa34_1 rfl rfl) ?_
                refine J.p rfl rfl rfl rfl (Y.fa0 fa32_2 rfl rfl) ?_
                refine J.r rfl rfl rfl rfl (Y.ldC 3 Try.underlying30 rfl rfl rfl rfl) ?_
                refine J.p rfl rfl rfl rfl (Y.conv Try.underlying30 Try.underlying25 rfl) ?_
                refine J.bsL (enc := (Value.int .u64)) (xs := [IntKind.wrap .u64 a0_10, IntKind.wrap .u64 a0_11, IntKind.wrap .u64 a0_12, IntKind.wrap .u64 a0_13]) rfl Try.underlying114 ti25 rfl rfl rfl rfl rfl (fun A182 => ?_)
                obtain ⟨t184, hC185, H⟩ := bind_some H
                refine J.call (us := []) (cap := []) rfl rfl rfl go47 (fun w hw => by have hcc := Encode.calls K [IntKind.wrap .u64 a0_10, IntKind.wrap .u64 a0_11, IntKind.wrap .u64 a0_12, IntKind.wrap .u64 a0_13] A182 4 (RdG.own 0 rfl) (show [IntKind.wrap .u64 a0_10, IntKind.wrap .u64 a0_11, IntKind.wrap .u64 a0_12, IntKind.wrap .u64 a0_13].length ≤ 4 from Nat.le_refl _) t184 hC185 w hw; exact hcc) (fun e w1 h1 => ?_)
                obtain ⟨A186, c187, rfl, hw193⟩ := h1
                refine ⟨_, _, rfl, hw193, ?_⟩
                refine J.pull 2 rfl rfl ?_
                obtain ⟨p191, H⟩ := gd_some H
                refine J.appL (enc := (Value.int .u8)) (xs := [IntKind.wrap .u8 a0_0]) (ys := t184) rfl Try.underlying22 ti5 rfl (by decide) rfl rfl (fun _ => rfl) (RdG.own 1 rfl) p191 (fun A189 c190 => ?_)
                refine J.pull 1 rfl rfl (J.drop ?_)
                refine J.p rfl rfl rfl rfl (Y.asg rfl) ?_
                refine J.nil ?_
                refine N.ib ?_
                obtain rfl := Option.some.inj H
                exact N.meet (([IntKind.wrap .u8 a0_0] ++ t184), (A189, c190)) ⟨HK107, trivial⟩ (by exact ⟨rfl, trivial⟩) (by exact fun w h => (St.pick [0] [_, _, _, _, _, _] h rfl))
              · refine C.condF (congrArg (fun b => some (Value.bool b)) (decide_eq_false c181)) ?_
                refine C.skip ?_
                refine N.ib ?_
                obtain rfl := Option.some.inj H
                exact N.meet ([IntKind.wrap .u8 a0_0], (A21, 1)) ⟨HK107, trivial⟩ (by exact ⟨rfl, trivial⟩) (by exact fun w h => (St.pick [0] [_, _, _, _, _] h rfl))
      · refine N.at (s' := [(8, .slice j109.1 o108.length j109.2)]) (G' := own 5 1 j109.1 j109.2 (o108.map (Value.int .u8)) :: G) rfl rfl ?_
        refine N.nx ?_
        refine C.rs ?_
        refine J.p rfl rfl rfl rfl (Y.mv rfl) ?_
        refine J.p rfl rfl rfl rfl (Y.asg rfl) ?_
        refine J.p rfl rfl rfl rfl (Y.asg rfl) ?_
        refine J.nx ?_
        refine C.ret ?_
        obtain rfl := Option.some.inj H
        exact ret_ok (ks := [2, 3]) rfl rfl (fun w h => ⟨j109.1, j109.2, rfl, h⟩)
    refine D.share (fun (i : Nat × Nat × Nat) => [(1, .pointer (some ⟨g1, 0, none⟩)), (5, .pointer (some ⟨i.1, 0, none⟩)), (6, .pointer (some ⟨i.2.1, 0, none⟩)), (7, .pointer (some ⟨i.2.2, 0, none⟩)), (19, .agg #[.int .i64 a0_10, .int .i64 a0_11, .int .i64 a0_12, .int .u32 a0_13])]) (fun (i : Nat × Nat × Nat) => cells i.1 27 [.int .u64 a0_1, .int .i64 a0_2, .string a0_3, .string a0_4] :: cells i.2.1 29 [.int .u64 a0_5, .int .i64 a0_6, .int .i64 a0_7, .int .i64 a0_8, .string a0_9] :: cells i.2.2 34 [.int .i64 0, .int .i64 0, .int .i64 0, .int .u32 0] :: cells g1 36 [.int .i64 a0_0, .int .u64 a0_1, .int .i64 a0_2, .string a0_3, .string a0_4, .int .u64 a0_5, .int .i64 a0_6, .int .i64 a0_7, .int .i64 a0_8, .string a0_9, .int .i64 a0_10, .int .i64 a0_11, .int .i64 a0_12, .int .u32 a0_13] :: G) 1 [true, true, true, true, true, true, true, true, true, true, true, false] (fun i => ?_) (fun hD194 => ?_)
    · obtain ⟨g13, g14, g15⟩ := i
      refine D.to (s' := [(1, .pointer (some ⟨g1, 0, none⟩)), (5, .pointer (some ⟨g13, 0, none⟩)), (6, .pointer (some ⟨g14, 0, none⟩)), (7, .pointer (some ⟨g15, 0, none⟩)), (19, .agg #[.int .i64 a0_10, .int .i64 a0_11, .int .i64 a0_12, .int .u32 a0_13])]) (G' := cells g13 27 [.int .u64 a0_1, .int .i64 a0_2, .string a0_3, .string a0_4] :: cells g14 29 [.int .u64 a0_5, .int .i64 a0_6, .int .i64 a0_7, .int .i64 a0_8, .string a0_9] :: cells g15 34 [.int .i64 0, .int .i64 0, .int .i64 0, .int .u32 0] :: cells g1 36 [.int .i64 a0_0, .int .u64 a0_1, .int .i64 a0_2, .string a0_3, .string a0_4, .int .u64 a0_5, .int .i64 a0_6, .int .i64 a0_7, .int .i64 a0_8, .string a0_9, .int .i64 a0_10, .int .i64 a0_11, .int .i64 a0_12, .int .u32 a0_13] :: G) (by exact ⟨rfl, rfl, rfl, rfl, rfl, trivial⟩) (fun w h => h) ?_
      refine D.any [11] (by kernel_rfl) rfl ⟨?_, trivial⟩
      refine DW.j (ls' := [true, true, true, true, true, true, true, true, true, true, true, true]) rfl rfl ?_
      refine J.pull 2 rfl rfl ?_
      refine J.stA (us := [.int .i64 a0_10, .int .i64 a0_11, .int .i64 a0_12, .int .u32 a0_13]) (L' := [.int .i64 a0_10, .int .i64 a0_11, .int .i64 a0_12, .int .u32 a0_13]) ti34 rfl rfl rfl rfl rfl rfl ?_
      refine J.nil ?_
      refine D.backK 3 rfl ?_
      exact D.to (by exact ⟨rfl, rfl, rfl, rfl, trivial⟩) (fun w h => (St.pick [1, 2, 0, 3] [_, _, _, _] h rfl)) (hD20 (g13, g14, g15))
    refine D.share (fun (i : Nat × Nat × Nat) => [(1, .pointer (some ⟨g1, 0, none⟩)), (5, .pointer (some ⟨i.1, 0, none⟩)), (6, .pointer (some ⟨i.2.1, 0, none⟩)), (7, .pointer (some ⟨i.2.2, 0, none⟩)), (17, .agg #[.int .u64 a0_5, .int .i64 a0_6, .int .i64 a0_7, .int .i64 a0_8, .string a0_9]), (19, .agg #[.int .i64 a0_10, .int .i64 a0_11, .int .i64 a0_12, .int .u32 a0_13])]) (fun (i : Nat × Nat × Nat) => cells i.1 27 [.int .u64 a0_1, .int .i64 a0_2, .string a0_3, .string a0_4] :: cells i.2.1 29 [.int .u64 0, .int .i64 0, .int .i64 0, .int .i64 0, .string ByteArray.empty] :: cells i.2.2 34 [.int .i64 0, .int .i64 0, .int .i64 0, .int .u32 0] :: cells g1 36 [.int .i64 a0_0, .int .u64 a0_1, .int .i64 a0_2, .string a0_3, .string a0_4, .int .u64 a0_5, .int .i64 a0_6, .int .i64 a0_7, .int .i64 a0_8, .string a0_9, .int .i64 a0_10, .int .i64 a0_11, .int .i64 a0_12, .int .u32 a0_13] :: G) 2 [true, true, true, true, true, true, true, true, true, true, false, false] (fun i => ?_) (fun hD195 => ?_)
    · obtain ⟨g13, g14, g15⟩ := i
      refine D.to (s' := [(1, .pointer (some ⟨g1, 0, none⟩)), (5, .pointer (some ⟨g13, 0, none⟩)), (6, .pointer (some ⟨g14, 0, none⟩)), (7, .pointer (some ⟨g15, 0, none⟩)), (17, .agg #[.int .u64 a0_5, .int .i64 a0_6, .int .i64 a0_7, .int .i64 a0_8, .string a0_9]), (19, .agg #[.int .i64 a0_10, .int .i64 a0_11, .int .i64 a0_12, .int .u32 a0_13])]) (G' := cells g13 27 [.int .u64 a0_1, .int .i64 a0_2, .string a0_3, .string a0_4] :: cells g14 29 [.int .u64 0, .int .i64 0, .int .i64 0, .int .i64 0, .string ByteArray.empty] :: cells g15 34 [.int .i64 0, .int .i64 0, .int .i64 0, .int .u32 0] :: cells g1 36 [.int .i64 a0_0, .int .u64 a0_1, .int .i64 a0_2, .string a0_3, .string a0_4, .int .u64 a0_5, .int .i64 a0_6, .int .i64 a0_7, .int .i64 a0_8, .string a0_9, .int .i64 a0_10, .int .i64 a0_11, .int .i64 a0_12, .int .u32 a0_13] :: G) (by exact ⟨rfl, rfl, rfl, rfl, rfl, rfl, trivial⟩) (fun w h => h) ?_
      refine D.any [10] (by kernel_rfl) rfl ⟨?_, trivial⟩
      refine DW.j (ls' := [true, true, true, true, true, true, true, true, true, true, true, false]) rfl rfl ?_
      refine J.pull 1 rfl rfl ?_
      refine J.stA (us := [.int .u64 a0_5, .int .i64 a0_6, .int .i64 a0_7, .int .i64 a0_8, .string a0_9]) (L' := [.int .u64 a0_5, .int .i64 a0_6, .int .i64 a0_7, .int .i64 a0_8, .string a0_9]) ti29 rfl rfl rfl rfl rfl rfl ?_
      refine J.nil ?_
      refine D.backK 3 rfl ?_
      exact D.to (by exact ⟨rfl, rfl, rfl, rfl, rfl, trivial⟩) (fun w h => (St.pick [1, 0, 2, 3] [_, _, _, _] h rfl)) (hD194 (g13, g14, g15))
    refine D.share (fun (i : Nat × Nat × Nat) => [(1, .pointer (some ⟨g1, 0, none⟩)), (5, .pointer (some ⟨i.1, 0, none⟩)), (6, .pointer (some ⟨i.2.1, 0, none⟩)), (7, .pointer (some ⟨i.2.2, 0, none⟩)), (15, .agg #[.int .u64 a0_1, .int .i64 a0_2, .string a0_3, .string a0_4]), (17, .agg #[.int .u64 a0_5, .int .i64 a0_6, .int .i64 a0_7, .int .i64 a0_8, .string a0_9]), (19, .agg #[.int .i64 a0_10, .int .i64 a0_11, .int .i64 a0_12, .int .u32 a0_13])]) (fun (i : Nat × Nat × Nat) => cells i.1 27 [.int .u64 0, .int .i64 0, .string ByteArray.empty, .string ByteArray.empty] :: cells i.2.1 29 [.int .u64 0, .int .i64 0, .int .i64 0, .int .i64 0, .string ByteArray.empty] :: cells i.2.2 34 [.int .i64 0, .int .i64 0, .int .i64 0, .int .u32 0] :: cells g1 36 [.int .i64 a0_0, .int .u64 a0_1, .int .i64 a0_2, .string a0_3, .string a0_4, .int .u64 a0_5, .int .i64 a0_6, .int .i64 a0_7, .int .i64 a0_8, .string a0_9, .int .i64 a0_10, .int .i64 a0_11, .int .i64 a0_12, .int .u32 a0_13] :: G) 3 [true, true, true, true, true, true, true, true, true, false, false, false] (fun i => ?_) (fun hD196 => ?_)
    · obtain ⟨g13, g14, g15⟩ := i
      refine D.to (s' := [(1, .pointer (some ⟨g1, 0, none⟩)), (5, .pointer (some ⟨g13, 0, none⟩)), (6, .pointer (some ⟨g14, 0, none⟩)), (7, .pointer (some ⟨g15, 0, none⟩)), (15, .agg #[.int .u64 a0_1, .int .i64 a0_2, .string a0_3, .string a0_4]), (17, .agg #[.int .u64 a0_5, .int .i64 a0_6, .int .i64 a0_7, .int .i64 a0_8, .string a0_9]), (19, .agg #[.int .i64 a0_10, .int .i64 a0_11, .int .i64 a0_12, .int .u32 a0_13])]) (G' := cells g13 27 [.int .u64 0, .int .i64 0, .string ByteArray.empty, .string ByteArray.empty] :: cells g14 29 [.int .u64 0, .int .i64 0, .int .i64 0, .int .i64 0, .string ByteArray.empty] :: cells g15 34 [.int .i64 0, .int .i64 0, .int .i64 0, .int .u32 0] :: cells g1 36 [.int .i64 a0_0, .int .u64 a0_1, .int .i64 a0_2, .string a0_3, .string a0_4, .int .u64 a0_5, .int .i64 a0_6, .int .i64 a0_7, .int .i64 a0_8, .string a0_9, .int .i64 a0_10, .int .i64 a0_11, .int .i64 a0_12, .int .u32 a0_13] :: G) (by exact ⟨rfl, rfl, rfl, rfl, rfl, rfl, rfl, trivial⟩) (fun w h => h) ?_
      refine D.any [9] (by kernel_rfl) rfl ⟨?_, trivial⟩
      refine DW.j (ls' := [true, true, true, true, true, true, true, true, true, true, false, false]) rfl rfl ?_
      refine J.stA (us := [.int .u64 a0_1, .int .i64 a0_2, .string a0_3, .string a0_4]) (L' := [.int .u64 a0_1, .int .i64 a0_2, .string a0_3, .string a0_4]) ti27 rfl rfl rfl rfl rfl rfl ?_
      refine J.nil ?_
      refine D.backK 3 rfl ?_
      exact D.to (by exact ⟨rfl, rfl, rfl, rfl, rfl, rfl, trivial⟩) (fun w h => h) (hD195 (g13, g14, g15))
    refine D.share (fun (i : Nat × Nat) => [(1, .pointer (some ⟨g1, 0, none⟩)), (5, .pointer (some ⟨i.1, 0, none⟩)), (6, .pointer (some ⟨i.2, 0, none⟩)), (15, .agg #[.int .u64 a0_1, .int .i64 a0_2, .string a0_3, .string a0_4]), (17, .agg #[.int .u64 a0_5, .int .i64 a0_6, .int .i64 a0_7, .int .i64 a0_8, .string a0_9]), (19, .agg #[.int .i64 a0_10, .int .i64 a0_11, .int .i64 a0_12, .int .u32 a0_13])]) (fun (i : Nat × Nat) => cells i.1 27 [.int .u64 0, .int .i64 0, .string ByteArray.empty, .string ByteArray.empty] :: cells i.2 29 [.int .u64 0, .int .i64 0, .int .i64 0, .int .i64 0, .string ByteArray.empty] :: cells g1 36 [.int .i64 a0_0, .int .u64 a0_1, .int .i64 a0_2, .string a0_3, .string a0_4, .int .u64 a0_5, .int .i64 a0_6, .int .i64 a0_7, .int .i64 a0_8, .string a0_9, .int .i64 a0_10, .int .i64 a0_11, .int .i64 a0_12, .int .u32 a0_13] :: G) 4 [true, true, true, true, true, true, true, true, false, false, false, false] (fun i => ?_) (fun hD197 => ?_)
    · obtain ⟨g13, g14⟩ := i
      refine D.to (s' := [(1, .pointer (some ⟨g1, 0, none⟩)), (5, .pointer (some ⟨g13, 0, none⟩)), (6, .pointer (some ⟨g14, 0, none⟩)), (15, .agg #[.int .u64 a0_1, .int .i64 a0_2, .string a0_3, .string a0_4]), (17, .agg #[.int .u64 a0_5, .int .i64 a0_6, .int .i64 a0_7, .int .i64 a0_8, .string a0_9]), (19, .agg #[.int .i64 a0_10, .int .i64 a0_11, .int .i64 a0_12, .int .u32 a0_13])]) (G' := cells g13 27 [.int .u64 0, .int .i64 0, .string ByteArray.empty, .string ByteArray.empty] :: cells g14 29 [.int .u64 0, .int .i64 0, .int .i64 0, .int .i64 0, .string ByteArray.empty] :: cells g1 36 [.int .i64 a0_0, .int .u64 a0_1, .int .i64 a0_2, .string a0_3, .string a0_4, .int .u64 a0_5, .int .i64 a0_6, .int .i64 a0_7, .int .i64 a0_8, .string a0_9, .int .i64 a0_10, .int .i64 a0_11, .int .i64 a0_12, .int .u32 a0_13] :: G) (by exact ⟨rfl, rfl, rfl, rfl, rfl, rfl, trivial⟩) (fun w h => h) ?_
      refine D.any [8] (by kernel_rfl) rfl ⟨?_, trivial⟩
      refine DW.j (ls' := [true, true, true, true, true, true, true, true, true, false, false, false]) rfl rfl ?_
      refine J.alloc (L := [.int .i64 0, .int .i64 0, .int .i64 0, .int .u32 0]) rfl ti34 rfl (fun g15 => ?_)
      refine J.nil ?_
      refine D.backK 3 rfl ?_
      exact D.to (by exact ⟨rfl, rfl, rfl, rfl, rfl, rfl, rfl, trivial⟩) (fun w h => (St.pick [1, 2, 0, 3] [_, _, _, _] h rfl)) (hD196 (g13, g14, g15))
    refine D.share (fun (i : Nat × Nat) => [(1, .pointer (some ⟨g1, 0, none⟩)), (5, .pointer (some ⟨i.1, 0, none⟩)), (7, .pointer (some ⟨i.2, 0, none⟩)), (15, .agg #[.int .u64 a0_1, .int .i64 a0_2, .string a0_3, .string a0_4]), (17, .agg #[.int .u64 a0_5, .int .i64 a0_6, .int .i64 a0_7, .int .i64 a0_8, .string a0_9]), (19, .agg #[.int .i64 a0_10, .int .i64 a0_11, .int .i64 a0_12, .int .u32 a0_13])]) (fun (i : Nat × Nat) => cells i.1 27 [.int .u64 0, .int .i64 0, .string ByteArray.empty, .string ByteArray.empty] :: cells i.2 34 [.int .i64 0, .int .i64 0, .int .i64 0, .int .u32 0] :: cells g1 36 [.int .i64 a0_0, .int .u64 a0_1, .int .i64 a0_2, .string a0_3, .string a0_4, .int .u64 a0_5, .int .i64 a0_6, .int .i64 a0_7, .int .i64 a0_8, .string a0_9, .int .i64 a0_10, .int .i64 a0_11, .int .i64 a0_12, .int .u32 a0_13] :: G) 4 [true, true, true, true, true, true, true, false, true, false, false, false] (fun i => ?_) (fun hD198 => ?_)
    · obtain ⟨g13, g15⟩ := i
      refine D.to (s' := [(1, .pointer (some ⟨g1, 0, none⟩)), (5, .pointer (some ⟨g13, 0, none⟩)), (7, .pointer (some ⟨g15, 0, none⟩)), (15, .agg #[.int .u64 a0_1, .int .i64 a0_2, .string a0_3, .string a0_4]), (17, .agg #[.int .u64 a0_5, .int .i64 a0_6, .int .i64 a0_7, .int .i64 a0_8, .string a0_9]), (19, .agg #[.int .i64 a0_10, .int .i64 a0_11, .int .i64 a0_12, .int .u32 a0_13])]) (G' := cells g13 27 [.int .u64 0, .int .i64 0, .string ByteArray.empty, .string ByteArray.empty] :: cells g15 34 [.int .i64 0, .int .i64 0, .int .i64 0, .int .u32 0] :: cells g1 36 [.int .i64 a0_0, .int .u64 a0_1, .int .i64 a0_2, .string a0_3, .string a0_4, .int .u64 a0_5, .int .i64 a0_6, .int .i64 a0_7, .int .i64 a0_8, .string a0_9, .int .i64 a0_10, .int .i64 a0_11, .int .i64 a0_12, .int .u32 a0_13] :: G) (by exact ⟨rfl, rfl, rfl, rfl, rfl, rfl, trivial⟩) (fun w h => h) ?_
      refine D.any [7] (by kernel_rfl) rfl ⟨?_, trivial⟩
      refine DW.j (ls' := [true, true, true, true, true, true, true, true, true, false, false, false]) rfl rfl ?_
      refine J.alloc (L := [.int .u64 0, .int .i64 0, .int .i64 0, .int .i64 0, .string ByteArray.empty]) rfl ti29 rfl (fun g14 => ?_)
      refine J.nil ?_
      refine D.backK 3 rfl ?_
      exact D.to (by exact ⟨rfl, rfl, rfl, rfl, rfl, rfl, rfl, trivial⟩) (fun w h => (St.pick [1, 0, 2, 3] [_, _, _, _] h rfl)) (hD196 (g13, g14, g15))
    refine D.share (fun (i : Nat × Nat) => [(1, .pointer (some ⟨g1, 0, none⟩)), (6, .pointer (some ⟨i.1, 0, none⟩)), (7, .pointer (some ⟨i.2, 0, none⟩)), (15, .agg #[.int .u64 a0_1, .int .i64 a0_2, .string a0_3, .string a0_4]), (17, .agg #[.int .u64 a0_5, .int .i64 a0_6, .int .i64 a0_7, .int .i64 a0_8, .string a0_9]), (19, .agg #[.int .i64 a0_10, .int .i64 a0_11, .int .i64 a0_12, .int .u32 a0_13])]) (fun (i : Nat × Nat) => cells i.1 29 [.int .u64 0, .int .i64 0, .int .i64 0, .int .i64 0, .string ByteArray.empty] :: cells i.2 34 [.int .i64 0, .int .i64 0, .int .i64 0, .int .u32 0] :: cells g1 36 [.int .i64 a0_0, .int .u64 a0_1, .int .i64 a0_2, .string a0_3, .string a0_4, .int .u64 a0_5, .int .i64 a0_6, .int .i64 a0_7, .int .i64 a0_8, .string a0_9, .int .i64 a0_10, .int .i64 a0_11, .int .i64 a0_12, .int .u32 a0_13] :: G) 4 [true, true, true, true, true, true, false, true, true, false, false, false] (fun i => ?_) (fun hD199 => ?_)
    · obtain ⟨g14, g15⟩ := i
      refine D.to (s' := [(1, .pointer (some ⟨g1, 0, none⟩)), (6, .pointer (some ⟨g14, 0, none⟩)), (7, .pointer (some ⟨g15, 0, none⟩)), (15, .agg #[.int .u64 a0_1, .int .i64 a0_2, .string a0_3, .string a0_4]), (17, .agg #[.int .u64 a0_5, .int .i64 a0_6, .int .i64 a0_7, .int .i64 a0_8, .string a0_9]), (19, .agg #[.int .i64 a0_10, .int .i64 a0_11, .int .i64 a0_12, .int .u32 a0_13])]) (G' := cells g14 29 [.int .u64 0, .int .i64 0, .int .i64 0, .int .i64 0, .string ByteArray.empty] :: cells g15 34 [.int .i64 0, .int .i64 0, .int .i64 0, .int .u32 0] :: cells g1 36 [.int .i64 a0_0, .int .u64 a0_1, .int .i64 a0_2, .string a0_3, .string a0_4, .int .u64 a0_5, .int .i64 a0_6, .int .i64 a0_7, .int .i64 a0_8, .string a0_9, .int .i64 a0_10, .int .i64 a0_11, .int .i64 a0_12, .int .u32 a0_13] :: G) (by exact ⟨rfl, rfl, rfl, rfl, rfl, rfl, trivial⟩) (fun w h => h) ?_
      refine D.any [6] (by kernel_rfl) rfl ⟨?_, trivial⟩
      refine DW.j (ls' := [true, true, true, true, true, true, true, true, true, false, false, false]) rfl rfl ?_
      refine J.alloc (L := [.int .u64 0, .int .i64 0, .string ByteArray.empty, .string ByteArray.empty]) rfl ti27 rfl (fun g13 => ?_)
      refine J.nil ?_
      refine D.backK 3 rfl ?_
      exact D.to (by exact ⟨rfl, rfl, rfl, rfl, rfl, rfl, rfl, trivial⟩) (fun w h => h) (hD196 (g13, g14, g15))
    refine D.share (fun (i : Nat) => [(1, .pointer (some ⟨g1, 0, none⟩)), (5, .pointer (some ⟨i, 0, none⟩)), (15, .agg #[.int .u64 a0_1, .int .i64 a0_2, .string a0_3, .string a0_4]), (17, .agg #[.int .u64 a0_5, .int .i64 a0_6, .int .i64 a0_7, .int .i64 a0_8, .string a0_9]), (19, .agg #[.int .i64 a0_10, .int .i64 a0_11, .int .i64 a0_12, .int .u32 a0_13])]) (fun (i : Nat) => cells i 27 [.int .u64 0, .int .i64 0, .string ByteArray.empty, .string ByteArray.empty] :: cells g1 36 [.int .i64 a0_0, .int .u64 a0_1, .int .i64 a0_2, .string a0_3, .string a0_4, .int .u64 a0_5, .int .i64 a0_6, .int .i64 a0_7, .int .i64 a0_8, .string a0_9, .int .i64 a0_10, .int .i64 a0_11, .int .i64 a0_12, .int .u32 a0_13] :: G) 5 [true, true, true, true, true, true, true, false, false, false, false, false] (fun g13 => ?_) (fun hD200 => ?_)
    · refine D.to (s' := [(1, .pointer (some ⟨g1, 0, none⟩)), (5, .pointer (some ⟨g13, 0, none⟩)), (15, .agg #[.int .u64 a0_1, .int .i64 a0_2, .string a0_3, .string a0_4]), (17, .agg #[.int .u64 a0_5, .int .i64 a0_6, .int .i64 a0_7, .int .i64 a0_8, .string a0_9]), (19, .agg #[.int .i64 a0_10, .int .i64 a0_11, .int .i64 a0_12, .int .u32 a0_13])]) (G' := cells g13 27 [.int .u64 0, .int .i64 0, .string ByteArray.empty, .string ByteArray.empty] :: cells g1 36 [.int .i64 a0_0, .int .u64 a0_1, .int .i64 a0_2, .string a0_3, .string a0_4, .int .u64 a0_5, .int .i64 a0_6, .int .i64 a0_7, .int .i64 a0_8, .string a0_9, .int .i64 a0_10, .int .i64 a0_11, .int .i64 a0_12, .int .u32 a0_13] :: G) (by exact ⟨rfl, rfl, rfl, rfl, rfl, trivial⟩) (fun w h => h) ?_
      refine D.any [7, 8] (by kernel_rfl) rfl ⟨?_, ?_, trivial⟩
      · refine DW.j (ls' := [true, true, true, true, true, true, true, true, false, false, false, false]) rfl rfl ?_
        refine J.alloc (L := [.int .u64 0, .int .i64 0, .int .i64 0, .int .i64 0, .string ByteArray.empty]) rfl ti29 rfl (fun g14 => ?_)
        refine J.nil ?_
        refine D.backK 2 rfl ?_
        exact D.to (by exact ⟨rfl, rfl, rfl, rfl, rfl, rfl, trivial⟩) (fun w h => (St.pick [1, 0, 2] [_, _, _] h rfl)) (hD197 (g13, g14))
      · refine DW.j (ls' := [true, true, true, true, true, true, true, false, true, false, false, false]) rfl rfl ?_
        refine J.alloc (L := [.int .i64 0, .int .i64 0, .int .i64 0, .int .u32 0]) rfl ti34 rfl (fun g15 => ?_)
        refine J.nil ?_
        refine D.backK 2 rfl ?_
        exact D.to (by exact ⟨rfl, rfl, rfl, rfl, rfl, rfl, trivial⟩) (fun w h => (St.pick [1, 0, 2] [_, _, _] h rfl)) (hD198 (g13, g15))
    refine D.share (fun (i : Nat) => [(1, .pointer (some ⟨g1, 0, none⟩)), (6, .pointer (some ⟨i, 0, none⟩)), (15, .agg #[.int .u64 a0_1, .int .i64 a0_2, .string a0_3, .string a0_4]), (17, .agg #[.int .u64 a0_5, .int .i64 a0_6, .int .i64 a0_7, .int .i64 a0_8, .string a0_9]), (19, .agg #[.int .i64 a0_10, .int .i64 a0_11, .int .i64 a0_12, .int .u32 a0_13])]) (fun (i : Nat) => cells i 29 [.int .u64 0, .int .i64 0, .int .i64 0, .int .i64 0, .string ByteArray.empty] :: cells g1 36 [.int .i64 a0_0, .int .u64 a0_1, .int .i64 a0_2, .string a0_3, .string a0_4, .int .u64 a0_5, .int .i64 a0_6, .int .i64 a0_7, .int .i64 a0_8, .string a0_9, .int .i64 a0_10, .int .i64 a0_11, .int .i64 a0_12, .int .u32 a0_13] :: G) 5 [true, true, true, true, true, true, false, true, false, false, false, false] (fun g14 => ?_) (fun hD201 => ?_)
    · refine D.to (s' := [(1, .pointer (some ⟨g1, 0, none⟩)), (6, .pointer (some ⟨g14, 0, none⟩)), (15, .agg #[.int .u64 a0_1, .int .i64 a0_2, .string a0_3, .string a0_4]), (17, .agg #[.int .u64 a0_5, .int .i64 a0_6, .int .i64 a0_7, .int .i64 a0_8, .string a0_9]), (19, .agg #[.int .i64 a0_10, .int .i64 a0_11, .int .i64 a0_12, .int .u32 a0_13])]) (G' := cells g14 29 [.int .u64 0, .int .i64 0, .int .i64 0, .int .i64 0, .string ByteArray.empty] :: cells g1 36 [.int .i64 a0_0, .int .u64 a0_1, .int .i64 a0_2, .string a0_3, .string a0_4, .int .u64 a0_5, .int .i64 a0_6, .int .i64 a0_7, .int .i64 a0_8, .string a0_9, .int .i64 a0_10, .int .i64 a0_11, .int .i64 a0_12, .int .u32 a0_13] :: G) (by exact ⟨rfl, rfl, rfl, rfl, rfl, trivial⟩) (fun w h => h) ?_
      refine D.any [6, 8] (by kernel_rfl) rfl ⟨?_, ?_, trivial⟩
      · refine DW.j (ls' := [true, true, true, true, true, true, true, true, false, false, false, false]) rfl rfl ?_
        refine J.alloc (L := [.int .u64 0, .int .i64 0, .string ByteArray.empty, .string ByteArray.empty]) rfl ti27 rfl (fun g13 => ?_)
        refine J.nil ?_
        refine D.backK 2 rfl ?_
        exact D.to (by exact ⟨rfl, rfl, rfl, rfl, rfl, rfl, trivial⟩) (fun w h => h) (hD197 (g13, g14))
      · refine DW.j (ls' := [true, true, true, true, true, true, false, true, true, false, false, false]) rfl rfl ?_
        refine J.alloc (L := [.int .i64 0, .int .i64 0, .int .i64 0, .int .u32 0]) rfl ti34 rfl (fun g15 => ?_)
        refine J.nil ?_
        refine D.backK 2 rfl ?_
        exact D.to (by exact ⟨rfl, rfl, rfl, rfl, rfl, rfl, trivial⟩) (fun w h => (St.pick [1, 0, 2] [_, _, _] h rfl)) (hD199 (g14, g15))
    refine D.share (fun (i : Nat) => [(1, .pointer (some ⟨g1, 0, none⟩)), (7, .pointer (some ⟨i, 0, none⟩)), (15, .agg #[.int .u64 a0_1, .int .i64 a0_2, .string a0_3, .string a0_4]), (17, .agg #[.int .u64 a0_5, .int .i64 a0_6, .int .i64 a0_7, .int .i64 a0_8, .string a0_9]), (19, .agg #[.int .i64 a0_10, .int .i64 a0_11, .int .i64 a0_12, .int .u32 a0_13])]) (fun (i : Nat) => cells i 34 [.int .i64 0, .int .i64 0, .int .i64 0, .int .u32 0] :: cells g1 36 [.int .i64 a0_0, .int .u64 a0_1, .int .i64 a0_2, .string a0_3, .string a0_4, .int .u64 a0_5, .int .i64 a0_6, .int .i64 a0_7, .int .i64 a0_8, .string a0_9, .int .i64 a0_10, .int .i64 a0_11, .int .i64 a0_12, .int .u32 a0_13] :: G) 5 [true, true, true, true, true, true, false, false, true, false, false, false] (fun g15 => ?_) (fun hD202 => ?_)
    · refine D.to (s' := [(1, .pointer (some ⟨g1, 0, none⟩)), (7, .pointer (some ⟨g15, 0, none⟩)), (15, .agg #[.int .u64 a0_1, .int .i64 a0_2, .string a0_3, .string a0_4]), (17, .agg #[.int .u64 a0_5, .int .i64 a0_6, .int .i64 a0_7, .int .i64 a0_8, .string a0_9]), (19, .agg #[.int .i64 a0_10, .int .i64 a0_11, .int .i64 a0_12, .int .u32 a0_13])]) (G' := cells g15 34 [.int .i64 0, .int .i64 0, .int .i64 0, .int .u32 0] :: cells g1 36 [.int .i64 a0_0, .int .u64 a0_1, .int .i64 a0_2, .string a0_3, .string a0_4, .int .u64 a0_5, .int .i64 a0_6, .int .i64 a0_7, .int .i64 a0_8, .string a0_9, .int .i64 a0_10, .int .i64 a0_11, .int .i64 a0_12, .int .u32 a0_13] :: G) (by exact ⟨rfl, rfl, rfl, rfl, rfl, trivial⟩) (fun w h => h) ?_
      refine D.any [6, 7] (by kernel_rfl) rfl ⟨?_, ?_, trivial⟩
      · refine DW.j (ls' := [true, true, true, true, true, true, true, false, true, false, false, false]) rfl rfl ?_
        refine J.alloc (L := [.int .u64 0, .int .i64 0, .string ByteArray.empty, .string ByteArray.empty]) rfl ti27 rfl (fun g13 => ?_)
        refine J.nil ?_
        refine D.backK 2 rfl ?_
        exact D.to (by exact ⟨rfl, rfl, rfl, rfl, rfl, rfl, trivial⟩) (fun w h => h) (hD198 (g13, g15))
      · refine DW.j (ls' := [true, true, true, true, true, true, false, true, true, false, false, false]) rfl rfl ?_
        refine J.alloc (L := [.int .u64 0, .int .i64 0, .int .i64 0, .int .i64 0, .string ByteArray.empty]) rfl ti29 rfl (fun g14 => ?_)
        refine J.nil ?_
        refine D.backK 2 rfl ?_
        exact D.to (by exact ⟨rfl, rfl, rfl, rfl, rfl, rfl, trivial⟩) (fun w h => h) (hD199 (g14, g15))
    refine D.share (fun (i : Unit) => [(1, .pointer (some ⟨g1, 0, none⟩)), (15, .agg #[.int .u64 a0_1, .int .i64 a0_2, .string a0_3, .string a0_4]), (17, .agg #[.int .u64 a0_5, .int .i64 a0_6, .int .i64 a0_7, .int .i64 a0_8, .string a0_9]), (19, .agg #[.int .i64 a0_10, .int .i64 a0_11, .int .i64 a0_12, .int .u32 a0_13])]) (fun (i : Unit) => cells g1 36 [.int .i64 a0_0, .int .u64 a0_1, .int .i64 a0_2, .string a0_3, .string a0_4, .int .u64 a0_5, .int .i64 a0_6, .int .i64 a0_7, .int .i64 a0_8, .string a0_9, .int .i64 a0_10, .int .i64 a0_11, .int .i64 a0_12, .int .u32 a0_13] :: G) 6 [true, true, true, true, true, true, false, false, false, false, false, false] (fun i => ?_) (fun hD203 => ?_)
    · refine D.to (s' := [(1, .pointer (some ⟨g1, 0, none⟩)), (15, .agg #[.int .u64 a0_1, .int .i64 a0_2, .string a0_3, .string a0_4]), (17, .agg #[.int .u64 a0_5, .int .i64 a0_6, .int .i64 a0_7, .int .i64 a0_8, .string a0_9]), (19, .agg #[.int .i64 a0_10, .int .i64 a0_11, .int .i64 a0_12, .int .u32 a0_13])]) (G' := cells g1 36 [.int .i64 a0_0, .int .u64 a0_1, .int .i64 a0_2, .string a0_3, .string a0_4, .int .u64 a0_5, .int .i64 a0_6, .int .i64 a0_7, .int .i64 a0_8, .string a0_9, .int .i64 a0_10, .int .i64 a0_11, .int .i64 a0_12, .int .u32 a0_13] :: G) (by exact ⟨rfl, rfl, rfl, rfl, trivial⟩) (fun w h => h) ?_
      refine D.any [6, 7, 8] (by kernel_rfl) rfl ⟨?_, ?_, ?_, trivial⟩
      · refine DW.j (ls' := [true, true, true, true, true, true, true, false, false, false, false, false]) rfl rfl ?_
        refine J.alloc (L := [.int .u64 0, .int .i64 0, .string ByteArray.empty, .string ByteArray.empty]) rfl ti27 rfl (fun g13 => ?_)
        refine J.nil ?_
        refine D.backK 1 rfl ?_
        exact D.to (by exact ⟨rfl, rfl, rfl, rfl, rfl, trivial⟩) (fun w h => h) (hD200 g13)
      · refine DW.j (ls' := [true, true, true, true, true, true, false, true, false, false, false, false]) rfl rfl ?_
        refine J.alloc (L := [.int .u64 0, .int .i64 0, .int .i64 0, .int .i64 0, .string ByteArray.empty]) rfl ti29 rfl (fun g14 => ?_)
        refine J.nil ?_
        refine D.backK 1 rfl ?_
        exact D.to (by exact ⟨rfl, rfl, rfl, rfl, rfl, trivial⟩) (fun w h => h) (hD201 g14)
      · refine DW.j (ls' := [true, true, true, true, true, true, false, false, true, false, false, false]) rfl rfl ?_
        refine J.alloc (L := [.int .i64 0, .int .i64 0, .int .i64 0, .int .u32 0]) rfl ti34 rfl (fun g15 => ?_)
        refine J.nil ?_
        refine D.backK 1 rfl ?_
        exact D.to (by exact ⟨rfl, rfl, rfl, rfl, rfl, trivial⟩) (fun w h => h) (hD202 g15)
    refine D.p (ls' := [true, false, false, false, false, false, false, false, false, false, false, false]) 0 rfl rfl rfl rfl (by kernel_rfl) rfl (Y.fa0 fa36_1 rfl rfl) ?_
    refine D.r (ls' := [true, true, false, false, false, false, false, false, false, false, false, false]) 1 1 0 rfl rfl rfl rfl (by kernel_rfl) (by kernel_rfl) rfl rfl (Y.ldCA (us := [.int .u64 a0_1, .int .i64 a0_2, .string a0_3, .string a0_4]) 0 Try.underlying27 rfl ti27 rfl rfl rfl rfl) ?_
    refine D.p (ls' := [true, true, true, false, false, false, false, false, false, false, false, false]) 2 rfl rfl rfl rfl (by kernel_rfl) rfl (Y.fa0 fa36_2 rfl rfl) ?_
    refine D.r (ls' := [true, true, true, true, false, false, false, false, false, false, false, false]) 3 1 0 rfl rfl rfl rfl (by kernel_rfl) (by kernel_rfl) rfl rfl (Y.ldCA (us := [.int .u64 a0_5, .int .i64 a0_6, .int .i64 a0_7, .int .i64 a0_8, .string a0_9]) 0 Try.underlying29 rfl ti29 rfl rfl rfl rfl) ?_
    refine D.p (ls' := [true, true, true, true, true, false, false, false, false, false, false, false]) 4 rfl rfl rfl rfl (by kernel_rfl) rfl (Y.fa0 fa36_3 rfl rfl) ?_
    refine D.r (ls' := [true, true, true, true, true, true, false, false, false, false, false, false]) 5 1 0 rfl rfl rfl rfl (by kernel_rfl) (by kernel_rfl) rfl rfl (Y.ldCA (us := [.int .i64 a0_10, .int .i64 a0_11, .int .i64 a0_12, .int .u32 a0_13]) 0 Try.underlying34 rfl ti34 rfl rfl rfl rfl) ?_
    exact D.to (by exact ⟨rfl, rfl, rfl, rfl, trivial⟩) (fun w h => h) (hD203 ())
/-! ### salvor/frame.Encode: function 18 -/
def fEncode.f (K : Nat) (a0_0 : Int) (a0_1 : Int) (a0_2 : Int) (a0_3 : ByteArray) (a0_4 : ByteArray) (a0_5 : Int) (a0_6 : Int) (a0_7 : Int) (a0_8 : Int) (a0_9 : ByteArray) (a0_10 : Int) (a0_11 : Int) (a0_12 : Int) (a0_13 : Int) : Option ((List Int) × Int) := (fBody.f K a0_0 a0_1 a0_2 a0_3 a0_4 a0_5 a0_6 a0_7 a0_8 a0_9 a0_10 a0_11 a0_12 a0_13).bind fun t3 => if t3.2 ≠ 0 then (some (([] : List Int), t3.2)) else ((Wrap.f K t3.1).bind fun t11 => (Digits.f K (IntKind.wrap .u64 (t11.length : Int)) 3).bind fun t16 => if t16.2 ≠ 0 then (some (([] : List Int), 40)) else ((Sum.f K [t16.1, t11]).bind fun t27 => (Digits.f K (IntKind.wrap .u64 t27) 5).bind fun t29 => gd (([167].length + t16.1.length) * 1 ≤ 140737488355328) (gd ((([167] ++ t16.1).length + t11.length) * 1 ≤ 140737488355328) (gd (((([167] ++ t16.1) ++ t11).length + t29.1.length) * 1 ≤ 140737488355328) (some (((([167] ++ t16.1) ++ t11) ++ t29.1), 0))))))
theorem fEncode.calls {B : Nat} {w0 : World} {G : List HP} (K : Nat) (a0_0 : Int) (a0_1 : Int) (a0_2 : Int) (a0_3 : ByteArray) (a0_4 : ByteArray) (a0_5 : Int) (a0_6 : Int) (a0_7 : Int) (a0_8 : Int) (a0_9 : ByteArray) (a0_10 : Int) (a0_11 : Int) (a0_12 : Int) (a0_13 : Int) (r : (List Int) × Int) (H : fEncode.f K a0_0 a0_1 a0_2 a0_3 a0_4 a0_5 a0_6 a0_7 a0_8 a0_9 a0_10 a0_11 a0_12 a0_13 = some r) (w : World) (hw : St B w0 (G) w) :
    Calls Try.prog 18 [.agg #[.int .i64 a0_0, .int .u64 a0_1, .int .i64 a0_2, .string a0_3, .string a0_4, .int .u64 a0_5, .int .i64 a0_6, .int .i64 a0_7, .int .i64 a0_8, .string a0_9, .int .i64 a0_10, .int .i64 a0_11, .int .i64 a0_12, .int .u32 a0_13]].toArray w (fun e w' => ∃ A0 c0, e = .returned (.tuple #[.slice A0 r.1.length c0, .int .i64 r.2]) ∧ St B w0 (own 5 1 A0 c0 (r.1.map (Value.int .u8)) :: G) w') := by
  unfold fEncode.f at H
  refine calls_of (n := 48) (s := [(0, .agg #[.int .i64 a0_0, .int .u64 a0_1, .int .i64 a0_2, .string a0_3, .string a0_4, .int .u64 a0_5, .int .i64 a0_6, .int .i64 a0_7, .int .i64 a0_8, .string a0_9, .int .i64 a0_10, .int .i64 a0_11, .int .i64 a0_12, .int .u32 a0_13])]) Try.func18 rfl rfl rfl rfl ?_ hw
  refine C.rs ?_
  refine J.box (L := [.int .i64 a0_0, .int .u64 a0_1, .int .i64 a0_2, .string a0_3, .string a0_4, .int .u64 a0_5, .int .i64 a0_6, .int .i64 a0_7, .int .i64 a0_8, .string a0_9, .int .i64 a0_10, .int .i64 a0_11, .int .i64 a0_12, .int .u32 a0_13]) rfl rfl rfl (fun g1 => ?_)
  refine J.p rfl rfl rfl rfl (Y.asg rfl) ?_
  refine J.p rfl rfl rfl rfl (Y.asg rfl) ?_
  refine J.nx ?_
  refine C.rs ?_
  refine J.r rfl rfl rfl rfl (Y.ldCA (us := [.int .i64 a0_0, .int .u64 a0_1, .int .i64 a0_2, .string a0_3, .string a0_4, .int .u64 a0_5, .int .i64 a0_6, .int .i64 a0_7, .int .i64 a0_8, .string a0_9, .int .i64 a0_10, .int .i64 a0_11, .int .i64 a0_12, .int .u32 a0_13]) 0 Try.underlying36 rfl ti36 rfl rfl rfl rfl) ?_
  obtain ⟨t3, hC4, H⟩ := bind_some H
  refine J.call (us := []) (cap := []) rfl rfl rfl go20 (fun w hw => by have hcc := fBody.calls K a0_0 a0_1 a0_2 a0_3 a0_4 a0_5 a0_6 a0_7 a0_8 a0_9 a0_10 a0_11 a0_12 a0_13 t3 hC4 w hw; exact hcc) (fun e w1 h1 => ?_)
  obtain ⟨A5, c6, rfl, hw52⟩ := h1
  refine ⟨_, _, rfl, hw52, ?_⟩
  refine J.p rfl rfl rfl rfl (Y.mv rfl) ?_
  refine J.p rfl rfl rfl rfl (Y.ext rfl rfl) ?_
  refine J.p rfl rfl rfl rfl (Y.ext rfl rfl) ?_
  refine J.p rfl rfl rfl rfl (Y.asg rfl) ?_
  refine J.p rfl rfl rfl rfl (Y.asg rfl) ?_
  refine J.nx ?_
  refine C.seq ?_
  refine C.rs ?_
  refine J.p rfl rfl rfl rfl (Y.mv rfl) ?_
  refine J.p rfl rfl rfl rfl (Y.bin rfl rfl rfl) ?_
  refine J.nx ?_
  refine split2 H (fun c8 H => ?_) (fun c8 H => ?_)
  · refine C.condT (congrArg (fun b => some (Value.bool b)) (decide_eq_true c8)) ?_
    refine C.rs ?_
    refine J.p rfl rfl rfl rfl (Y.mv rfl) ?_
    refine J.p rfl rfl rfl rfl (Y.asg rfl) ?_
    refine J.p rfl rfl rfl rfl (Y.asg rfl) ?_
    refine J.nx ?_
    refine C.ret ?_
    obtain rfl := Option.some.inj H
    refine T.th ?_
    exact ret_ok (ks := [2, 3]) rfl rfl (fun w h => ⟨none, 0, rfl, (St.pick [0] [_, _, _] (h.nilOwn 5 1) rfl)⟩)
  · refine C.condF (congrArg (fun b => some (Value.bool b)) (decide_eq_false c8)) ?_
    refine C.skip ?_
    refine N.nx ?_
    refine C.rs ?_
    refine J.p rfl rfl rfl rfl (Y.mv rfl) ?_
    refine J.know (own_leL 0 rfl) (fun hc10 => ?_)
    obtain ⟨t11, hC12, H⟩ := bind_some H
    refine J.call (us := []) (cap := []) rfl rfl rfl go43 (fun w hw => by have hcc := Wrap.calls K t3.1 A5 c6 (RdG.own 0 rfl) hc10 t11 hC12 w hw; exact hcc) (fun e w1 h1 => ?_)
    obtain ⟨A13, c14, rfl, hw51⟩ := h1
    refine ⟨_, _, rfl, hw51, ?_⟩
    refine J.p rfl rfl rfl rfl (Y.asg rfl) ?_
    refine J.nx ?_
    refine C.rs ?_
    refine J.p rfl rfl rfl rfl (Y.mv rfl) ?_
    refine J.p rfl rfl rfl rfl (Y.lenS Try.underlying22 rfl) ?_
    refine J.p rfl rfl rfl rfl (Y.conv Try.underlying3 Try.underlying25 rfl) ?_
    obtain ⟨t16, hC17, H⟩ := bind_some H
    refine J.call (us := []) (cap := []) rfl rfl rfl go44 (fun w hw => by have hcc := Digits.calls K (IntKind.wrap .u64 (t11.length : Int)) 3 t16 hC17 w hw; exact hcc) (fun e w1 h1 => ?_)
    obtain ⟨A18, c19, rfl, hw50⟩ := h1
    refine ⟨_, _, rfl, hw50, ?_⟩
    refine J.p rfl rfl rfl rfl (Y.mv rfl) ?_
    refine J.p rfl rfl rfl rfl (Y.ext rfl rfl) ?_
    refine J.p rfl rfl rfl rfl (Y.ext rfl rfl) ?_
    refine J.p rfl rfl rfl rfl (Y.asg rfl) ?_
    refine J.p rfl rfl rfl rfl (Y.asg rfl) ?_
    refine J.nx ?_
    refine C.seq ?_
    refine C.rs ?_
    refine J.p rfl rfl rfl rfl (Y.mv rfl) ?_
    refine J.p rfl rfl rfl rfl (Y.bin rfl rfl rfl) ?_
    refine J.nx ?_
    refine split2 H (fun c21 H => ?_) (fun c21 H => ?_)
    · refine C.condT (congrArg (fun b => some (Value.bool b)) (decide_eq_true c21)) ?_
      refine C.rs ?_
      refine J.p rfl rfl rfl rfl (Y.asg rfl) ?_
      refine J.p rfl rfl rfl rfl (Y.asg rfl) ?_
      refine J.nx ?_
      refine C.ret ?_
      obtain rfl := Option.some.inj H
      refine T.th ?_
      exact ret_ok (ks := [2, 3]) rfl rfl (fun w h => ⟨none, 0, rfl, (St.pick [0] [_, _, _, _, _] (h.nilOwn 5 1) rfl)⟩)
    · refine C.condF (congrArg (fun b => some (Value.bool b)) (decide_eq_false c21)) ?_
      refine C.skip ?_
      refine N.nx ?_
      refine C.rs ?_
      refine J.p rfl rfl rfl rfl (Y.mv rfl) ?_
      refine J.p rfl rfl rfl rfl (Y.mv rfl) ?_
      refine J.know (own_leL 0 rfl) (fun hc24 => ?_)
      refine J.know (own_leL 1 rfl) (fun hc25 => ?_)
      refine J.bsV (L := [.slice A18 t16.1.length c19, .slice A13 t11.length c14]) rfl Try.underlying56 ti22 rfl rfl rfl rfl rfl (fun A23 => ?_)
      obtain ⟨t27, hC28, H⟩ := bind_some H
      refine J.call (us := []) (cap := []) rfl rfl rfl go19 (fun w hw => by have hcc := Sum.calls K [t16.1, t11] A23 2 [.slice A18 t16.1.length c19, .slice A13 t11.length c14] (RdG.own 0 rfl) (VV.cons (RdG.own 1 rfl) hc24 (VV.cons (RdG.own 2 rfl) hc25 VV.nil)) (Nat.le_refl _) t27 hC28 w hw; exact hcc) (fun e w1 h1 => ?_)
      obtain ⟨rfl, hw49⟩ := h1
      refine ⟨_, _, rfl, hw49, ?_⟩
      refine J.p rfl rfl rfl rfl (Y.conv Try.underlying30 Try.underlying25 rfl) ?_
      obtain ⟨t29, hC30, H⟩ := bind_some H
      refine J.call (us := []) (cap := []) rfl rfl rfl go44 (fun w hw => by have hcc := Digits.calls K (IntKind.wrap .u64 t27) 5 t29 hC30 w hw; exact hcc) (fun e w1 h1 => ?_)
      obtain ⟨A31, c32, rfl, hw48⟩ := h1
      refine ⟨_, _, rfl, hw48, ?_⟩
      refine J.p rfl rfl rfl rfl (Y.mv rfl) ?_
      refine J.p rfl rfl rfl rfl (Y.ext rfl rfl) ?_
      refine J.p rfl rfl rfl rfl (Y.ext rfl rfl) ?_
      refine J.p rfl rfl rfl rfl (Y.asg rfl) ?_
      refine J.p rfl rfl rfl rfl (Y.asg rfl) ?_
      refine J.nx ?_
      refine C.rs ?_
      refine J.bsL (enc := (Value.int .u8)) (xs := [167]) rfl Try.underlying22 ti5 rfl rfl rfl rfl rfl (fun A34 => ?_)
      refine J.p rfl rfl rfl rfl (Y.mv rfl) ?_
      obtain ⟨p38, H⟩ := gd_some H
      refine J.appL (enc := (Value.int .u8)) (xs := [167]) (ys := t16.1) rfl Try.underlying22 ti5 rfl (by decide) rfl rfl (fun _ => rfl) (RdG.own 3 rfl) p38 (fun A36 c37 => ?_)
      refine J.pull 3 rfl rfl (J.drop ?_)
      refine J.p rfl rfl rfl rfl (Y.asg rfl) ?_
      refine J.nx ?_
      refine C.rs ?_
      refine J.p rfl rfl rfl rfl (Y.mv rfl) ?_
      refine J.p rfl rfl rfl rfl (Y.mv rfl) ?_
      obtain ⟨p42, H⟩ := gd_some H
      refine J.appL (enc := (Value.int .u8)) (xs := ([167] ++ t16.1)) (ys := t11) rfl Try.underlying22 ti5 rfl (by decide) rfl rfl (fun _ => rfl) (RdG.own 3 rfl) p42 (fun A40 c41 => ?_)
      refine J.pull 3 rfl rfl (J.drop ?_)
      refine J.p rfl rfl rfl rfl (Y.asg rfl) ?_
      refine J.nx ?_
      refine C.rs ?_
      refine J.p rfl rfl rfl rfl (Y.mv rfl) ?_
      refine J.p rfl rfl rfl rfl (Y.mv rfl) ?_
      obtain ⟨p46, H⟩ := gd_some H
      refine J.appL (enc := (Value.int .u8)) (xs := (([167] ++ t16.1) ++ t11)) (ys := t29.1) rfl Try.underlying22 ti5 rfl (by decide) rfl rfl (fun _ => rfl) (RdG.own 1 rfl) p46 (fun A44 c45 => ?_)
      refine J.pull 1 rfl rfl (J.drop ?_)
      refine J.p rfl rfl rfl rfl (Y.asg rfl) ?_
      refine J.p rfl rfl rfl rfl (Y.asg rfl) ?_
      refine J.nx ?_
      refine C.ret ?_
      obtain rfl := Option.some.inj H
      exact ret_ok (ks := [2, 3]) rfl rfl (fun w h => ⟨A44, c45, rfl, (St.pick [0] [_, _, _, _] h rfl)⟩)
end Go.Proofs.Ytakolnamobkkkaa
