/- Own text, printed by the lifting program: each Go function beside a plain function, and the proof that a call of the one comes to the other. Conditions: what came in can be read. -/
import Derived.Test.YtakolnamobkkkaaLiftB
set_option linter.unusedVariables false
set_option linter.unusedSimpArgs false
set_option maxRecDepth 10000
set_option maxHeartbeats 4000000
namespace Go.Proofs.Ytakolnamobkkkaa
open Go Go.Sx
theorem go14 : GoF Try.prog 14 := GoF.of Try.func14 (by kernel_rfl) (by kernel_rfl)
theorem go17 : GoF Try.prog 17 := GoF.of Try.func17 (by kernel_rfl) (by kernel_rfl)
/-! ### salvor/salvorlaw4.FrameHit: function 8 -/
def FrameHit.l1 (o22 : Int) (t5 : (List Int) × Int) (a2 : Int) : Nat → ((List Int) × Int) → Option ((List Int))
  | 0, _ => none
  | k + 1, i122 => (if i122.2 < 32 then (some (decide ((IntKind.wrap .i64 (o22 + i122.2)) < (IntKind.wrap .i64 (8 * (IntKind.wrap .i64 ((t5.1.length : Int) - 9))))))) else (some false)).bind fun o126 => if o126 = true then ((gd ((0 : Int) ≤ i122.2) (if (Int.tmod (Sx.shr .u32 (Sx.bits .or .u32 a2 1) i122.2) 2) = 1 then (gd ((0 : Int) ≤ (IntKind.wrap .i64 (4 + (IntKind.wrap .i64 (Int.tdiv (IntKind.wrap .i64 (o22 + i122.2)) 8)))) ∧ (IntKind.wrap .i64 (4 + (IntKind.wrap .i64 (Int.tdiv (IntKind.wrap .i64 (o22 + i122.2)) 8)))) < (i122.1.length : Int)) (gd ((0 : Int) ≤ (Int.tmod (IntKind.wrap .i64 (o22 + i122.2)) 8)) (gd ((0 : Int) ≤ (IntKind.wrap .i64 (4 + (IntKind.wrap .i64 (Int.tdiv (IntKind.wrap .i64 (o22 + i122.2)) 8)))) ∧ (IntKind.wrap .i64 (4 + (IntKind.wrap .i64 (Int.tdiv (IntKind.wrap .i64 (o22 + i122.2)) 8)))) < (i122.1.length : Int)) (gd ((0 : Int) ≤ (IntKind.wrap .i64 (4 + (IntKind.wrap .i64 (Int.tdiv (IntKind.wrap .i64 (o22 + i122.2)) 8)))) ∧ (IntKind.wrap .i64 (4 + (IntKind.wrap .i64 (Int.tdiv (IntKind.wrap .i64 (o22 + i122.2)) 8)))) < (i122.1.length : Int)) (gd ((0 : Int) ≤ (IntKind.wrap .i64 (4 + (IntKind.wrap .i64 (Int.tdiv (IntKind.wrap .i64 (o22 + i122.2)) 8)))) ∧ (IntKind.wrap .i64 (4 + (IntKind.wrap .i64 (Int.tdiv (IntKind.wrap .i64 (o22 + i122.2)) 8)))) < (i122.1.length : Int)) (some (i122.1.set (Int.toNat (IntKind.wrap .i64 (4 + (IntKind.wrap .i64 (Int.tdiv (IntKind.wrap .i64 (o22 + i122.2)) 8))))) (Sx.bits .xor .u8 (rd i122.1 (IntKind.wrap .i64 (4 + (IntKind.wrap .i64 (Int.tdiv (IntKind.wrap .i64 (o22 + i122.2)) 8))))) (Sx.shl .u8 1 (Int.tmod (IntKind.wrap .i64 (o22 + i122.2)) 8)))))))))) else (some i122.1))).bind fun o145 => FrameHit.l1 o22 t5 a2 k (o145, IntKind.wrap .i64 (i122.2 + 1))) else (some i122.1)
def FrameHit.f (K : Nat) (a0_0 : Int) (a0_1 : Int) (a0_2 : Int) (a0_3 : ByteArray) (a0_4 : ByteArray) (a0_5 : Int) (a0_6 : Int) (a0_7 : Int) (a0_8 : Int) (a0_9 : ByteArray) (a0_10 : Int) (a0_11 : Int) (a0_12 : Int) (a0_13 : Int) (a1 : Int) (a2 : Int) (a3 : Int) (a4 : Int) : Option (Bool) := (known.f K).bind fun t3 => (fEncode.f K a0_0 a0_1 a0_2 a0_3 a0_4 a0_5 a0_6 a0_7 a0_8 a0_9 a0_10 a0_11 a0_12 a0_13).bind fun t5 => (if t5.2 ≠ 0 then (some true) else (some (decide ((t5.1.length : Int) < 10)))).bind fun o11 => if o11 = true then (if t3 = true then (some (decide (t5.2 ≠ 0))) else (some false)) else (gd ((IntKind.wrap .i64 (8 * (IntKind.wrap .i64 ((t5.1.length : Int) - 9)))) ≠ (0 : Int)) ((if (Int.tmod a1 (IntKind.wrap .i64 (8 * (IntKind.wrap .i64 ((t5.1.length : Int) - 9))))) < 0 then (some (IntKind.wrap .i64 (0 - (Int.tmod a1 (IntKind.wrap .i64 (8 * (IntKind.wrap .i64 ((t5.1.length : Int) - 9)))))))) else (some (Int.tmod a1 (IntKind.wrap .i64 (8 * (IntKind.wrap .i64 ((t5.1.length : Int) - 9))))))).bind fun o22 => (if (Int.tmod a3 5) < 0 then (some (IntKind.wrap .i64 (0 - (Int.tmod a3 5)))) else (some (Int.tmod a3 5))).bind fun o28 => gd ((([] : List Int).length + t5.1.length) * 1 ≤ 140737488355328) ((FrameHit.l1 o22 t5 a2 K ((([] : List Int) ++ t5.1), 0)).bind fun o78 => (fDecode.f K o78 0).bind fun t161 => gd ((([] : List Int).length + t5.1.length) * 1 ≤ 140737488355328) (gd ((0 : Int) ≤ (IntKind.wrap .i64 ((IntKind.wrap .i64 ((t5.1.length : Int) - 5)) + o28)) ∧ (IntKind.wrap .i64 ((IntKind.wrap .i64 ((t5.1.length : Int) - 5)) + o28)) < ((([] : List Int) ++ t5.1).length : Int)) (gd ((0 : Int) ≤ (IntKind.wrap .i64 ((IntKind.wrap .i64 ((t5.1.length : Int) - 5)) + o28)) ∧ (IntKind.wrap .i64 ((IntKind.wrap .i64 ((t5.1.length : Int) - 5)) + o28)) < ((([] : List Int) ++ t5.1).length : Int)) (gd ((0 : Int) ≤ (IntKind.wrap .i64 ((IntKind.wrap .i64 ((t5.1.length : Int) - 5)) + o28)) ∧ (IntKind.wrap .i64 ((IntKind.wrap .i64 ((t5.1.length : Int) - 5)) + o28)) < ((([] : List Int) ++ t5.1).length : Int)) ((fDecode.f K ((([] : List Int) ++ t5.1).set (Int.toNat (IntKind.wrap .i64 ((IntKind.wrap .i64 ((t5.1.length : Int) - 5)) + o28))) (Sx.bits .xor .u8 (rd (([] : List Int) ++ t5.1) (IntKind.wrap .i64 ((IntKind.wrap .i64 ((t5.1.length : Int) - 5)) + o28))) (IntKind.wrap .u8 (1 + (Int.tmod a4 255))))) 0).bind fun t176 => if t3 = true then (if t161.2.2.2.2.2.2.2.2.2.2.2.2.2.2.2 ≠ 0 then (some (decide (t176.2.2.2.2.2.2.2.2.2.2.2.2.2.2.2 ≠ 0))) else (some false)) else (some false))))))))
theorem FrameHit.calls {B : Nat} {w0 : World} {G : List HP} (K : Nat) (a0_0 : Int) (a0_1 : Int) (a0_2 : Int) (a0_3 : ByteArray) (a0_4 : ByteArray) (a0_5 : Int) (a0_6 : Int) (a0_7 : Int) (a0_8 : Int) (a0_9 : ByteArray) (a0_10 : Int) (a0_11 : Int) (a0_12 : Int) (a0_13 : Int) (a1 : Int) (a2 : Int) (a3 : Int) (a4 : Int) (r : Bool) (H : FrameHit.f K a0_0 a0_1 a0_2 a0_3 a0_4 a0_5 a0_6 a0_7 a0_8 a0_9 a0_10 a0_11 a0_12 a0_13 a1 a2 a3 a4 = some r) (w : World) (hw : St B w0 (G) w) :
    Calls Try.prog 8 [.agg #[.int .i64 a0_0, .int .u64 a0_1, .int .i64 a0_2, .string a0_3, .string a0_4, .int .u64 a0_5, .int .i64 a0_6, .int .i64 a0_7, .int .i64 a0_8, .string a0_9, .int .i64 a0_10, .int .i64 a0_11, .int .i64 a0_12, .int .u32 a0_13], .int .i64 a1, .int .u32 a2, .int .i64 a3, .int .u8 a4].toArray w (fun e w' => e = .returned (.bool r) ∧ St B w0 (G) w') := by
  unfold FrameHit.f at H
  refine calls_of (n := 142) (s := [(0, .agg #[.int .i64 a0_0, .int .u64 a0_1, .int .i64 a0_2, .string a0_3, .string a0_4, .int .u64 a0_5, .int .i64 a0_6, .int .i64 a0_7, .int .i64 a0_8, .string a0_9, .int .i64 a0_10, .int .i64 a0_11, .int .i64 a0_12, .int .u32 a0_13]), (1, .int .i64 a1), (2, .int .u32 a2), (3, .int .i64 a3), (4, .int .u8 a4)]) Try.func8 rfl rfl rfl rfl ?_ hw
  refine C.rs ?_
  refine J.box (L := [.int .i64 a0_0, .int .u64 a0_1, .int .i64 a0_2, .string a0_3, .string a0_4, .int .u64 a0_5, .int .i64 a0_6, .int .i64 a0_7, .int .i64 a0_8, .string a0_9, .int .i64 a0_10, .int .i64 a0_11, .int .i64 a0_12, .int .u32 a0_13]) rfl rfl rfl (fun g1 => ?_)
  refine J.p rfl rfl rfl rfl (Y.asg rfl) ?_
  refine J.nx ?_
  refine C.rs ?_
  obtain ⟨t3, hC4, H⟩ := bind_some H
  refine J.call (us := []) (cap := []) rfl rfl rfl go14 (fun w hw => by have hcc := known.calls K t3 hC4 w hw; exact hcc) (fun e w1 h1 => ?_)
  obtain ⟨rfl, hw185⟩ := h1
  refine ⟨_, _, rfl, hw185, ?_⟩
  refine J.p rfl rfl rfl rfl (Y.asg rfl) ?_
  refine J.nx ?_
  refine C.rs ?_
  refine J.r rfl rfl rfl rfl (Y.ldCA (us := [.int .i64 a0_0, .int .u64 a0_1, .int .i64 a0_2, .string a0_3, .string a0_4, .int .u64 a0_5, .int .i64 a0_6, .int .i64 a0_7, .int .i64 a0_8, .string a0_9, .int .i64 a0_10, .int .i64 a0_11, .int .i64 a0_12, .int .u32 a0_13]) 0 Try.underlying36 rfl ti36 rfl rfl rfl rfl) ?_
  obtain ⟨t5, hC6, H⟩ := bind_some H
  refine J.call (us := []) (cap := []) rfl rfl rfl go18 (fun w hw => by have hcc := fEncode.calls K a0_0 a0_1 a0_2 a0_3 a0_4 a0_5 a0_6 a0_7 a0_8 a0_9 a0_10 a0_11 a0_12 a0_13 t5 hC6 w hw; exact hcc) (fun e w1 h1 => ?_)
  obtain ⟨A7, c8, rfl, hw184⟩ := h1
  refine ⟨_, _, rfl, hw184, ?_⟩
  refine J.p rfl rfl rfl rfl (Y.mv rfl) ?_
  refine J.p rfl rfl rfl rfl (Y.ext rfl rfl) ?_
  refine J.p rfl rfl rfl rfl (Y.ext rfl rfl) ?_
  refine J.p rfl rfl rfl rfl (Y.asg rfl) ?_
  refine J.p rfl rfl rfl rfl (Y.asg rfl) ?_
  refine J.nx ?_
  refine C.seq ?_
  refine C.rs ?_
  refine J.joinB H (fun (o11 : Bool) (j12 : Unit) => [(1, .int .i64 a1), (2, .int .u32 a2), (3, .int .i64 a3), (4, .int .u8 a4), (11, .bool t3), (12, .slice A7 t5.1.length c8), (13, .int .i64 t5.2), (37, .bool o11)]) (fun (o11 : Bool) (j12 : Unit) => own 5 1 A7 c8 (t5.1.map (Value.int .u8)) :: G) (fun (o11 : Bool) (j12 : Unit) => True) (fun o13 H HK14 => ?_) (fun o11 j12 H _ => ?_)
  · refine J.p rfl rfl rfl rfl (Y.mv rfl) ?_
    refine J.p rfl rfl rfl rfl (Y.bin rfl rfl rfl) ?_
    refine J.p rfl rfl rfl rfl (Y.mv rfl) ?_
    refine split2 H (fun c15 H => ?_) (fun c15 H => ?_)
    · refine J.as (k := 33) rfl (congrArg Value.bool (decide_eq_true c15)) ?_
      refine J.skip rfl rfl ?_
      refine J.skip rfl rfl ?_
      refine J.skip rfl rfl ?_
      refine J.p rfl rfl rfl rfl (Y.pickT rfl rfl) ?_
      refine J.nil ?_
      obtain rfl := Option.some.inj H
      exact N.meet (true, ()) ⟨HK14, trivial⟩ (by exact ⟨rfl, rfl, rfl, rfl, rfl, rfl, rfl, rfl, trivial⟩) (by exact fun w h => (St.pick [0] [_, _] h rfl))
    · refine J.as (k := 33) rfl (congrArg Value.bool (decide_eq_false c15)) ?_
      refine J.p rfl rfl rfl rfl (Y.mv rfl) ?_
      refine J.p rfl rfl rfl rfl (Y.lenS Try.underlying22 rfl) ?_
      refine J.p rfl rfl rfl rfl (Y.bin rfl rfl rfl) ?_
      refine J.p rfl rfl rfl rfl (Y.pickF rfl rfl) ?_
      refine J.nil ?_
      obtain rfl := Option.some.inj H
      exact N.meet (decide ((t5.1.length : Int) < 10), ()) ⟨HK14, trivial⟩ (by exact ⟨rfl, rfl, rfl, rfl, rfl, rfl, rfl, rfl, trivial⟩) (by exact fun w h => (St.pick [0] [_, _] h rfl))
  · refine C.at (s' := [(1, .int .i64 a1), (2, .int .u32 a2), (3, .int .i64 a3), (4, .int .u8 a4), (11, .bool t3), (12, .slice A7 t5.1.length c8), (13, .int .i64 t5.2), (37, .bool o11)]) (G' := own 5 1 A7 c8 (t5.1.map (Value.int .u8)) :: G) rfl rfl ?_
    refine split2 H (fun c16 H => ?_) (fun c16 H => ?_)
    · refine C.condT (congrArg (fun b => some (Value.bool b)) (c16)) ?_
      refine C.rs ?_
      refine J.p rfl rfl rfl rfl (Y.mv rfl) ?_
      refine J.p rfl rfl rfl rfl (Y.mv rfl) ?_
      refine split2 H (fun c17 H => ?_) (fun c17 H => ?_)
      · refine J.as (k := 39) rfl (congrArg Value.bool (c17)) ?_
        refine J.p rfl rfl rfl rfl (Y.mv rfl) ?_
        refine J.p rfl rfl rfl rfl (Y.bin rfl rfl rfl) ?_
        refine J.p rfl rfl rfl rfl (Y.pickT rfl rfl) ?_
        refine J.p rfl rfl rfl rfl (Y.asg rfl) ?_
        refine J.nx ?_
        refine C.ret ?_
        obtain rfl := Option.some.inj H
        refine T.th ?_
        exact ret_ok (ks := [10]) rfl rfl (fun w h => ⟨rfl, (St.pick [] [_] h rfl)⟩)
      · refine J.as (k := 39) rfl (congrArg Value.bool (nt c17)) ?_
        refine J.skip rfl rfl ?_
        refine J.skip rfl rfl ?_
        refine J.p rfl rfl rfl rfl (Y.pickF rfl rfl) ?_
        refine J.p rfl rfl rfl rfl (Y.asg rfl) ?_
        refine J.nx ?_
        refine C.ret ?_
        obtain rfl := Option.some.inj H
        refine T.th ?_
        exact ret_ok (ks := [10]) rfl rfl (fun w h => ⟨rfl, (St.pick [] [_] h rfl)⟩)
    · refine C.condF (congrArg (fun b => some (Value.bool b)) (nt c16)) ?_
      refine C.skip ?_
      refine N.nx ?_
      refine C.rs ?_
      refine J.p rfl rfl rfl rfl (Y.mv rfl) ?_
      refine J.p rfl rfl rfl rfl (Y.lenS Try.underlying22 rfl) ?_
      refine J.p rfl rfl rfl rfl (Y.bin rfl rfl rfl) ?_
      refine J.p rfl rfl rfl rfl (Y.bin rfl rfl rfl) ?_
      refine J.p rfl rfl rfl rfl (Y.asg rfl) ?_
      refine J.nx ?_
      refine C.rs ?_
      refine J.p rfl rfl rfl rfl (Y.mv rfl) ?_
      refine J.p rfl rfl rfl rfl (Y.mv rfl) ?_
      obtain ⟨p18, H⟩ := gd_some H
      refine J.p rfl rfl rfl rfl (Y.rem rfl rfl p18) ?_
      refine J.p rfl rfl rfl rfl (Y.asg rfl) ?_
      refine J.nx ?_
      refine C.seq ?_
      refine C.rs ?_
      refine J.p rfl rfl rfl rfl (Y.mv rfl) ?_
      refine J.p rfl rfl rfl rfl (Y.bin rfl rfl rfl) ?_
      refine J.nx ?_
      refine C.joinN H (fun (o22 : Int) (j23 : Unit) => [(1, .int .i64 o22), (2, .int .u32 a2), (3, .int .i64 a3), (4, .int .u8 a4), (11, .bool t3), (12, .slice A7 t5.1.length c8), (14, .int .i64 (IntKind.wrap .i64 (8 * (IntKind.wrap .i64 ((t5.1.length : Int) - 9)))))]) (fun (o22 : Int) (j23 : Unit) => own 5 1 A7 c8 (t5.1.map (Value.int .u8)) :: G) (fun (o22 : Int) (j23 : Unit) => True) (fun o20 H HK21 => ?_) (fun o22 j23 H _ => ?_)
      · refine split2 H (fun c24 H => ?_) (fun c24 H => ?_)
        · refine C.condT (congrArg (fun b => some (Value.bool b)) (decide_eq_true c24)) ?_
          refine C.reg ?_
          refine J.p rfl rfl rfl rfl (Y.mv rfl) ?_
          refine J.p rfl rfl rfl rfl (Y.neg rfl) ?_
          refine J.p rfl rfl rfl rfl (Y.asg rfl) ?_
          refine J.nil ?_
          obtain rfl := Option.some.inj H
          exact N.meet (IntKind.wrap .i64 (0 - (Int.tmod a1 (IntKind.wrap .i64 (8 * (IntKind.wrap .i64 ((t5.1.length : Int) - 9)))))), ()) ⟨HK21, trivial⟩ (by exact ⟨rfl, rfl, rfl, rfl, rfl, rfl, rfl, trivial⟩) (by exact fun w h => h)
        · refine C.condF (congrArg (fun b => some (Value.bool b)) (decide_eq_false c24)) ?_
          refine C.skip ?_
          obtain rfl := Option.some.inj H
          exact N.meet (Int.tmod a1 (IntKind.wrap .i64 (8 * (IntKind.wrap .i64 ((t5.1.length : Int) - 9)))), ()) ⟨HK21, trivial⟩ (by exact ⟨rfl, rfl, rfl, rfl, rfl, rfl, rfl, trivial⟩) (by exact fun w h => h)
      · refine N.at (s' := [(1, .int .i64 o22), (2, .int .u32 a2), (3, .int .i64 a3), (4, .int .u8 a4), (11, .bool t3), (12, .slice A7 t5.1.length c8), (14, .int .i64 (IntKind.wrap .i64 (8 * (IntKind.wrap .i64 ((t5.1.length : Int) - 9)))))]) (G' := own 5 1 A7 c8 (t5.1.map (Value.int .u8)) :: G) rfl rfl ?_
        refine N.nx ?_
        refine C.rs ?_
        refine J.p rfl rfl rfl rfl (Y.mv rfl) ?_
        refine J.p rfl rfl rfl rfl (Y.rem rfl rfl (by decide)) ?_
        refine J.p rfl rfl rfl rfl (Y.asg rfl) ?_
        refine J.nx ?_
        refine C.seq ?_
        refine C.rs ?_
        refine J.p rfl rfl rfl rfl (Y.mv rfl) ?_
        refine J.p rfl rfl rfl rfl (Y.bin rfl rfl rfl) ?_
        refine J.nx ?_
        refine C.joinN H (fun (o28 : Int) (j29 : Unit) => [(1, .int .i64 o22), (2, .int .u32 a2), (3, .int .i64 o28), (4, .int .u8 a4), (11, .bool t3), (12, .slice A7 t5.1.length c8), (14, .int .i64 (IntKind.wrap .i64 (8 * (IntKind.wrap .i64 ((t5.1.length : Int) - 9)))))]) (fun (o28 : Int) (j29 : Unit) => own 5 1 A7 c8 (t5.1.map (Value.int .u8)) :: G) (fun (o28 : Int) (j29 : Unit) => True) (fun o26 H HK27 => ?_) (fun o28 j29 H _ => ?_)
        · refine split2 H (fun c30 H => ?_) (fun c30 H => ?_)
          · refine C.condT (congrArg (fun b => some (Value.bool b)) (decide_eq_true c30)) ?_
            refine C.reg ?_
            refine J.p rfl rfl rfl rfl (Y.mv rfl) ?_
            refine J.p rfl rfl rfl rfl (Y.neg rfl) ?_
            refine J.p rfl rfl rfl rfl (Y.asg rfl) ?_
            refine J.nil ?_
            obtain rfl := Option.some.inj H
            exact N.meet (IntKind.wrap .i64 (0 - (Int.tmod a3 5)), ()) ⟨HK27, trivial⟩ (by exact ⟨rfl, rfl, rfl, rfl, rfl, rfl, rfl, trivial⟩) (by exact fun w h => h)
          · refine C.condF (congrArg (fun b => some (Value.bool b)) (decide_eq_false c30)) ?_
            refine C.skip ?_
            obtain rfl := Option.some.inj H
            exact N.meet (Int.tmod a3 5, ()) ⟨HK27, trivial⟩ (by exact ⟨rfl, rfl, rfl, rfl, rfl, rfl, rfl, trivial⟩) (by exact fun w h => h)
        · refine N.at (s' := [(1, .int .i64 o22), (2, .int .u32 a2), (3, .int .i64 o28), (4, .int .u8 a4), (11, .bool t3), (12, .slice A7 t5.1.length c8), (14, .int .i64 (IntKind.wrap .i64 (8 * (IntKind.wrap .i64 ((t5.1.length : Int) - 9)))))]) (G' := own 5 1 A7 c8 (t5.1.map (Value.int .u8)) :: G) rfl rfl ?_
          refine N.nx ?_
          refine C.rs ?_
          refine J.p rfl rfl rfl rfl (Y.mv rfl) ?_
          refine J.p rfl rfl rfl rfl (Y.bin rfl rfl rfl) ?_
          refine J.p rfl rfl rfl rfl (Y.asg rfl) ?_
          refine J.nx ?_
          refine C.rs ?_
          refine J.p rfl rfl rfl rfl (Y.asg rfl) ?_
          refine J.nx ?_
          refine C.rs ?_
          refine J.p rfl rfl rfl rfl (Y.mv rfl) ?_
          refine J.p rfl rfl rfl rfl (Y.mv rfl) ?_
          refine J.nilOwn 5 1 ?_
          obtain ⟨p34, H⟩ := gd_some H
          refine J.appL (enc := (Value.int .u8)) (xs := ([] : List Int)) (ys := t5.1) rfl Try.underlying22 ti5 rfl (by decide) rfl rfl (fun _ => rfl) (RdG.own 1 rfl) p34 (fun A32 c33 => ?_)
          refine J.p rfl rfl rfl rfl (Y.asg rfl) ?_
          refine J.nx ?_
          refine C.seq ?_
          refine C.rs ?_
          refine J.p rfl rfl rfl rfl (Y.asg rfl) ?_
          refine J.nx ?_
          refine C.joinN H (fun (o78 : (List Int)) (j79 : (Option Addr) × Nat) => [(3, .int .i64 o28), (4, .int .u8 a4), (11, .bool t3), (12, .slice A7 t5.1.length c8), (15, .slice j79.1 o78.length j79.2)]) (fun (o78 : (List Int)) (j79 : (Option Addr) × Nat) => own 5 1 j79.1 j79.2 (o78.map (Value.int .u8)) :: own 5 1 A7 c8 (t5.1.map (Value.int .u8)) :: G) (fun (o78 : (List Int)) (j79 : (Option Addr) × Nat) => True) (fun o76 H HK77 => ?_) (fun o78 j79 H _ => ?_)
          · refine C.blk ?_
            refine C.loop (fun (i : Nat × ((List Int) × Int) × ((Option Addr) × Nat)) => [(1, .int .i64 o22), (2, .int .u32 (Sx.bits .or .u32 a2 1)), (3, .int .i64 o28), (4, .int .u8 a4), (11, .bool t3), (12, .slice A7 t5.1.length c8), (14, .int .i64 (IntKind.wrap .i64 (8 * (IntKind.wrap .i64 ((t5.1.length : Int) - 9))))), (15, .slice i.2.2.1 i.2.1.1.length i.2.2.2), (16, .int .i64 i.2.1.2)]) (fun (i : Nat × ((List Int) × Int) × ((Option Addr) × Nat)) => own 5 1 i.2.2.1 i.2.2.2 (i.2.1.1.map (Value.int .u8)) :: own 5 1 A7 c8 (t5.1.map (Value.int .u8)) :: G) (fun (i : Nat × ((List Int) × Int) × ((Option Addr) × Nat)) => FrameHit.l1 o22 t5 a2 i.1 i.2.1 = some o76 ∧ (True)) (fun i => i.1) (K, ((([] : List Int) ++ t5.1), 0), (A32, c33)) ⟨H, trivial⟩ (by exact ⟨rfl, rfl, rfl, rfl, rfl, rfl, rfl, rfl, rfl, trivial⟩) (by exact fun w h => h) ?_
            rintro ⟨k159, i122, j123⟩ ⟨H, _⟩
            replace H : FrameHit.l1 o22 t5 a2 k159 i122 = some o76 := H
            obtain ⟨k121, rfl⟩ : ∃ m, k159 = m + 1 := by cases k159 with | zero => exact absurd H (by simp [FrameHit.l1]) | succ m => exact ⟨m, rfl⟩
            rw [FrameHit.l1] at H
            refine C.at (s' := [(1, .int .i64 o22), (2, .int .u32 (Sx.bits .or .u32 a2 1)), (3, .int .i64 o28), (4, .int .u8 a4), (11, .bool t3), (12, .slice A7 t5.1.length c8), (14, .int .i64 (IntKind.wrap .i64 (8 * (IntKind.wrap .i64 ((t5.1.length : Int) - 9))))), (15, .slice j123.1 i122.1.length j123.2), (16, .int .i64 i122.2)]) (G' := own 5 1 j123.1 j123.2 (i122.1.map (Value.int .u8)) :: own 5 1 A7 c8 (t5.1.map (Value.int .u8)) :: G) rfl rfl ?_
            refine C.seq ?_
            refine C.rs ?_
            refine J.joinB H (fun (o126 : Bool) (j127 : Unit) => [(1, .int .i64 o22), (2, .int .u32 (Sx.bits .or .u32 a2 1)), (3, .int .i64 o28), (4, .int .u8 a4), (11, .bool t3), (12, .slice A7 t5.1.length c8), (14, .int .i64 (IntKind.wrap .i64 (8 * (IntKind.wrap .i64 ((t5.1.length : Int) - 9))))), (15, .slice j123.1 i122.1.length j123.2), (16, .int .i64 i122.2), (73, .bool o126)]) (fun (o126 : Bool) (j127 : Unit) => own 5 1 A7 c8 (t5.1.map (Value.int .u8)) :: own 5 1 j123.1 j123.2 (i122.1.map (Value.int .u8)) :: G) (fun (o126 : Bool) (j127 : Unit) => True) (fun o128 H HK129 => ?_) (fun o126 j127 H _ => ?_)
            · refine J.p rfl rfl rfl rfl (Y.mv rfl) ?_
              refine J.p rfl rfl rfl rfl (Y.bin rfl rfl rfl) ?_
              refine J.p rfl rfl rfl rfl (Y.mv rfl) ?_
              refine split2 H (fun c130 H => ?_) (fun c130 H => ?_)
              · refine J.as (k := 67) rfl (congrArg Value.bool (decide_eq_true c130)) ?_
                refine J.p rfl rfl rfl rfl (Y.mv rfl) ?_
                refine J.p rfl rfl rfl rfl (Y.mv rfl) ?_
                refine J.p rfl rfl rfl rfl (Y.bin rfl rfl rfl) ?_
                refine J.p rfl rfl rfl rfl (Y.mv rfl) ?_
                refine J.p rfl rfl rfl rfl (Y.bin rfl rfl rfl) ?_
                refine J.p rfl rfl rfl rfl (Y.pickT rfl rfl) ?_
                refine J.nil ?_
                obtain rfl := Option.some.inj H
                exact N.meet (decide ((IntKind.wrap .i64 (o22 + i122.2)) < (IntKind.wrap .i64 (8 * (IntKind.wrap .i64 ((t5.1.length : Int) - 9))))), ()) ⟨HK129, trivial⟩ (by exact ⟨rfl, rfl, rfl, rfl, rfl, rfl, rfl, rfl, rfl, rfl, trivial⟩) (by exact fun w h => (St.pick [1, 0] [_, _] h rfl))
              · refine J.as (k := 67) rfl (congrArg Value.bool (decide_eq_false c130)) ?_
                refine J.skip rfl rfl ?_
                refine J.skip rfl rfl ?_
                refine J.skip rfl rfl ?_
                refine J.skip rfl rfl ?_
                refine J.skip rfl rfl ?_
                refine J.p rfl rfl rfl rfl (Y.pickF rfl rfl) ?_
                refine J.nil ?_
                obtain rfl := Option.some.inj H
                exact N.meet (false, ()) ⟨HK129, trivial⟩ (by exact ⟨rfl, rfl, rfl, rfl, rfl, rfl, rfl, rfl, rfl, rfl, trivial⟩) (by exact fun w h => (St.pick [1, 0] [_, _] h rfl))
            · refine C.at (s' := [(1, .int .i64 o22), (2, .int .u32 (Sx.bits .or .u32 a2 1)), (3, .int .i64 o28), (4, .int .u8 a4), (11, .bool t3), (12, .slice A7 t5.1.length c8), (14, .int .i64 (IntKind.wrap .i64 (8 * (IntKind.wrap .i64 ((t5.1.length : Int) - 9))))), (15, .slice j123.1 i122.1.length j123.2), (16, .int .i64 i122.2), (73, .bool o126)]) (G' := own 5 1 A7 c8 (t5.1.map (Value.int .u8)) :: own 5 1 j123.1 j123.2 (i122.1.map (Value.int .u8)) :: G) rfl rfl ?_
              refine split2 H (fun c131 H => ?_) (fun c131 H => ?_)
              · refine C.condT (congrArg (fun b => some (Value.bool b)) (c131)) ?_
                refine C.skip ?_
                refine N.nx ?_
                refine C.joinB H (fun (o145 : (List Int)) (j146 : (Option Addr) × Nat) => [(1, .int .i64 o22), (2, .int .u32 (Sx.bits .or .u32 a2 1)), (3, .int .i64 o28), (4, .int .u8 a4), (11, .bool t3), (12, .slice A7 t5.1.length c8), (14, .int .i64 (IntKind.wrap .i64 (8 * (IntKind.wrap .i64 ((t5.1.length : Int) - 9))))), (15, .slice j146.1 o145.length j146.2), (16, .int .i64 i122.2)]) (fun (o145 : (List Int)) (j146 : (Option Addr) × Nat) => own 5 1 j146.1 j146.2 (o145.map (Value.int .u8)) :: own 5 1 A7 c8 (t5.1.map (Value.int .u8)) :: G) (fun (o145 : (List Int)) (j146 : (Option Addr) × Nat) => True) (fun o143 H HK144 => ?_) (fun o145 j146 H _ => ?_)
                · refine C.blk ?_
                  refine C.rs ?_
                  refine J.p rfl rfl rfl rfl (Y.mv rfl) ?_
                  refine J.p rfl rfl rfl rfl (Y.mv rfl) ?_
                  obtain ⟨p148, H⟩ := gd_some H
                  refine J.p rfl rfl rfl rfl (Y.shr rfl rfl p148) ?_
                  refine J.p rfl rfl rfl rfl (Y.rem rfl rfl (by decide)) ?_
                  refine J.p rfl rfl rfl rfl (Y.bin rfl rfl rfl) ?_
                  refine J.nx ?_
                  refine split2 H (fun c149 H => ?_) (fun c149 H => ?_)
                  · refine C.condT (congrArg (fun b => some (Value.bool b)) (decide_eq_true c149)) ?_
                    refine C.imp (G' := own 5 1 j123.1 j123.2 (i122.1.map (Value.int .u8)) :: own 5 1 A7 c8 (t5.1.map (Value.int .u8)) :: G) (fun w h => (St.pick [1, 0] [_, _] h rfl)) ?_
                    refine C.drawn (fuel := 22) (ls := [false, false, false, false, false, false, false, false, false, false, false, false, false, false, false, false, false, false, false, false, false, false]) [] (own 5 1 A7 c8 (t5.1.map (Value.int .u8)) :: G) mx rfl rfl ?_
                    refine D.p (ls' := [true, false, false, false, false, false, false, false, false, false, false, false, false, false, false, false, false, false, false, false, false, false]) 0 rfl rfl rfl rfl (by kernel_rfl) rfl (Y.mv rfl) ?_
                    refine D.p (ls' := [true, true, false, false, false, false, false, false, false, false, false, false, false, false, false, false, false, false, false, false, false, false]) 1 rfl rfl rfl rfl (by kernel_rfl) rfl (Y.mv rfl) ?_
                    refine D.p (ls' := [true, true, true, false, false, false, false, false, false, false, false, false, false, false, false, false, false, false, false, false, false, false]) 2 rfl rfl rfl rfl (by kernel_rfl) rfl (Y.mv rfl) ?_
                    refine D.p (ls' := [true, true, true, true, false, false, false, false, false, false, false, false, false, false, false, false, false, false, false, false, false, false]) 3 rfl rfl rfl rfl (by kernel_rfl) rfl (Y.bin rfl rfl rfl) ?_
                    refine D.p (ls' := [true, true, true, true, true, false, false, false, false, false, false, false, false, false, false, false, false, false, false, false, false, false]) 4 rfl rfl rfl rfl (by kernel_rfl) rfl (Y.quo rfl rfl (by decide)) ?_
                    refine D.p (ls' := [true, true, true, true, true, true, false, false, false, false, false, false, false, false, false, false, false, false, false, false, false, false]) 5 rfl rfl rfl rfl (by kernel_rfl) rfl (Y.bin rfl rfl rfl) ?_
                    refine D.p (ls' := [true, true, true, true, true, true, true, false, false, false, false, false, false, false, false, false, false, false, false, false, false, false]) 6 rfl rfl rfl rfl (by kernel_rfl) rfl (Y.mv rfl) ?_
                    refine D.p (ls' := [true, true, true, true, true, true, true, true, false, false, false, false, false, false, false, false, false, false, false, false, false, false]) 7 rfl rfl rfl rfl (by kernel_rfl) rfl (Y.mv rfl) ?_
                    refine D.p (ls' := [true, true, true, true, true, true, true, true, true, false, false, false, false, false, false, false, false, false, false, false, false, false]) 8 rfl rfl rfl rfl (by kernel_rfl) rfl (Y.mv rfl) ?_
                    refine D.p (ls' := [true, true, true, true, true, true, true, true, true, true, false, false, false, false, false, false, false, false, false, false, false, false]) 9 rfl rfl rfl rfl (by kernel_rfl) rfl (Y.bin rfl rfl rfl) ?_
                    refine D.p (ls' := [true, true, true, true, true, true, true, true, true, true, true, false, false, false, false, false, false, false, false, false, false, false]) 10 rfl rfl rfl rfl (by kernel_rfl) rfl (Y.quo rfl rfl (by decide)) ?_
                    refine D.p (ls' := [true, true, true, true, true, true, true, true, true, true, true, true, false, false, false, false, false, false, false, false, false, false]) 11 rfl rfl rfl rfl (by kernel_rfl) rfl (Y.bin rfl rfl rfl) ?_
                    obtain ⟨p152, H⟩ := gd_some H
                    refine D.know ((RdG.own 0 rfl).some_ (j := Int.toNat (IntKind.wrap .i64 (4 + (IntKind.wrap .i64 (Int.tdiv (IntKind.wrap .i64 (o22 + i122.2)) 8))))) (by rw [List.length_map]; exact idx_lt p152)) (fun hh => ?_)
                    obtain ⟨a150, ha151⟩ := hh
                    refine D.p (ls' := [true, true, true, true, true, true, true, true, true, true, true, true, true, false, false, false, false, false, false, false, false, false]) 12 rfl rfl rfl rfl (by kernel_rfl) rfl (Y.ixa Try.underlying22 ti5 rfl rfl p152 ha151) ?_
                    refine D.p (ls' := [true, true, true, true, true, true, true, true, true, true, true, true, true, false, true, false, false, false, false, false, false, false]) 14 rfl rfl rfl rfl (by kernel_rfl) rfl (Y.mv rfl) ?_
                    refine D.p (ls' := [true, true, true, true, true, true, true, true, true, true, true, true, true, false, true, true, false, false, false, false, false, false]) 15 rfl rfl rfl rfl (by kernel_rfl) rfl (Y.mv rfl) ?_
                    refine D.p (ls' := [true, true, true, true, true, true, true, true, true, true, true, true, true, false, true, true, true, false, false, false, false, false]) 16 rfl rfl rfl rfl (by kernel_rfl) rfl (Y.bin rfl rfl rfl) ?_
                    refine D.p (ls' := [true, true, true, true, true, true, true, true, true, true, true, true, true, false, true, true, true, true, false, false, false, false]) 17 rfl rfl rfl rfl (by kernel_rfl) rfl (Y.rem rfl rfl (by decide)) ?_
                    obtain ⟨p153, H⟩ := gd_some H
                    refine D.p (ls' := [true, true, true, true, true, true, true, true, true, true, true, true, true, false, true, true, true, true, true, false, false, false]) 18 rfl rfl rfl rfl (by kernel_rfl) rfl (Y.shl rfl rfl p153) ?_
                    refine D.any [13] (by kernel_rfl) rfl ⟨?_, trivial⟩
                    refine DW.j (ls' := [true, true, true, true, true, true, true, true, true, true, true, true, true, true, true, true, true, true, true, false, false, false]) rfl rfl ?_
                    obtain ⟨p154, H⟩ := gd_some H
                    refine J.r rfl rfl rfl rfl (Y.ldE Try.underlying5 rfl rfl ha151 p154 (RdG.own 0 rfl)) ?_
                    refine J.nil ?_
                    refine D.backK 1 rfl ?_
                    refine D.p (ls' := [true, true, true, true, true, true, true, true, true, true, true, true, true, true, true, true, true, true, true, true, false, false]) 19 rfl rfl rfl rfl (by kernel_rfl) rfl (Y.bin rfl rfl rfl) ?_
                    obtain ⟨p157, H⟩ := gd_some H
                    refine D.know ((RdG.own 0 rfl).some_ (j := Int.toNat (IntKind.wrap .i64 (4 + (IntKind.wrap .i64 (Int.tdiv (IntKind.wrap .i64 (o22 + i122.2)) 8))))) (by rw [List.length_map]; exact idx_lt p157)) (fun hh => ?_)
                    obtain ⟨a155, ha156⟩ := hh
                    refine D.p (ls' := [true, true, true, true, true, true, true, true, true, true, true, true, true, true, true, true, true, true, true, true, true, false]) 20 rfl rfl rfl rfl (by kernel_rfl) rfl (Y.ixa Try.underlying22 ti5 rfl rfl p157 ha156) ?_
                    refine D.any [21] (by kernel_rfl) rfl ⟨?_, trivial⟩
                    refine DW.j (ls' := [true, true, true, true, true, true, true, true, true, true, true, true, true, true, true, true, true, true, true, true, true, true]) rfl rfl ?_
                    obtain ⟨p158, H⟩ := gd_some H
                    refine J.stoL (enc := (Value.int .u8)) ti5 ha156 rfl rfl rfl p158 ?_
                    refine J.as (k := 15) rfl (set_len i122.1 (Int.toNat (IntKind.wrap .i64 (4 + (IntKind.wrap .i64 (Int.tdiv (IntKind.wrap .i64 (o22 + i122.2)) 8))))) (Sx.bits .xor .u8 (rd i122.1 (IntKind.wrap .i64 (4 + (IntKind.wrap .i64 (Int.tdiv (IntKind.wrap .i64 (o22 + i122.2)) 8))))) (Sx.shl .u8 1 (Int.tmod (IntKind.wrap .i64 (o22 + i122.2)) 8)))) ?_
                    refine J.nil ?_
                    refine D.backK 1 rfl ?_
                    refine D.nil (by kernel_rfl) ?_
                    refine N.ib ?_
                    obtain rfl := Option.some.inj H
                    exact N.meet ((i122.1.set (Int.toNat (IntKind.wrap .i64 (4 + (IntKind.wrap .i64 (Int.tdiv (IntKind.wrap .i64 (o22 + i122.2)) 8))))) (Sx.bits .xor .u8 (rd i122.1 (IntKind.wrap .i64 (4 + (IntKind.wrap .i64 (Int.tdiv (IntKind.wrap .i64 (o22 + i122.2)) 8))))) (Sx.shl .u8 1 (Int.tmod (IntKind.wrap .i64 (o22 + i122.2)) 8)))), (j123.1, j123.2)) ⟨HK144, trivial⟩ (by exact ⟨rfl, rfl, rfl, rfl, rfl, rfl, rfl, rfl, rfl, trivial⟩) (by exact fun w h => h)
                  · refine C.condF (congrArg (fun b => some (Value.bool b)) (decide_eq_false c149)) ?_
                    refine C.skip ?_
                    refine N.ib ?_
                    obtain rfl := Option.some.inj H
                    exact N.meet (i122.1, (j123.1, j123.2)) ⟨HK144, trivial⟩ (by exact ⟨rfl, rfl, rfl, rfl, rfl, rfl, rfl, rfl, rfl, trivial⟩) (by exact fun w h => (St.pick [1, 0] [_, _] h rfl))
                · refine C.at (s' := [(1, .int .i64 o22), (2, .int .u32 (Sx.bits .or .u32 a2 1)), (3, .int .i64 o28), (4, .int .u8 a4), (11, .bool t3), (12, .slice A7 t5.1.length c8), (14, .int .i64 (IntKind.wrap .i64 (8 * (IntKind.wrap .i64 ((t5.1.length : Int) - 9))))), (15, .slice j146.1 o145.length j146.2), (16, .int .i64 i122.2)]) (G' := own 5 1 j146.1 j146.2 (o145.map (Value.int .u8)) :: own 5 1 A7 c8 (t5.1.map (Value.int .u8)) :: G) rfl rfl ?_
                  refine C.reg ?_
                  refine J.p rfl rfl rfl rfl (Y.mv rfl) ?_
                  refine J.p rfl rfl rfl rfl (Y.bin rfl rfl rfl) ?_
                  refine J.p rfl rfl rfl rfl (Y.asg rfl) ?_
                  refine J.nil ?_
                  exact N.again (k121, (o145, IntKind.wrap .i64 (i122.2 + 1)), (j146.1, j146.2)) ⟨H, trivial⟩ (Nat.lt_succ_self _) (by exact ⟨rfl, rfl, rfl, rfl, rfl, rfl, rfl, rfl, rfl, trivial⟩) (by exact fun w h => h)
              · refine C.condF (congrArg (fun b => some (Value.bool b)) (nt c131)) ?_
                refine C.exit ?_
                refine X.th ?_
                refine X.th ?_
                refine X.hit ?_
                obtain rfl := Option.some.inj H
                exact N.meet (i122.1, (j123.1, j123.2)) ⟨HK77, trivial⟩ (by exact ⟨rfl, rfl, rfl, rfl, rfl, trivial⟩) (by exact fun w h => (St.pick [1, 0] [_, _] h rfl))
          · refine N.at (s' := [(3, .int .i64 o28), (4, .int .u8 a4), (11, .bool t3), (12, .slice A7 t5.1.length c8), (15, .slice j79.1 o78.length j79.2)]) (G' := own 5 1 j79.1 j79.2 (o78.map (Value.int .u8)) :: own 5 1 A7 c8 (t5.1.map (Value.int .u8)) :: G) rfl rfl ?_
            refine N.nx ?_
            refine C.rs ?_
            refine J.p rfl rfl rfl rfl (Y.mv rfl) ?_
            refine J.know (own_leL 0 rfl) (fun hc160 => ?_)
            obtain ⟨t161, hC162, H⟩ := bind_some H
            refine J.call (us := []) (cap := []) rfl rfl rfl go15 (fun w hw => by have hcc := fDecode.calls K o78 0 j79.1 j79.2 (RdG.own 0 rfl) hc160 t161 hC162 w hw; exact hcc) (fun e w1 h1 => ?_)
            obtain ⟨rfl, hw183⟩ := h1
            refine ⟨_, _, rfl, hw183, ?_⟩
            refine J.p rfl rfl rfl rfl (Y.mv rfl) ?_
            refine J.p rfl rfl rfl rfl (Y.ext rfl rfl) ?_
            refine J.p rfl rfl rfl rfl (Y.ext rfl rfl) ?_
            refine J.p rfl rfl rfl rfl (Y.ext rfl rfl) ?_
            refine J.alloc (L := [.int .i64 0, .int .u64 0, .int .i64 0, .string ByteArray.empty, .string ByteArray.empty, .int .u64 0, .int .i64 0, .int .i64 0, .int .i64 0, .string ByteArray.empty, .int .i64 0, .int .i64 0, .int .i64 0, .int .u32 0]) rfl ti36 rfl (fun g163 => ?_)
            refine J.stA (us := [.int .i64 t161.1, .int .u64 t161.2.1, .int .i64 t161.2.2.1, .string t161.2.2.2.1, .string t161.2.2.2.2.1, .int .u64 t161.2.2.2.2.2.1, .int .i64 t161.2.2.2.2.2.2.1, .int .i64 t161.2.2.2.2.2.2.2.1, .int .i64 t161.2.2.2.2.2.2.2.2.1, .string t161.2.2.2.2.2.2.2.2.2.1, .int .i64 t161.2.2.2.2.2.2.2.2.2.2.1, .int .i64 t161.2.2.2.2.2.2.2.2.2.2.2.1, .int .i64 t161.2.2.2.2.2.2.2.2.2.2.2.2.1, .int .u32 t161.2.2.2.2.2.2.2.2.2.2.2.2.2.1]) (L' := [.int .i64 t161.1, .int .u64 t161.2.1, .int .i64 t161.2.2.1, .string t161.2.2.2.1, .string t161.2.2.2.2.1, .int .u64 t161.2.2.2.2.2.1, .int .i64 t161.2.2.2.2.2.2.1, .int .i64 t161.2.2.2.2.2.2.2.1, .int .i64 t161.2.2.2.2.2.2.2.2.1, .string t161.2.2.2.2.2.2.2.2.2.1, .int .i64 t161.2.2.2.2.2.2.2.2.2.2.1, .int .i64 t161.2.2.2.2.2.2.2.2.2.2.2.1, .int .i64 t161.2.2.2.2.2.2.2.2.2.2.2.2.1, .int .u32 t161.2.2.2.2.2.2.2.2.2.2.2.2.2.1]) ti36 rfl rfl rfl rfl rfl rfl ?_
            refine J.p rfl rfl rfl rfl (Y.asg rfl) ?_
            refine J.p rfl rfl rfl rfl (Y.asg rfl) ?_
            refine J.nx ?_
            refine C.rs ?_
            refine J.p rfl rfl rfl rfl (Y.asg rfl) ?_
            refine J.nx ?_
            refine C.rs ?_
            refine J.p rfl rfl rfl rfl (Y.mv rfl) ?_
            refine J.p rfl rfl rfl rfl (Y.mv rfl) ?_
            refine J.nilOwn 5 1 ?_
            obtain ⟨p168, H⟩ := gd_some H
            refine J.appL (enc := (Value.int .u8)) (xs := ([] : List Int)) (ys := t5.1) rfl Try.underlying22 ti5 rfl (by decide) rfl rfl (fun _ => rfl) (RdG.own 3 rfl) p168 (fun A166 c167 => ?_)
            refine J.p rfl rfl rfl rfl (Y.asg rfl) ?_
            refine J.nx ?_
            refine C.rs ?_
            refine J.p rfl rfl rfl rfl (Y.mv rfl) ?_
            refine J.p rfl rfl rfl rfl (Y.lenS Try.underlying22 rfl) ?_
            refine J.p rfl rfl rfl rfl (Y.bin rfl rfl rfl) ?_
            refine J.p rfl rfl rfl rfl (Y.mv rfl) ?_
            refine J.p rfl rfl rfl rfl (Y.bin rfl rfl rfl) ?_
            refine J.p rfl rfl rfl rfl (Y.asg rfl) ?_
            refine J.nx ?_
            refine C.rs ?_
            refine J.p rfl rfl rfl rfl (Y.mv rfl) ?_
            refine J.p rfl rfl rfl rfl (Y.mv rfl) ?_
            refine J.p rfl rfl rfl rfl (Y.mv rfl) ?_
            refine J.p rfl rfl rfl rfl (Y.mv rfl) ?_
            obtain ⟨p170, H⟩ := gd_some H
            refine J.el rfl rfl rfl Try.underlying22 ti5 Try.underlying5 rfl rfl rfl p170 (RdG.own 0 rfl) ?_
            refine J.p rfl rfl rfl rfl (Y.mv rfl) ?_
            refine J.p rfl rfl rfl rfl (Y.rem rfl rfl (by decide)) ?_
            refine J.p rfl rfl rfl rfl (Y.bin rfl rfl rfl) ?_
            refine J.p rfl rfl rfl rfl (Y.bin rfl rfl rfl) ?_
            obtain ⟨p173, H⟩ := gd_some H
            refine J.know ((RdG.own 0 rfl).some_ (j := Int.toNat (IntKind.wrap .i64 ((IntKind.wrap .i64 ((t5.1.length : Int) - 5)) + o28))) (by rw [List.length_map]; exact idx_lt p173)) (fun hh => ?_)
            obtain ⟨a171, ha172⟩ := hh
            refine J.p rfl rfl rfl rfl (Y.ixa Try.underlying22 ti5 rfl rfl p173 ha172) ?_
            obtain ⟨p174, H⟩ := gd_some H
            refine J.stoL (enc := (Value.int .u8)) ti5 ha172 rfl rfl rfl p174 ?_
            refine J.as (k := 20) rfl (set_len (([] : List Int) ++ t5.1) (Int.toNat (IntKind.wrap .i64 ((IntKind.wrap .i64 ((t5.1.length : Int) - 5)) + o28))) (Sx.bits .xor .u8 (rd (([] : List Int) ++ t5.1) (IntKind.wrap .i64 ((IntKind.wrap .i64 ((t5.1.length : Int) - 5)) + o28))) (IntKind.wrap .u8 (1 + (Int.tmod a4 255))))) ?_
            refine J.nx ?_
            refine C.rs ?_
            refine J.p rfl rfl rfl rfl (Y.mv rfl) ?_
            refine J.know (own_leL 0 rfl) (fun hc175 => ?_)
            obtain ⟨t176, hC177, H⟩ := bind_some H
            refine J.call (us := []) (cap := []) rfl rfl rfl go15 (fun w hw => by have hcc := fDecode.calls K ((([] : List Int) ++ t5.1).set (Int.toNat (IntKind.wrap .i64 ((IntKind.wrap .i64 ((t5.1.length : Int) - 5)) + o28))) (Sx.bits .xor .u8 (rd (([] : List Int) ++ t5.1) (IntKind.wrap .i64 ((IntKind.wrap .i64 ((t5.1.length : Int) - 5)) + o28))) (IntKind.wrap .u8 (1 + (Int.tmod a4 255))))) 0 A166 c167 (RdG.own 0 rfl) hc175 t176 hC177 w hw; exact hcc) (fun e w1 h1 => ?_)
            obtain ⟨rfl, hw182⟩ := h1
            refine ⟨_, _, rfl, hw182, ?_⟩
            refine J.p rfl rfl rfl rfl (Y.mv rfl) ?_
            refine J.p rfl rfl rfl rfl (Y.ext rfl rfl) ?_
            refine J.p rfl rfl rfl rfl (Y.ext rfl rfl) ?_
            refine J.p rfl rfl rfl rfl (Y.ext rfl rfl) ?_
            refine J.alloc (L := [.int .i64 0, .int .u64 0, .int .i64 0, .string ByteArray.empty, .string ByteArray.empty, .int .u64 0, .int .i64 0, .int .i64 0, .int .i64 0, .string ByteArray.empty, .int .i64 0, .int .i64 0, .int .i64 0, .int .u32 0]) rfl ti36 rfl (fun g178 => ?_)
            refine J.stA (us := [.int .i64 t176.1, .int .u64 t176.2.1, .int .i64 t176.2.2.1, .string t176.2.2.2.1, .string t176.2.2.2.2.1, .int .u64 t176.2.2.2.2.2.1, .int .i64 t176.2.2.2.2.2.2.1, .int .i64 t176.2.2.2.2.2.2.2.1, .int .i64 t176.2.2.2.2.2.2.2.2.1, .string t176.2.2.2.2.2.2.2.2.2.1, .int .i64 t176.2.2.2.2.2.2.2.2.2.2.1, .int .i64 t176.2.2.2.2.2.2.2.2.2.2.2.1, .int .i64 t176.2.2.2.2.2.2.2.2.2.2.2.2.1, .int .u32 t176.2.2.2.2.2.2.2.2.2.2.2.2.2.1]) (L' := [.int .i64 t176.1, .int .u64 t176.2.1, .int .i64 t176.2.2.1, .string t176.2.2.2.1, .string t176.2.2.2.2.1, .int .u64 t176.2.2.2.2.2.1, .int .i64 t176.2.2.2.2.2.2.1, .int .i64 t176.2.2.2.2.2.2.2.1, .int .i64 t176.2.2.2.2.2.2.2.2.1, .string t176.2.2.2.2.2.2.2.2.2.1, .int .i64 t176.2.2.2.2.2.2.2.2.2.2.1, .int .i64 t176.2.2.2.2.2.2.2.2.2.2.2.1, .int .i64 t176.2.2.2.2.2.2.2.2.2.2.2.2.1, .int .u32 t176.2.2.2.2.2.2.2.2.2.2.2.2.2.1]) ti36 rfl rfl rfl rfl rfl rfl ?_
            refine J.p rfl rfl rfl rfl (Y.asg rfl) ?_
            refine J.p rfl rfl rfl rfl (Y.asg rfl) ?_
            refine J.nx ?_
            refine C.rs ?_
            refine J.p rfl rfl rfl rfl (Y.mv rfl) ?_
            refine J.p rfl rfl rfl rfl (Y.mv rfl) ?_
            refine split2 H (fun c180 H => ?_) (fun c180 H => ?_)
            · refine J.as (k := 134) rfl (congrArg Value.bool (c180)) ?_
              refine J.p rfl rfl rfl rfl (Y.mv rfl) ?_
              refine J.p rfl rfl rfl rfl (Y.bin rfl rfl rfl) ?_
              refine J.p rfl rfl rfl rfl (Y.pickT rfl rfl) ?_
              refine J.p rfl rfl rfl rfl (Y.mv rfl) ?_
              refine split2 H (fun c181 H => ?_) (fun c181 H => ?_)
              · refine J.as (k := 138) rfl (congrArg Value.bool (decide_eq_true c181)) ?_
                refine J.p rfl rfl rfl rfl (Y.mv rfl) ?_
                refine J.p rfl rfl rfl rfl (Y.bin rfl rfl rfl) ?_
                refine J.p rfl rfl rfl rfl (Y.pickT rfl rfl) ?_
                refine J.p rfl rfl rfl rfl (Y.asg rfl) ?_
                refine J.nx ?_
                refine C.ret ?_
                obtain rfl := Option.some.inj H
                exact ret_ok (ks := [10]) rfl rfl (fun w h => ⟨rfl, (St.pick [] [_, _, _, _, _] h rfl)⟩)
              · refine J.as (k := 138) rfl (congrArg Value.bool (decide_eq_false c181)) ?_
                refine J.skip rfl rfl ?_
                refine J.skip rfl rfl ?_
                refine J.p rfl rfl rfl rfl (Y.pickF rfl rfl) ?_
                refine J.p rfl rfl rfl rfl (Y.asg rfl) ?_
                refine J.nx ?_
                refine C.ret ?_
                obtain rfl := Option.some.inj H
                exact ret_ok (ks := [10]) rfl rfl (fun w h => ⟨rfl, (St.pick [] [_, _, _, _, _] h rfl)⟩)
            · refine J.as (k := 134) rfl (congrArg Value.bool (nt c180)) ?_
              refine J.skip rfl rfl ?_
              refine J.skip rfl rfl ?_
              refine J.p rfl rfl rfl rfl (Y.pickF rfl rfl) ?_
              refine J.p rfl rfl rfl rfl (Y.mv rfl) ?_
              refine J.skip rfl rfl ?_
              refine J.skip rfl rfl ?_
              refine J.p rfl rfl rfl rfl (Y.pickF rfl rfl) ?_
              refine J.p rfl rfl rfl rfl (Y.asg rfl) ?_
              refine J.nx ?_
              refine C.ret ?_
              obtain rfl := Option.some.inj H
              exact ret_ok (ks := [10]) rfl rfl (fun w h => ⟨rfl, (St.pick [] [_, _, _, _, _] h rfl)⟩)
end Go.Proofs.Ytakolnamobkkkaa
