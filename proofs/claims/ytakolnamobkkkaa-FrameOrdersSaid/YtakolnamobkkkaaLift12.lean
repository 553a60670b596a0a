/- Own text, printed by the lifting program: each Go function beside a plain function, and the proof that a call of the one comes to the other. Conditions: what came in can be read. -/
import Derived.Test.YtakolnamobkkkaaLiftQ
set_option linter.unusedVariables false
set_option linter.unusedSimpArgs false
set_option maxRecDepth 10000
set_option maxHeartbeats 4000000
namespace Go.Proofs.Ytakolnamobkkkaa
open Go Go.Sx
theorem go27 : GoF Try.prog 27 := GoF.of Try.func27 (by kernel_rfl) (by kernel_rfl)
/-! ### salvor/salvorlaw4.FrameRanks: function 12 -/
def FrameRanks.f (K : Nat) (a0_0 : Int) (a0_1 : Int) (a0_2 : ByteArray) (a0_3 : ByteArray) (a1_0 : Int) (a1_1 : Int) (a1_2 : ByteArray) (a1_3 : ByteArray) (a2_0 : Int) (a2_1 : Int) (a2_2 : ByteArray) (a2_3 : ByteArray) : Option (Bool) := (known.f K).bind fun t7 => (fCompare.f K a0_0 a0_1 a0_2 a0_3 a1_0 a1_1 a1_2 a1_3).bind fun t9 => (fCompare.f K a1_0 a1_1 a1_2 a1_3 a2_0 a2_1 a2_2 a2_3).bind fun t11 => (fCompare.f K a0_0 a0_1 a0_2 a0_3 a2_0 a2_1 a2_2 a2_3).bind fun t13 => ((fCompare.f K a1_0 a1_1 a1_2 a1_3 a0_0 a0_1 a0_2 a0_3).bind fun t55 => if t9 ≠ (IntKind.wrap .i64 (0 - t55)) then (some true) else (if t9 < (-1) then (some true) else (if 1 < t9 then (some true) else (if t9 ≤ 0 then (if t11 ≤ 0 then (if 0 < t13 then (some true) else (if t9 < 0 then (if t11 ≤ 0 then (if 0 ≤ t13 then (some true) else (if t9 ≤ 0 then (if t11 < 0 then (some (decide (0 ≤ t13))) else (some false)) else (some false))) else (if t9 ≤ 0 then (if t11 < 0 then (some (decide (0 ≤ t13))) else (some false)) else (some false))) else (if t9 ≤ 0 then (if t11 < 0 then (some (decide (0 ≤ t13))) else (some false)) else (some false)))) else (if t9 < 0 then (if t11 ≤ 0 then (if 0 ≤ t13 then (some true) else (if t9 ≤ 0 then (if t11 < 0 then (some (decide (0 ≤ t13))) else (some false)) else (some false))) else (if t9 ≤ 0 then (if t11 < 0 then (some (decide (0 ≤ t13))) else (some false)) else (some false))) else (if t9 ≤ 0 then (if t11 < 0 then (some (decide (0 ≤ t13))) else (some false)) else (some false)))) else (if t9 < 0 then (if t11 ≤ 0 then (if 0 ≤ t13 then (some true) else (if t9 ≤ 0 then (if t11 < 0 then (some (decide (0 ≤ t13))) else (some false)) else (some false))) else (if t9 ≤ 0 then (if t11 < 0 then (some (decide (0 ≤ t13))) else (some false)) else (some false))) else (if t9 ≤ 0 then (if t11 < 0 then (some (decide (0 ≤ t13))) else (some false)) else (some false))))))).bind fun o51 => if o51 = true then (some false) else ((fOf.f a0_0 a0_1 a0_2 a0_3).bind fun t92 => (fEncode.f K t92.1 t92.2.1 t92.2.2.1 t92.2.2.2.1 t92.2.2.2.2.1 t92.2.2.2.2.2.1 t92.2.2.2.2.2.2.1 t92.2.2.2.2.2.2.2.1 t92.2.2.2.2.2.2.2.2.1 t92.2.2.2.2.2.2.2.2.2.1 t92.2.2.2.2.2.2.2.2.2.2.1 t92.2.2.2.2.2.2.2.2.2.2.2.1 t92.2.2.2.2.2.2.2.2.2.2.2.2.1 t92.2.2.2.2.2.2.2.2.2.2.2.2.2).bind fun t94 => (fOf.f a1_0 a1_1 a1_2 a1_3).bind fun t99 => (fEncode.f K t99.1 t99.2.1 t99.2.2.1 t99.2.2.2.1 t99.2.2.2.2.1 t99.2.2.2.2.2.1 t99.2.2.2.2.2.2.1 t99.2.2.2.2.2.2.2.1 t99.2.2.2.2.2.2.2.2.1 t99.2.2.2.2.2.2.2.2.2.1 t99.2.2.2.2.2.2.2.2.2.2.1 t99.2.2.2.2.2.2.2.2.2.2.2.1 t99.2.2.2.2.2.2.2.2.2.2.2.2.1 t99.2.2.2.2.2.2.2.2.2.2.2.2.2).bind fun t101 => (if t9 = 0 then (if a0_0 = a1_0 ∧ a0_1 = a1_1 ∧ a0_2 = a1_2 ∧ a0_3 = a1_3 ∧ True then (some false) else (if t94.2 = 0 then (some true) else (some (decide (t101.2 = 0))))) else (some false)).bind fun o109 => if o109 = true then (some false) else (if t7 = true then (if t94.2 ≠ 0 then (some true) else (if t101.2 ≠ 0 then (some true) else (if a0_0 = a1_0 then (some true) else (some (decide ((decide (a0_0 < a1_0)) = (decide (t9 < 0)))))))) else (some false)))
theorem FrameRanks.calls {B : Nat} {w0 : World} {G : List HP} (K : Nat) (a0_0 : Int) (a0_1 : Int) (a0_2 : ByteArray) (a0_3 : ByteArray) (a1_0 : Int) (a1_1 : Int) (a1_2 : ByteArray) (a1_3 : ByteArray) (a2_0 : Int) (a2_1 : Int) (a2_2 : ByteArray) (a2_3 : ByteArray) (r : Bool) (H : FrameRanks.f K a0_0 a0_1 a0_2 a0_3 a1_0 a1_1 a1_2 a1_3 a2_0 a2_1 a2_2 a2_3 = some r) (w : World) (hw : St B w0 (G) w) :
    Calls Try.prog 12 [.agg #[.int .u64 a0_0, .int .i64 a0_1, .string a0_2, .string a0_3], .agg #[.int .u64 a1_0, .int .i64 a1_1, .string a1_2, .string a1_3], .agg #[.int .u64 a2_0, .int .i64 a2_1, .string a2_2, .string a2_3]].toArray w (fun e w' => e = .returned (.bool r) ∧ St B w0 (G) w') := by
  unfold FrameRanks.f at H
  refine calls_of (n := 128) (s := [(0, .agg #[.int .u64 a0_0, .int .i64 a0_1, .string a0_2, .string a0_3]), (1, .agg #[.int .u64 a1_0, .int .i64 a1_1, .string a1_2, .string a1_3]), (2, .agg #[.int .u64 a2_0, .int .i64 a2_1, .string a2_2, .string a2_3])]) Try.func12 rfl rfl rfl rfl ?_ hw
  refine C.rs ?_
  refine J.box (L := [.int .u64 a0_0, .int .i64 a0_1, .string a0_2, .string a0_3]) rfl rfl rfl (fun g1 => ?_)
  refine J.box (L := [.int .u64 a1_0, .int .i64 a1_1, .string a1_2, .string a1_3]) rfl rfl rfl (fun g3 => ?_)
  refine J.box (L := [.int .u64 a2_0, .int .i64 a2_1, .string a2_2, .string a2_3]) rfl rfl rfl (fun g5 => ?_)
  refine J.p rfl rfl rfl rfl (Y.asg rfl) ?_
  refine J.nx ?_
  refine C.rs ?_
  obtain ⟨t7, hC8, H⟩ := bind_some H
  refine J.call (us := []) (cap := []) rfl rfl rfl go14 (fun w hw => by have hcc := known.calls K t7 hC8 w hw; exact hcc) (fun e w1 h1 => ?_)
  obtain ⟨rfl, hw128⟩ := h1
  refine ⟨_, _, rfl, hw128, ?_⟩
  refine J.p rfl rfl rfl rfl (Y.asg rfl) ?_
  refine J.nx ?_
  refine C.rs ?_
  refine J.r rfl rfl rfl rfl (Y.ldCA (us := [.int .u64 a0_0, .int .i64 a0_1, .string a0_2, .string a0_3]) 2 Try.underlying27 rfl ti27 rfl rfl rfl rfl) ?_
  refine J.r rfl rfl rfl rfl (Y.ldCA (us := [.int .u64 a1_0, .int .i64 a1_1, .string a1_2, .string a1_3]) 1 Try.underlying27 rfl ti27 rfl rfl rfl rfl) ?_
  obtain ⟨t9, hC10, H⟩ := bind_some H
  refine J.call (us := []) (cap := []) rfl rfl rfl go27 (fun w hw => by have hcc := fCompare.calls K a0_0 a0_1 a0_2 a0_3 a1_0 a1_1 a1_2 a1_3 t9 hC10 w hw; exact hcc) (fun e w1 h1 => ?_)
  obtain ⟨rfl, hw127⟩ := h1
  refine ⟨_, _, rfl, hw127, ?_⟩
  refine J.p rfl rfl rfl rfl (Y.asg rfl) ?_
  refine J.nx ?_
  refine C.rs ?_
  refine J.r rfl rfl rfl rfl (Y.ldCA (us := [.int .u64 a1_0, .int .i64 a1_1, .string a1_2, .string a1_3]) 1 Try.underlying27 rfl ti27 rfl rfl rfl rfl) ?_
  refine J.r rfl rfl rfl rfl (Y.ldCA (us := [.int .u64 a2_0, .int .i64 a2_1, .string a2_2, .string a2_3]) 0 Try.underlying27 rfl ti27 rfl rfl rfl rfl) ?_
  obtain ⟨t11, hC12, H⟩ := bind_some H
  refine J.call (us := []) (cap := []) rfl rfl rfl go27 (fun w hw => by have hcc := fCompare.calls K a1_0 a1_1 a1_2 a1_3 a2_0 a2_1 a2_2 a2_3 t11 hC12 w hw; exact hcc) (fun e w1 h1 => ?_)
  obtain ⟨rfl, hw126⟩ := h1
  refine ⟨_, _, rfl, hw126, ?_⟩
  refine J.p rfl rfl rfl rfl (Y.asg rfl) ?_
  refine J.nx ?_
  refine C.rs ?_
  refine J.r rfl rfl rfl rfl (Y.ldCA (us := [.int .u64 a0_0, .int .i64 a0_1, .string a0_2, .string a0_3]) 2 Try.underlying27 rfl ti27 rfl rfl rfl rfl) ?_
  refine J.r rfl rfl rfl rfl (Y.ldCA (us := [.int .u64 a2_0, .int .i64 a2_1, .string a2_2, .string a2_3]) 0 Try.underlying27 rfl ti27 rfl rfl rfl rfl) ?_
  obtain ⟨t13, hC14, H⟩ := bind_some H
  refine J.call (us := []) (cap := []) rfl rfl rfl go27 (fun w hw => by have hcc := fCompare.calls K a0_0 a0_1 a0_2 a0_3 a2_0 a2_1 a2_2 a2_3 t13 hC14 w hw; exact hcc) (fun e w1 h1 => ?_)
  obtain ⟨rfl, hw125⟩ := h1
  refine ⟨_, _, rfl, hw125, ?_⟩
  refine J.p rfl rfl rfl rfl (Y.asg rfl) ?_
  refine J.nx ?_
  refine C.seq ?_
  refine C.rs ?_
  refine J.joinB H (fun (o51 : Bool) (j52 : Unit) => [(3, .pointer (some ⟨g1, 0, none⟩)), (4, .pointer (some ⟨g3, 0, none⟩)), (7, .bool t7), (8, .int .i64 t9), (74, .bool o51)]) (fun (o51 : Bool) (j52 : Unit) => cells g1 27 [.int .u64 a0_0, .int .i64 a0_1, .string a0_2, .string a0_3] :: cells g3 27 [.int .u64 a1_0, .int .i64 a1_1, .string a1_2, .string a1_3] :: G) (fun (o51 : Bool) (j52 : Unit) => True) (fun o53 H HK54 => ?_) (fun o51 j52 H _ => ?_)
  · refine J.p rfl rfl rfl rfl (Y.mv rfl) ?_
    refine J.r rfl rfl rfl rfl (Y.ldCA (us := [.int .u64 a1_0, .int .i64 a1_1, .string a1_2, .string a1_3]) 1 Try.underlying27 rfl ti27 rfl rfl rfl rfl) ?_
    refine J.r rfl rfl rfl rfl (Y.ldCA (us := [.int .u64 a0_0, .int .i64 a0_1, .string a0_2, .string a0_3]) 2 Try.underlying27 rfl ti27 rfl rfl rfl rfl) ?_
    obtain ⟨t55, hC56, H⟩ := bind_some H
    refine J.call (us := []) (cap := []) rfl rfl rfl go27 (fun w hw => by have hcc := fCompare.calls K a1_0 a1_1 a1_2 a1_3 a0_0 a0_1 a0_2 a0_3 t55 hC56 w hw; exact hcc) (fun e w1 h1 => ?_)
    obtain ⟨rfl, hw90⟩ := h1
    refine ⟨_, _, rfl, hw90, ?_⟩
    refine J.p rfl rfl rfl rfl (Y.neg rfl) ?_
    refine J.p rfl rfl rfl rfl (Y.bin rfl rfl rfl) ?_
    refine J.p rfl rfl rfl rfl (Y.mv rfl) ?_
    refine split2 H (fun c57 H => ?_) (fun c57 H => ?_)
    · refine J.as (k := 31) rfl (congrArg Value.bool (decide_eq_true c57)) ?_
      refine J.skip rfl rfl ?_
      refine J.skip rfl rfl ?_
      refine J.p rfl rfl rfl rfl (Y.pickT rfl rfl) ?_
      refine J.p rfl rfl rfl rfl (Y.mv rfl) ?_
      refine J.skip rfl rfl ?_
      refine J.skip rfl rfl ?_
      refine J.p rfl rfl rfl rfl (Y.pickT rfl rfl) ?_
      refine J.p rfl rfl rfl rfl (Y.mv rfl) ?_
      refine J.skip rfl rfl ?_
      refine J.skip rfl rfl ?_
      refine J.skip rfl rfl ?_
      refine J.skip rfl rfl ?_
      refine J.skip rfl rfl ?_
      refine J.skip rfl rfl ?_
      refine J.skip rfl rfl ?_
      refine J.skip rfl rfl ?_
      refine J.skip rfl rfl ?_
      refine J.skip rfl rfl ?_
      refine J.p rfl rfl rfl rfl (Y.pickT rfl rfl) ?_
      refine J.p rfl rfl rfl rfl (Y.mv rfl) ?_
      refine J.skip rfl rfl ?_
      refine J.skip rfl rfl ?_
      refine J.skip rfl rfl ?_
      refine J.skip rfl rfl ?_
      refine J.skip rfl rfl ?_
      refine J.skip rfl rfl ?_
      refine J.skip rfl rfl ?_
      refine J.skip rfl rfl ?_
      refine J.skip rfl rfl ?_
      refine J.skip rfl rfl ?_
      refine J.p rfl rfl rfl rfl (Y.pickT rfl rfl) ?_
      refine J.p rfl rfl rfl rfl (Y.mv rfl) ?_
      refine J.skip rfl rfl ?_
      refine J.skip rfl rfl ?_
      refine J.skip rfl rfl ?_
      refine J.skip rfl rfl ?_
      refine J.skip rfl rfl ?_
      refine J.skip rfl rfl ?_
      refine J.skip rfl rfl ?_
      refine J.skip rfl rfl ?_
      refine J.skip rfl rfl ?_
      refine J.skip rfl rfl ?_
      refine J.p rfl rfl rfl rfl (Y.pickT rfl rfl) ?_
      refine J.nil ?_
      obtain rfl := Option.some.inj H
      exact N.meet (true, ()) ⟨HK54, trivial⟩ (by exact ⟨rfl, rfl, rfl, rfl, rfl, trivial⟩) (by exact fun w h => (St.pick [2, 1] [_, _, _] h rfl))
    · refine J.as (k := 31) rfl (congrArg Value.bool (decide_eq_false c57)) ?_
      refine J.p rfl rfl rfl rfl (Y.mv rfl) ?_
      refine J.p rfl rfl rfl rfl (Y.bin rfl rfl rfl) ?_
      refine J.p rfl rfl rfl rfl (Y.pickF rfl rfl) ?_
      refine J.p rfl rfl rfl rfl (Y.mv rfl) ?_
      refine split2 H (fun c58 H => ?_) (fun c58 H => ?_)
      · refine J.as (k := 35) rfl (congrArg Value.bool (decide_eq_true c58)) ?_
        refine J.skip rfl rfl ?_
        refine J.skip rfl rfl ?_
        refine J.p rfl rfl rfl rfl (Y.pickT rfl rfl) ?_
        refine J.p rfl rfl rfl rfl (Y.mv rfl) ?_
        refine J.skip rfl rfl ?_
        refine J.skip rfl rfl ?_
        refine J.skip rfl rfl ?_
        refine J.skip rfl rfl ?_
        refine J.skip rfl rfl ?_
        refine J.skip rfl rfl ?_
        refine J.skip rfl rfl ?_
        refine J.skip rfl rfl ?_
        refine J.skip rfl rfl ?_
        refine J.skip rfl rfl ?_
        refine J.p rfl rfl rfl rfl (Y.pickT rfl rfl) ?_
        refine J.p rfl rfl rfl rfl (Y.mv rfl) ?_
        refine J.skip rfl rfl ?_
        refine J.skip rfl rfl ?_
        refine J.skip rfl rfl ?_
        refine J.skip rfl rfl ?_
        refine J.skip rfl rfl ?_
        refine J.skip rfl rfl ?_
        refine J.skip rfl rfl ?_
        refine J.skip rfl rfl ?_
        refine J.skip rfl rfl ?_
        refine J.skip rfl rfl ?_
        refine J.p rfl rfl rfl rfl (Y.pickT rfl rfl) ?_
        refine J.p rfl rfl rfl rfl (Y.mv rfl) ?_
        refine J.skip rfl rfl ?_
        refine J.skip rfl rfl ?_
        refine J.skip rfl rfl ?_
        refine J.skip rfl rfl ?_
        refine J.skip rfl rfl ?_
        refine J.skip rfl rfl ?_
        refine J.skip rfl rfl ?_
        refine J.skip rfl rfl ?_
        refine J.skip rfl rfl ?_
        refine J.skip rfl rfl ?_
        refine J.p rfl rfl rfl rfl (Y.pickT rfl rfl) ?_
        refine J.nil ?_
        obtain rfl := Option.some.inj H
        exact N.meet (true, ()) ⟨HK54, trivial⟩ (by exact ⟨rfl, rfl, rfl, rfl, rfl, trivial⟩) (by exact fun w h => (St.pick [2, 1] [_, _, _] h rfl))
      · refine J.as (k := 35) rfl (congrArg Value.bool (decide_eq_false c58)) ?_
        refine J.p rfl rfl rfl rfl (Y.mv rfl) ?_
        refine J.p rfl rfl rfl rfl (Y.bin rfl rfl rfl) ?_
        refine J.p rfl rfl rfl rfl (Y.pickF rfl rfl) ?_
        refine J.p rfl rfl rfl rfl (Y.mv rfl) ?_
        refine split2 H (fun c59 H => ?_) (fun c59 H => ?_)
        · refine J.as (k := 39) rfl (congrArg Value.bool (decide_eq_true c59)) ?_
          refine J.skip rfl rfl ?_
          refine J.skip rfl rfl ?_
          refine J.skip rfl rfl ?_
          refine J.skip rfl rfl ?_
          refine J.skip rfl rfl ?_
          refine J.skip rfl rfl ?_
          refine J.skip rfl rfl ?_
          refine J.skip rfl rfl ?_
          refine J.skip rfl rfl ?_
          refine J.skip rfl rfl ?_
          refine J.p rfl rfl rfl rfl (Y.pickT rfl rfl) ?_
          refine J.p rfl rfl rfl rfl (Y.mv rfl) ?_
          refine J.skip rfl rfl ?_
          refine J.skip rfl rfl ?_
          refine J.skip rfl rfl ?_
          refine J.skip rfl rfl ?_
          refine J.skip rfl rfl ?_
          refine J.skip rfl rfl ?_
          refine J.skip rfl rfl ?_
          refine J.skip rfl rfl ?_
          refine J.skip rfl rfl ?_
          refine J.skip rfl rfl ?_
          refine J.p rfl rfl rfl rfl (Y.pickT rfl rfl) ?_
          refine J.p rfl rfl rfl rfl (Y.mv rfl) ?_
          refine J.skip rfl rfl ?_
          refine J.skip rfl rfl ?_
          refine J.skip rfl rfl ?_
          refine J.skip rfl rfl ?_
          refine J.skip rfl rfl ?_
          refine J.skip rfl rfl ?_
          refine J.skip rfl rfl ?_
          refine J.skip rfl rfl ?_
          refine J.skip rfl rfl ?_
          refine J.skip rfl rfl ?_
          refine J.p rfl rfl rfl rfl (Y.pickT rfl rfl) ?_
          refine J.nil ?_
          obtain rfl := Option.some.inj H
          exact N.meet (true, ()) ⟨HK54, trivial⟩ (by exact ⟨rfl, rfl, rfl, rfl, rfl, trivial⟩) (by exact fun w h => (St.pick [2, 1] [_, _, _] h rfl))
        · refine J.as (k := 39) rfl (congrArg Value.bool (decide_eq_false c59)) ?_
          refine J.p rfl rfl rfl rfl (Y.mv rfl) ?_
          refine J.p rfl rfl rfl rfl (Y.bin rfl rfl rfl) ?_
          refine J.p rfl rfl rfl rfl (Y.mv rfl) ?_
          refine split2 H (fun c60 H => ?_) (fun c60 H => ?_)
          · refine J.as (k := 42) rfl (congrArg Value.bool (decide_eq_true c60)) ?_
            refine J.p rfl rfl rfl rfl (Y.mv rfl) ?_
            refine J.p rfl rfl rfl rfl (Y.bin rfl rfl rfl) ?_
            refine J.p rfl rfl rfl rfl (Y.pickT rfl rfl) ?_
            refine J.p rfl rfl rfl rfl (Y.mv rfl) ?_
            refine split2 H (fun c61 H => ?_) (fun c61 H => ?_)
            · refine J.as (k := 46) rfl (congrArg Value.bool (decide_eq_true c61)) ?_
              refine J.p rfl rfl rfl rfl (Y.mv rfl) ?_
              refine J.p rfl rfl rfl rfl (Y.bin rfl rfl rfl) ?_
              refine J.p rfl rfl rfl rfl (Y.pickT rfl rfl) ?_
              refine J.p rfl rfl rfl rfl (Y.pickF rfl rfl) ?_
              refine J.p rfl rfl rfl rfl (Y.mv rfl) ?_
              refine split2 H (fun c62 H => ?_) (fun c62 H => ?_)
              · refine J.as (k := 51) rfl (congrArg Value.bool (decide_eq_true c62)) ?_
                refine J.skip rfl rfl ?_
                refine J.skip rfl rfl ?_
                refine J.skip rfl rfl ?_
                refine J.skip rfl rfl ?_
                refine J.skip rfl rfl ?_
                refine J.skip rfl rfl ?_
                refine J.skip rfl rfl ?_
                refine J.skip rfl rfl ?_
                refine J.skip rfl rfl ?_
                refine J.skip rfl rfl ?_
                refine J.p rfl rfl rfl rfl (Y.pickT rfl rfl) ?_
                refine J.p rfl rfl rfl rfl (Y.mv rfl) ?_
                refine J.skip rfl rfl ?_
                refine J.skip rfl rfl ?_
                refine J.skip rfl rfl ?_
                refine J.skip rfl rfl ?_
                refine J.skip rfl rfl ?_
                refine J.skip rfl rfl ?_
                refine J.skip rfl rfl ?_
                refine J.skip rfl rfl ?_
                refine J.skip rfl rfl ?_
                refine J.skip rfl rfl ?_
                refine J.p rfl rfl rfl rfl (Y.pickT rfl rfl) ?_
                refine J.nil ?_
                obtain rfl := Option.some.inj H
                exact N.meet (true, ()) ⟨HK54, trivial⟩ (by exact ⟨rfl, rfl, rfl, rfl, rfl, trivial⟩) (by exact fun w h => (St.pick [2, 1] [_, _, _] h rfl))
              · refine J.as (k := 51) rfl (congrArg Value.bool (decide_eq_false c62)) ?_
                refine J.p rfl rfl rfl rfl (Y.mv rfl) ?_
                refine J.p rfl rfl rfl rfl (Y.bin rfl rfl rfl) ?_
                refine J.p rfl rfl rfl rfl (Y.mv rfl) ?_
                refine split2 H (fun c63 H => ?_) (fun c63 H => ?_)
                · refine J.as (k := 54) rfl (congrArg Value.bool (decide_eq_true c63)) ?_
                  refine J.p rfl rfl rfl rfl (Y.mv rfl) ?_
                  refine J.p rfl rfl rfl rfl (Y.bin rfl rfl rfl) ?_
                  refine J.p rfl rfl rfl rfl (Y.pickT rfl rfl) ?_
                  refine J.p rfl rfl rfl rfl (Y.mv rfl) ?_
                  refine split2 H (fun c64 H => ?_) (fun c64 H => ?_)
                  · refine J.as (k := 58) rfl (congrArg Value.bool (decide_eq_true c64)) ?_
                    refine J.p rfl rfl rfl rfl (Y.mv rfl) ?_
                    refine J.p rfl rfl rfl rfl (Y.bin rfl rfl rfl) ?_
                    refine J.p rfl rfl rfl rfl (Y.pickT rfl rfl) ?_
                    refine J.p rfl rfl rfl rfl (Y.pickF rfl rfl) ?_
                    refine J.p rfl rfl rfl rfl (Y.mv rfl) ?_
                    refine split2 H (fun c65 H => ?_) (fun c65 H => ?_)
                    · refine J.as (k := 63) rfl (congrArg Value.bool (decide_eq_true c65)) ?_
                      refine J.skip rfl rfl ?_
                      refine J.skip rfl rfl ?_
                      refine J.skip rfl rfl ?_
                      refine J.skip rfl rfl ?_
                      refine J.skip rfl rfl ?_
                      refine J.skip rfl rfl ?_
                      refine J.skip rfl rfl ?_
                      refine J.skip rfl rfl ?_
                      refine J.skip rfl rfl ?_
                      refine J.skip rfl rfl ?_
                      refine J.p rfl rfl rfl rfl (Y.pickT rfl rfl) ?_
                      refine J.nil ?_
                      obtain rfl := Option.some.inj H
                      exact N.meet (true, ()) ⟨HK54, trivial⟩ (by exact ⟨rfl, rfl, rfl, rfl, rfl, trivial⟩) (by exact fun w h => (St.pick [2, 1] [_, _, _] h rfl))
                    · refine J.as (k := 63) rfl (congrArg Value.bool (decide_eq_false c65)) ?_
                      refine J.p rfl rfl rfl rfl (Y.mv rfl) ?_
                      refine J.p rfl rfl rfl rfl (Y.bin rfl rfl rfl) ?_
                      refine J.p rfl rfl rfl rfl (Y.mv rfl) ?_
                      refine split2 H (fun c66 H => ?_) (fun c66 H => ?_)
                      · refine J.as (k := 66) rfl (congrArg Value.bool (decide_eq_true c66)) ?_
                        refine J.p rfl rfl rfl rfl (Y.mv rfl) ?_
                        refine J.p rfl rfl rfl rfl (Y.bin rfl rfl rfl) ?_
                        refine J.p rfl rfl rfl rfl (Y.pickT rfl rfl) ?_
                        refine J.p rfl rfl rfl rfl (Y.mv rfl) ?_
                        refine split2 H (fun c67 H => ?_) (fun c67 H => ?_)
                        · refine J.as (k := 70) rfl (congrArg Value.bool (decide_eq_true c67)) ?_
                          refine J.p rfl rfl rfl rfl (Y.mv rfl) ?_
                          refine J.p rfl rfl rfl rfl (Y.bin rfl rfl rfl) ?_
                          refine J.p rfl rfl rfl rfl (Y.pickT rfl rfl) ?_
                          refine J.p rfl rfl rfl rfl (Y.pickF rfl rfl) ?_
                          refine J.nil ?_
                          obtain rfl := Option.some.inj H
                          exact N.meet (decide (0 ≤ t13), ()) ⟨HK54, trivial⟩ (by exact ⟨rfl, rfl, rfl, rfl, rfl, trivial⟩) (by exact fun w h => (St.pick [2, 1] [_, _, _] h rfl))
                        · refine J.as (k := 70) rfl (congrArg Value.bool (decide_eq_false c67)) ?_
                          refine J.skip rfl rfl ?_
                          refine J.skip rfl rfl ?_
                          refine J.p rfl rfl rfl rfl (Y.pickF rfl rfl) ?_
                          refine J.p rfl rfl rfl rfl (Y.pickF rfl rfl) ?_
                          refine J.nil ?_
                          obtain rfl := Option.some.inj H
                          exact N.meet (false, ()) ⟨HK54, trivial⟩ (by exact ⟨rfl, rfl, rfl, rfl, rfl, trivial⟩) (by exact fun w h => (St.pick [2, 1] [_, _, _] h rfl))
                      · refine J.as (k := 66) rfl (congrArg Value.bool (decide_eq_false c66)) ?_
                        refine J.skip rfl rfl ?_
                        refine J.skip rfl rfl ?_
                        refine J.p rfl rfl rfl rfl (Y.pickF rfl rfl) ?_
                        refine J.p rfl rfl rfl rfl (Y.mv rfl) ?_
                        refine J.skip rfl rfl ?_
                        refine J.skip rfl rfl ?_
                        refine J.p rfl rfl rfl rfl (Y.pickF rfl rfl) ?_
                        refine J.p rfl rfl rfl rfl (Y.pickF rfl rfl) ?_
                        refine J.nil ?_
                        obtain rfl := Option.some.inj H
                        exact N.meet (false, ()) ⟨HK54, trivial⟩ (by exact ⟨rfl, rfl, rfl, rfl, rfl, trivial⟩) (by exact fun w h => (St.pick [2, 1] [_, _, _] h rfl))
                  · refine J.as (k := 58) rfl (congrArg Value.bool (decide_eq_false c64)) ?_
                    refine J.skip rfl rfl ?_
                    refine J.skip rfl rfl ?_
                    refine J.p rfl rfl rfl rfl (Y.pickF rfl rfl) ?_
                    refine J.p rfl rfl rfl rfl (Y.pickF rfl rfl) ?_
                    refine J.p rfl rfl rfl rfl (Y.mv rfl) ?_
                    refine J.p rfl rfl rfl rfl (Y.mv rfl) ?_
                    refine J.p rfl rfl rfl rfl (Y.bin rfl rfl rfl) ?_
                    refine J.p rfl rfl rfl rfl (Y.mv rfl) ?_
                    refine split2 H (fun c68 H => ?_) (fun c68 H => ?_)
                    · refine J.as (k := 66) rfl (congrArg Value.bool (decide_eq_true c68)) ?_
                      refine J.p rfl rfl rfl rfl (Y.mv rfl) ?_
                      refine J.p rfl rfl rfl rfl (Y.bin rfl rfl rfl) ?_
                      refine J.p rfl rfl rfl rfl (Y.pickT rfl rfl) ?_
                      refine J.p rfl rfl rfl rfl (Y.mv rfl) ?_
                      refine split2 H (fun c69 H => ?_) (fun c69 H => ?_)
                      · refine J.as (k := 70) rfl (congrArg Value.bool (decide_eq_true c69)) ?_
                        refine J.p rfl rfl rfl rfl (Y.mv rfl) ?_
                        refine J.p rfl rfl rfl rfl (Y.bin rfl rfl rfl) ?_
                        refine J.p rfl rfl rfl rfl (Y.pickT rfl rfl) ?_
                        refine J.p rfl rfl rfl rfl (Y.pickF rfl rfl) ?_
                        refine J.nil ?_
                        obtain rfl := Option.some.inj H
                        exact N.meet (decide (0 ≤ t13), ()) ⟨HK54, trivial⟩ (by exact ⟨rfl, rfl, rfl, rfl, rfl, trivial⟩) (by exact fun w h => (St.pick [2, 1] [_, _, _] h rfl))
                      · refine J.as (k := 70) rfl (congrArg Value.bool (decide_eq_false c69)) ?_
                        refine J.skip rfl rfl ?_
                        refine J.skip rfl rfl ?_
                        refine J.p rfl rfl rfl rfl (Y.pickF rfl rfl) ?_
                        refine J.p rfl rfl rfl rfl (Y.pickF rfl rfl) ?_
                        refine J.nil ?_
                        obtain rfl := Option.some.inj H
                        exact N.meet (false, ()) ⟨HK54, trivial⟩ (by exact ⟨rfl, rfl, rfl, rfl, rfl, trivial⟩) (by exact fun w h => (St.pick [2, 1] [_, _, _] h rfl))
                    · refine J.as (k := 66) rfl (congrArg Value.bool (decide_eq_false c68)) ?_
                      refine J.skip rfl rfl ?_
                      refine J.skip rfl rfl ?_
                      refine J.p rfl rfl rfl rfl (Y.pickF rfl rfl) ?_
                      refine J.p rfl rfl rfl rfl (Y.mv rfl) ?_
                      refine J.skip rfl rfl ?_
                      refine J.skip rfl rfl ?_
                      refine J.p rfl rfl rfl rfl (Y.pickF rfl rfl) ?_
                      refine J.p rfl rfl rfl rfl (Y.pickF rfl rfl) ?_
                      refine J.nil ?_
                      obtain rfl := Option.some.inj H
                      exact N.meet (false, ()) ⟨HK54, trivial⟩ (by exact ⟨rfl, rfl, rfl, rfl, rfl, trivial⟩) (by exact fun w h => (St.pick [2, 1] [_, _, _] h rfl))
                · refine J.as (k := 54) rfl (congrArg Value.bool (decide_eq_false c63)) ?_
                  refine J.skip rfl rfl ?_
                  refine J.skip rfl rfl ?_
                  refine J.p rfl rfl rfl rfl (Y.pickF rfl rfl) ?_
                  refine J.p rfl rfl rfl rfl (Y.mv rfl) ?_
                  refine J.skip rfl rfl ?_
                  refine J.skip rfl rfl ?_
                  refine J.p rfl rfl rfl rfl (Y.pickF rfl rfl) ?_
                  refine J.p rfl rfl rfl rfl (Y.pickF rfl rfl) ?_
                  refine J.p rfl rfl rfl rfl (Y.mv rfl) ?_
                  refine J.p rfl rfl rfl rfl (Y.mv rfl) ?_
                  refine J.p rfl rfl rfl rfl (Y.bin rfl rfl rfl) ?_
                  refine J.p rfl rfl rfl rfl (Y.mv rfl) ?_
                  refine split2 H (fun c70 H => ?_) (fun c70 H => ?_)
                  · refine J.as (k := 66) rfl (congrArg Value.bool (decide_eq_true c70)) ?_
                    refine J.p rfl rfl rfl rfl (Y.mv rfl) ?_
                    refine J.p rfl rfl rfl rfl (Y.bin rfl rfl rfl) ?_
                    refine J.p rfl rfl rfl rfl (Y.pickT rfl rfl) ?_
                    refine J.p rfl rfl rfl rfl (Y.mv rfl) ?_
                    refine split2 H (fun c71 H => ?_) (fun c71 H => ?_)
                    · refine J.as (k := 70) rfl (congrArg Value.bool (decide_eq_true c71)) ?_
                      refine J.p rfl rfl rfl rfl (Y.mv rfl) ?_
                      refine J.p rfl rfl rfl rfl (Y.bin rfl rfl rfl) ?_
                      refine J.p rfl rfl rfl rfl (Y.pickT rfl rfl) ?_
                      refine J.p rfl rfl rfl rfl (Y.pickF rfl rfl) ?_
                      refine J.nil ?_
                      obtain rfl := Option.some.inj H
                      exact N.meet (decide (0 ≤ t13), ()) ⟨HK54, trivial⟩ (by exact ⟨rfl, rfl, rfl, rfl, rfl, trivial⟩) (by exact fun w h => (St.pick [2, 1] [_, _, _] h rfl))
                    · refine J.as (k := 70) rfl (congrArg Value.bool (decide_eq_false c71)) ?_
                      refine J.skip rfl rfl ?_
                      refine J.skip rfl rfl ?_
                      refine J.p rfl rfl rfl rfl (Y.pickF rfl rfl) ?_
                      refine J.p rfl rfl rfl rfl (Y.pickF rfl rfl) ?_
                      refine J.nil ?_
                      obtain rfl := Option.some.inj H
                      exact N.meet (false, ()) ⟨HK54, trivial⟩ (by exact ⟨rfl, rfl, rfl, rfl, rfl, trivial⟩) (by exact fun w h => (St.pick [2, 1] [_, _, _] h rfl))
                  · refine J.as (k := 66) rfl (congrArg Value.bool (decide_eq_false c70)) ?_
                    refine J.skip rfl rfl ?_
                    refine J.skip rfl rfl ?_
                    refine J.p rfl rfl rfl rfl (Y.pickF rfl rfl) ?_
                    refine J.p rfl rfl rfl rfl (Y.mv rfl) ?_
                    refine J.skip rfl rfl ?_
                    refine J.skip rfl rfl ?_
                    refine J.p rfl rfl rfl rfl (Y.pickF rfl rfl) ?_
                    refine J.p rfl rfl rfl rfl (Y.pickF rfl rfl) ?_
                    refine J.nil ?_
                    obtain rfl := Option.some.inj H
                    exact N.meet (false, ()) ⟨HK54, trivial⟩ (by exact ⟨rfl, rfl, rfl, rfl, rfl, trivial⟩) (by exact fun w h => (St.pick [2, 1] [_, _, _] h rfl))
            · refine J.as (k := 46) rfl (congrArg Value.bool (decide_eq_false c61)) ?_
              refine J.skip rfl rfl ?_
              refine J.skip rfl rfl ?_
              refine J.p rfl rfl rfl rfl (Y.pickF rfl rfl) ?_
              refine J.p rfl rfl rfl rfl (Y.pickF rfl rfl) ?_
              refine J.p rfl rfl rfl rfl (Y.mv rfl) ?_
              refine J.p rfl rfl rfl rfl (Y.mv rfl) ?_
              refine J.p rfl rfl rfl rfl (Y.bin rfl rfl rfl) ?_
              refine J.p rfl rfl rfl rfl (Y.mv rfl) ?_
              refine split2 H (fun c72 H => ?_) (fun c72 H => ?_)
              · refine J.as (k := 54) rfl (congrArg Value.bool (decide_eq_true c72)) ?_
                refine J.p rfl rfl rfl rfl (Y.mv rfl) ?_
                refine J.p rfl rfl rfl rfl (Y.bin rfl rfl rfl) ?_
                refine J.p rfl rfl rfl rfl (Y.pickT rfl rfl) ?_
                refine J.p rfl rfl rfl rfl (Y.mv rfl) ?_
                refine split2 H (fun c73 H => ?_) (fun c73 H => ?_)
                · refine J.as (k := 58) rfl (congrArg Value.bool (decide_eq_true c73)) ?_
                  refine J.p rfl rfl rfl rfl (Y.mv rfl) ?_
                  refine J.p rfl rfl rfl rfl (Y.bin rfl rfl rfl) ?_
                  refine J.p rfl rfl rfl rfl (Y.pickT rfl rfl) ?_
                  refine J.p rfl rfl rfl rfl (Y.pickF rfl rfl) ?_
                  refine J.p rfl rfl rfl rfl (Y.mv rfl) ?_
                  refine split2 H (fun c74 H => ?_) (fun c74 H => ?_)
                  · refine J.as (k := 63) rfl (congrArg Value.bool (decide_eq_true c74)) ?_
                    refine J.skip rfl rfl ?_
                    refine J.skip rfl rfl ?_
                    refine J.skip rfl rfl ?_
                    refine J.skip rfl rfl ?_
                    refine J.skip rfl rfl ?_
                    refine J.skip rfl rfl ?_
                    refine J.skip rfl rfl ?_
                    refine J.skip rfl rfl ?_
                    refine J.skip rfl rfl ?_
                    refine J.skip rfl rfl ?_
                    refine J.p rfl rfl rfl rfl (Y.pickT rfl rfl) ?_
                    refine J.nil ?_
                    obtain rfl := Option.some.inj H
                    exact N.meet (true, ()) ⟨HK54, trivial⟩ (by exact ⟨rfl, rfl, rfl, rfl, rfl, trivial⟩) (by exact fun w h => (St.pick [2, 1] [_, _, _] h rfl))
                  · refine J.as (k := 63) rfl (congrArg Value.bool (decide_eq_false c74)) ?_
                    refine J.p rfl rfl rfl rfl (Y.mv rfl) ?_
                    refine J.p rfl rfl rfl rfl (Y.bin rfl rfl rfl) ?_
                    refine J.p rfl rfl rfl rfl (Y.mv rfl) ?_
                    refine split2 H (fun c75 H => ?_) (fun c75 H => ?_)
                    · refine J.as (k := 66) rfl (congrArg Value.bool (decide_eq_true c75)) ?_
                      refine J.p rfl rfl rfl rfl (Y.mv rfl) ?_
                      refine J.p rfl rfl rfl rfl (Y.bin rfl rfl rfl) ?_
                      refine J.p rfl rfl rfl rfl (Y.pickT rfl rfl) ?_
                      refine J.p rfl rfl rfl rfl (Y.mv rfl) ?_
                      refine split2 H (fun c76 H => ?_) (fun c76 H => ?_)
                      · refine J.as (k := 70) rfl (congrArg Value.bool (decide_eq_true c76)) ?_
                        refine J.p rfl rfl rfl rfl (Y.mv rfl) ?_
                        refine J.p rfl rfl rfl rfl (Y.bin rfl rfl rfl) ?_
                        refine J.p rfl rfl rfl rfl (Y.pickT rfl rfl) ?_
                        refine J.p rfl rfl rfl rfl (Y.pickF rfl rfl) ?_
                        refine J.nil ?_
                        obtain rfl := Option.some.inj H
                        exact N.meet (decide (0 ≤ t13), ()) ⟨HK54, trivial⟩ (by exact ⟨rfl, rfl, rfl, rfl, rfl, trivial⟩) (by exact fun w h => (St.pick [2, 1] [_, _, _] h rfl))
                      · refine J.as (k := 70) rfl (congrArg Value.bool (decide_eq_false c76)) ?_
                        refine J.skip rfl rfl ?_
                        refine J.skip rfl rfl ?_
                        refine J.p rfl rfl rfl rfl (Y.pickF rfl rfl) ?_
                        refine J.p rfl rfl rfl rfl (Y.pickF rfl rfl) ?_
                        refine J.nil ?_
                        obtain rfl := Option.some.inj H
                        exact N.meet (false, ()) ⟨HK54, trivial⟩ (by exact ⟨rfl, rfl, rfl, rfl, rfl, trivial⟩) (by exact fun w h => (St.pick [2, 1] [_, _, _] h rfl))
                    · refine J.as (k := 66) rfl (congrArg Value.bool (decide_eq_false c75)) ?_
                      refine J.skip rfl rfl ?_
                      refine J.skip rfl rfl ?_
                      refine J.p rfl rfl rfl rfl (Y.pickF rfl rfl) ?_
                      refine J.p rfl rfl rfl rfl (Y.mv rfl) ?_
                      refine J.skip rfl rfl ?_
                      refine J.skip rfl rfl ?_
                      refine J.p rfl rfl rfl rfl (Y.pickF rfl rfl) ?_
                      refine J.p rfl rfl rfl rfl (Y.pickF rfl rfl) ?_
                      refine J.nil ?_
                      obtain rfl := Option.some.inj H
                      exact N.meet (false, ()) ⟨HK54, trivial⟩ (by exact ⟨rfl, rfl, rfl, rfl, rfl, trivial⟩) (by exact fun w h => (St.pick [2, 1] [_, _, _] h rfl))
                · refine J.as (k := 58) rfl (congrArg Value.bool (decide_eq_false c73)) ?_
                  refine J.skip rfl rfl ?_
                  refine J.skip rfl rfl ?_
                  refine J.p rfl rfl rfl rfl (Y.pickF rfl rfl) ?_
                  refine J.p rfl rfl rfl rfl (Y.pickF rfl rfl) ?_
                  refine J.p rfl rfl rfl rfl (Y.mv rfl) ?_
                  refine J.p rfl rfl rfl rfl (Y.mv rfl) ?_
                  refine J.p rfl rfl rfl rfl (Y.bin rfl rfl rfl) ?_
                  refine J.p rfl rfl rfl rfl (Y.mv rfl) ?_
                  refine split2 H (fun c77 H => ?_) (fun c77 H => ?_)
                  · refine J.as (k := 66) rfl (congrArg Value.bool (decide_eq_true c77)) ?_
                    refine J.p rfl rfl rfl rfl (Y.mv rfl) ?_
                    refine J.p rfl rfl rfl rfl (Y.bin rfl rfl rfl) ?_
                    refine J.p rfl rfl rfl rfl (Y.pickT rfl rfl) ?_
                    refine J.p rfl rfl rfl rfl (Y.mv rfl) ?_
                    refine split2 H (fun c78 H => ?_) (fun c78 H => ?_)
                    · refine J.as (k := 70) rfl (congrArg Value.bool (decide_eq_true c78)) ?_
                      refine J.p rfl rfl rfl rfl (Y.mv rfl) ?_
                      refine J.p rfl rfl rfl rfl (Y.bin rfl rfl rfl) ?_
                      refine J.p rfl rfl rfl rfl (Y.pickT rfl rfl) ?_
                      refine J.p rfl rfl rfl rfl (Y.pickF rfl rfl) ?_
                      refine J.nil ?_
                      obtain rfl := Option.some.inj H
                      exact N.meet (decide (0 ≤ t13), ()) ⟨HK54, trivial⟩ (by exact ⟨rfl, rfl, rfl, rfl, rfl, trivial⟩) (by exact fun w h => (St.pick [2, 1] [_, _, _] h rfl))
                    · refine J.as (k := 70) rfl (congrArg Value.bool (decide_eq_false c78)) ?_
                      refine J.skip rfl rfl ?_
                      refine J.skip rfl rfl ?_
                      refine J.p rfl rfl rfl rfl (Y.pickF rfl rfl) ?_
                      refine J.p rfl rfl rfl rfl (Y.pickF rfl rfl) ?_
                      refine J.nil ?_
                      obtain rfl := Option.some.inj H
                      exact N.meet (false, ()) ⟨HK54, trivial⟩ (by exact ⟨rfl, rfl, rfl, rfl, rfl, trivial⟩) (by exact fun w h => (St.pick [2, 1] [_, _, _] h rfl))
                  · refine J.as (k := 66) rfl (congrArg Value.bool (decide_eq_false c77)) ?_
                    refine J.skip rfl rfl ?_
                    refine J.skip rfl rfl ?_
                    refine J.p rfl rfl rfl rfl (Y.pickF rfl rfl) ?_
                    refine J.p rfl rfl rfl rfl (Y.mv rfl) ?_
                    refine J.skip rfl rfl ?_
                    refine J.skip rfl rfl ?_
                    refine J.p rfl rfl rfl rfl (Y.pickF rfl rfl) ?_
                    refine J.p rfl rfl rfl rfl (Y.pickF rfl rfl) ?_
                    refine J.nil ?_
                    obtain rfl := Option.some.inj H
                    exact N.meet (false, ()) ⟨HK54, trivial⟩ (by exact ⟨rfl, rfl, rfl, rfl, rfl, trivial⟩) (by exact fun w h => (St.pick [2, 1] [_, _, _] h rfl))
              · refine J.as (k := 54) rfl (congrArg Value.bool (decide_eq_false c72)) ?_
                refine J.skip rfl rfl ?_
                refine J.skip rfl rfl ?_
                refine J.p rfl rfl rfl rfl (Y.pickF rfl rfl) ?_
                refine J.p rfl rfl rfl rfl (Y.mv rfl) ?_
                refine J.skip rfl rfl ?_
                refine J.skip rfl rfl ?_
                refine J.p rfl rfl rfl rfl (Y.pickF rfl rfl) ?_
                refine J.p rfl rfl rfl rfl (Y.pickF rfl rfl) ?_
                refine J.p rfl rfl rfl rfl (Y.mv rfl) ?_
                refine J.p rfl rfl rfl rfl (Y.mv rfl) ?_
                refine J.p rfl rfl rfl rfl (Y.bin rfl rfl rfl) ?_
                refine J.p rfl rfl rfl rfl (Y.mv rfl) ?_
                refine split2 H (fun c79 H => ?_) (fun c79 H => ?_)
                · refine J.as (k := 66) rfl (congrArg Value.bool (decide_eq_true c79)) ?_
                  refine J.p rfl rfl rfl rfl (Y.mv rfl) ?_
                  refine J.p rfl rfl rfl rfl (Y.bin rfl rfl rfl) ?_
                  refine J.p rfl rfl rfl rfl (Y.pickT rfl rfl) ?_
                  refine J.p rfl rfl rfl rfl (Y.mv rfl) ?_
                  refine split2 H (fun c80 H => ?_) (fun c80 H => ?_)
                  · refine J.as (k := 70) rfl (congrArg Value.bool (decide_eq_true c80)) ?_
                    refine J.p rfl rfl rfl rfl (Y.mv rfl) ?_
                    refine J.p rfl rfl rfl rfl (Y.bin rfl rfl rfl) ?_
                    refine J.p rfl rfl rfl rfl (Y.pickT rfl rfl) ?_
                    refine J.p rfl rfl rfl rfl (Y.pickF rfl rfl) ?_
                    refine J.nil ?_
                    obtain rfl := Option.some.inj H
                    exact N.meet (decide (0 ≤ t13), ()) ⟨HK54, trivial⟩ (by exact ⟨rfl, rfl, rfl, rfl, rfl, trivial⟩) (by exact fun w h => (St.pick [2, 1] [_, _, _] h rfl))
                  · refine J.as (k := 70) rfl (congrArg Value.bool (decide_eq_false c80)) ?_
                    refine J.skip rfl rfl ?_
                    refine J.skip rfl rfl ?_
                    refine J.p rfl rfl rfl rfl (Y.pickF rfl rfl) ?_
                    refine J.p rfl rfl rfl rfl (Y.pickF rfl rfl) ?_
                    refine J.nil ?_
                    obtain rfl := Option.some.inj H
                    exact N.meet (false, ()) ⟨HK54, trivial⟩ (by exact ⟨rfl, rfl, rfl, rfl, rfl, trivial⟩) (by exact fun w h => (St.pick [2, 1] [_, _, _] h rfl))
                · refine J.as (k := 66) rfl (congrArg Value.bool (decide_eq_false c79)) ?_
                  refine J.skip rfl rfl ?_
                  refine J.skip rfl rfl ?_
                  refine J.p rfl rfl rfl rfl (Y.pickF rfl rfl) ?_
                  refine J.p rfl rfl rfl rfl (Y.mv rfl) ?_
                  refine J.skip rfl rfl ?_
                  refine J.skip rfl rfl ?_
                  refine J.p rfl rfl rfl rfl (Y.pickF rfl rfl) ?_
                  refine J.p rfl rfl rfl rfl (Y.pickF rfl rfl) ?_
                  refine J.nil ?_
                  obtain rfl := Option.some.inj H
                  exact N.meet (false, ()) ⟨HK54, trivial⟩ (by exact ⟨rfl, rfl, rfl, rfl, rfl, trivial⟩) (by exact fun w h => (St.pick [2, 1] [_, _, _] h rfl))
          · refine J.as (k := 42) rfl (congrArg Value.bool (decide_eq_false c60)) ?_
            refine J.skip rfl rfl ?_
            refine J.skip rfl rfl ?_
            refine J.p rfl rfl rfl rfl (Y.pickF rfl rfl) ?_
            refine J.p rfl rfl rfl rfl (Y.mv rfl) ?_
            refine J.skip rfl rfl ?_
            refine J.skip rfl rfl ?_
            refine J.p rfl rfl rfl rfl (Y.pickF rfl rfl) ?_
            refine J.p rfl rfl rfl rfl (Y.pickF rfl rfl) ?_
            refine J.p rfl rfl rfl rfl (Y.mv rfl) ?_
            refine J.p rfl rfl rfl rfl (Y.mv rfl) ?_
            refine J.p rfl rfl rfl rfl (Y.bin rfl rfl rfl) ?_
            refine J.p rfl rfl rfl rfl (Y.mv rfl) ?_
            refine split2 H (fun c81 H => ?_) (fun c81 H => ?_)
            · refine J.as (k := 54) rfl (congrArg Value.bool (decide_eq_true c81)) ?_
              refine J.p rfl rfl rfl rfl (Y.mv rfl) ?_
              refine J.p rfl rfl rfl rfl (Y.bin rfl rfl rfl) ?_
              refine J.p rfl rfl rfl rfl (Y.pickT rfl rfl) ?_
              refine J.p rfl rfl rfl rfl (Y.mv rfl) ?_
              refine split2 H (fun c82 H => ?_) (fun c82 H => ?_)
              · refine J.as (k := 58) rfl (congrArg Value.bool (decide_eq_true c82)) ?_
                refine J.p rfl rfl rfl rfl (Y.mv rfl) ?_
                refine J.p rfl rfl rfl rfl (Y.bin rfl rfl rfl) ?_
                refine J.p rfl rfl rfl rfl (Y.pickT rfl rfl) ?_
                refine J.p rfl rfl rfl rfl (Y.pickF rfl rfl) ?_
                refine J.p rfl rfl rfl rfl (Y.mv rfl) ?_
                refine split2 H (fun c83 H => ?_) (fun c83 H => ?_)
                · refine J.as (k := 63) rfl (congrArg Value.bool (decide_eq_true c83)) ?_
                  refine J.skip rfl rfl ?_
                  refine J.skip rfl rfl ?_
                  refine J.skip rfl rfl ?_
                  refine J.skip rfl rfl ?_
                  refine J.skip rfl rfl ?_
                  refine J.skip rfl rfl ?_
                  refine J.skip rfl rfl ?_
                  refine J.skip rfl rfl ?_
                  refine J.skip rfl rfl ?_
                  refine J.skip rfl rfl ?_
                  refine J.p rfl rfl rfl rfl (Y.pickT rfl rfl) ?_
                  refine J.nil ?_
                  obtain rfl := Option.some.inj H
                  exact N.meet (true, ()) ⟨HK54, trivial⟩ (by exact ⟨rfl, rfl, rfl, rfl, rfl, trivial⟩) (by exact fun w h => (St.pick [2, 1] [_, _, _] h rfl))
                · refine J.as (k := 63) rfl (congrArg Value.bool (decide_eq_false c83)) ?_
                  refine J.p rfl rfl rfl rfl (Y.mv rfl) ?_
                  refine J.p rfl rfl rfl rfl (Y.bin rfl rfl rfl) ?_
                  refine J.p rfl rfl rfl rfl (Y.mv rfl) ?_
                  refine split2 H (fun c84 H => ?_) (fun c84 H => ?_)
                  · refine J.as (k := 66) rfl (congrArg Value.bool (decide_eq_true c84)) ?_
                    refine J.p rfl rfl rfl rfl (Y.mv rfl) ?_
                    refine J.p rfl rfl rfl rfl (Y.bin rfl rfl rfl) ?_
                    refine J.p rfl rfl rfl rfl (Y.pickT rfl rfl) ?_
                    refine J.p rfl rfl rfl rfl (Y.mv rfl) ?_
                    refine split2 H (fun c85 H => ?_) (fun c85 H => ?_)
                    · refine J.as (k := 70) rfl (congrArg Value.bool (decide_eq_true c85)) ?_
                      refine J.p rfl rfl rfl rfl (Y.mv rfl) ?_
                      refine J.p rfl rfl rfl rfl (Y.bin rfl rfl rfl) ?_
                      refine J.p rfl rfl rfl rfl (Y.pickT rfl rfl) ?_
                      refine J.p rfl rfl rfl rfl (Y.pickF rfl rfl) ?_
                      refine J.nil ?_
                      obtain rfl := Option.some.inj H
                      exact N.meet (decide (0 ≤ t13), ()) ⟨HK54, trivial⟩ (by exact ⟨rfl, rfl, rfl, rfl, rfl, trivial⟩) (by exact fun w h => (St.pick [2, 1] [_, _, _] h rfl))
                    · refine J.as (k := 70) rfl (congrArg Value.bool (decide_eq_false c85)) ?_
                      refine J.skip rfl rfl ?_
                      refine J.skip rfl rfl ?_
                      refine J.p rfl rfl rfl rfl (Y.pickF rfl rfl) ?_
                      refine J.p rfl rfl rfl rfl (Y.pickF rfl rfl) ?_
                      refine J.nil ?_
                      obtain rfl := Option.some.inj H
                      exact N.meet (false, ()) ⟨HK54, trivial⟩ (by exact ⟨rfl, rfl, rfl, rfl, rfl, trivial⟩) (by exact fun w h => (St.pick [2, 1] [_, _, _] h rfl))
                  · refine J.as (k := 66) rfl (congrArg Value.bool (decide_eq_false c84)) ?_
                    refine J.skip rfl rfl ?_
                    refine J.skip rfl rfl ?_
                    refine J.p rfl rfl rfl rfl (Y.pickF rfl rfl) ?_
                    refine J.p rfl rfl rfl rfl (Y.mv rfl) ?_
                    refine J.skip rfl rfl ?_
                    refine J.skip rfl rfl ?_
                    refine J.p rfl rfl rfl rfl (Y.pickF rfl rfl) ?_
                    refine J.p rfl rfl rfl rfl (Y.pickF rfl rfl) ?_
                    refine J.nil ?_
                    obtain rfl := Option.some.inj H
                    exact N.meet (false, ()) ⟨HK54, trivial⟩ (by exact ⟨rfl, rfl, rfl, rfl, rfl, trivial⟩) (by exact fun w h => (St.pick [2, 1] [_, _, _] h rfl))
              · refine J.as (k := 58) rfl (congrArg Value.bool (decide_eq_false c82)) ?_
                refine J.skip rfl rfl ?_
                refine J.skip rfl rfl ?_
                refine J.p rfl rfl rfl rfl (Y.pickF rfl rfl) ?_
                refine J.p rfl rfl rfl rfl (Y.pickF rfl rfl) ?_
                refine J.p rfl rfl rfl rfl (Y.mv rfl) ?_
                refine J.p rfl rfl rfl rfl (Y.mv rfl) ?_
                refine J.p rfl rfl rfl rfl (Y.bin rfl rfl rfl) ?_
                refine J.p rfl rfl rfl rfl (Y.mv rfl) ?_
                refine split2 H (fun c86 H => ?_) (fun c86 H => ?_)
                · refine J.as (k := 66) rfl (congrArg Value.bool (decide_eq_true c86)) ?_
                  refine J.p rfl rfl rfl rfl (Y.mv rfl) ?_
                  refine J.p rfl rfl rfl rfl (Y.bin rfl rfl rfl) ?_
                  refine J.p rfl rfl rfl rfl (Y.pickT rfl rfl) ?_
                  refine J.p rfl rfl rfl rfl (Y.mv rfl) ?_
                  refine split2 H (fun c87 H => ?_) (fun c87 H => ?_)
                  · refine J.as (k := 70) rfl (congrArg Value.bool (decide_eq_true c87)) ?_
                    refine J.p rfl rfl rfl rfl (Y.mv rfl) ?_
                    refine J.p rfl rfl rfl rfl (Y.bin rfl rfl rfl) ?_
                    refine J.p rfl rfl rfl rfl (Y.pickT rfl rfl) ?_
                    refine J.p rfl rfl rfl rfl (Y.pickF rfl rfl) ?_
                    refine J.nil ?_
                    obtain rfl := Option.some.inj H
                    exact N.meet (decide (0 ≤ t13), ()) ⟨HK54, trivial⟩ (by exact ⟨rfl, rfl, rfl, rfl, rfl, trivial⟩) (by exact fun w h => (St.pick [2, 1] [_, _, _] h rfl))
                  · refine J.as (k := 70) rfl (congrArg Value.bool (decide_eq_false c87)) ?_
                    refine J.skip rfl rfl ?_
                    refine J.skip rfl rfl ?_
                    refine J.p rfl rfl rfl rfl (Y.pickF rfl rfl) ?_
                    refine J.p rfl rfl rfl rfl (Y.pickF rfl rfl) ?_
                    refine J.nil ?_
                    obtain rfl := Option.some.inj H
                    exact N.meet (false, ()) ⟨HK54, trivial⟩ (by exact ⟨rfl, rfl, rfl, rfl, rfl, trivial⟩) (by exact fun w h => (St.pick [2, 1] [_, _, _] h rfl))
                · refine J.as (k := 66) rfl (congrArg Value.bool (decide_eq_false c86)) ?_
                  refine J.skip rfl rfl ?_
                  refine J.skip rfl rfl ?_
                  refine J.p rfl rfl rfl rfl (Y.pickF rfl rfl) ?_
                  refine J.p rfl rfl rfl rfl (Y.mv rfl) ?_
                  refine J.skip rfl rfl ?_
                  refine J.skip rfl rfl ?_
                  refine J.p rfl rfl rfl rfl (Y.pickF rfl rfl) ?_
                  refine J.p rfl rfl rfl rfl (Y.pickF rfl rfl) ?_
                  refine J.nil ?_
                  obtain rfl := Option.some.inj H
                  exact N.meet (false, ()) ⟨HK54, trivial⟩ (by exact ⟨rfl, rfl, rfl, rfl, rfl, trivial⟩) (by exact fun w h => (St.pick [2, 1] [_, _, _] h rfl))
            · refine J.as (k := 54) rfl (congrArg Value.bool (decide_eq_false c81)) ?_
              refine J.skip rfl rfl ?_
              refine J.skip rfl rfl ?_
              refine J.p rfl rfl rfl rfl (Y.pickF rfl rfl) ?_
              refine J.p rfl rfl rfl rfl (Y.mv rfl) ?_
              refine J.skip rfl rfl ?_
              refine J.skip rfl rfl ?_
              refine J.p rfl rfl rfl rfl (Y.pickF rfl rfl) ?_
              refine J.p rfl rfl rfl rfl (Y.pickF rfl rfl) ?_
              refine J.p rfl rfl rfl rfl (Y.mv rfl) ?_
              refine J.p rfl rfl rfl rfl (Y.mv rfl) ?_
              refine J.p rfl rfl rfl rfl (Y.bin rfl rfl rfl) ?_
              refine J.p rfl rfl rfl rfl (Y.mv rfl) ?_
              refine split2 H (fun c88 H => ?_) (fun c88 H => ?_)
              · refine J.as (k := 66) rfl (congrArg Value.bool (decide_eq_true c88)) ?_
                refine J.p rfl rfl rfl rfl (Y.mv rfl) ?_
                refine J.p rfl rfl rfl rfl (Y.bin rfl rfl rfl) ?_
                refine J.p rfl rfl rfl rfl (Y.pickT rfl rfl) ?_
                refine J.p rfl rfl rfl rfl (Y.mv rfl) ?_
                refine split2 H (fun c89 H => ?_) (fun c89 H => ?_)
                · refine J.as (k := 70) rfl (congrArg Value.bool (decide_eq_true c89)) ?_
                  refine J.p rfl rfl rfl rfl (Y.mv rfl) ?_
                  refine J.p rfl rfl rfl rfl (Y.bin rfl rfl rfl) ?_
                  refine J.p rfl rfl rfl rfl (Y.pickT rfl rfl) ?_
                  refine J.p rfl rfl rfl rfl (Y.pickF rfl rfl) ?_
                  refine J.nil ?_
                  obtain rfl := Option.some.inj H
                  exact N.meet (decide (0 ≤ t13), ()) ⟨HK54, trivial⟩ (by exact ⟨rfl, rfl, rfl, rfl, rfl, trivial⟩) (by exact fun w h => (St.pick [2, 1] [_, _, _] h rfl))
                · refine J.as (k := 70) rfl (congrArg Value.bool (decide_eq_false c89)) ?_
                  refine J.skip rfl rfl ?_
                  refine J.skip rfl rfl ?_
                  refine J.p rfl rfl rfl rfl (Y.pickF rfl rfl) ?_
                  refine J.p rfl rfl rfl rfl (Y.pickF rfl rfl) ?_
                  refine J.nil ?_
                  obtain rfl := Option.some.inj H
                  exact N.meet (false, ()) ⟨HK54, trivial⟩ (by exact ⟨rfl, rfl, rfl, rfl, rfl, trivial⟩) (by exact fun w h => (St.pick [2, 1] [_, _, _] h rfl))
              · refine J.as (k := 66) rfl (congrArg Value.bool (decide_eq_false c88)) ?_
                refine J.skip rfl rfl ?_
                refine J.skip rfl rfl ?_
                refine J.p rfl rfl rfl rfl (Y.pickF rfl rfl) ?_
                refine J.p rfl rfl rfl rfl (Y.mv rfl) ?_
                refine J.skip rfl rfl ?_
                refine J.skip rfl rfl ?_
                refine J.p rfl rfl rfl rfl (Y.pickF rfl rfl) ?_
                refine J.p rfl rfl rfl rfl (Y.pickF rfl rfl) ?_
                refine J.nil ?_
                obtain rfl := Option.some.inj H
                exact N.meet (false, ()) ⟨HK54, trivial⟩ (by exact ⟨rfl, rfl, rfl, rfl, rfl, trivial⟩) (by exact fun w h => (St.pick [2, 1] [_, _, _] h rfl))
  · refine C.at (s' := [(3, .pointer (some ⟨g1, 0, none⟩)), (4, .pointer (some ⟨g3, 0, none⟩)), (7, .bool t7), (8, .int .i64 t9), (74, .bool o51)]) (G' := cells g1 27 [.int .u64 a0_0, .int .i64 a0_1, .string a0_2, .string a0_3] :: cells g3 27 [.int .u64 a1_0, .int .i64 a1_1, .string a1_2, .string a1_3] :: G) rfl rfl ?_
    refine split2 H (fun c91 H => ?_) (fun c91 H => ?_)
    · refine C.condT (congrArg (fun b => some (Value.bool b)) (c91)) ?_
      refine C.rs ?_
      refine J.p rfl rfl rfl rfl (Y.asg rfl) ?_
      refine J.nx ?_
      refine C.ret ?_
      obtain rfl := Option.some.inj H
      refine T.th ?_
      exact ret_ok (ks := [6]) rfl rfl (fun w h => ⟨rfl, (St.pick [] [_, _] h rfl)⟩)
    · refine C.condF (congrArg (fun b => some (Value.bool b)) (nt c91)) ?_
      refine C.skip ?_
      refine N.nx ?_
      refine C.rs ?_
      refine J.r rfl rfl rfl rfl (Y.ldCA (us := [.int .u64 a0_0, .int .i64 a0_1, .string a0_2, .string a0_3]) 0 Try.underlying27 rfl ti27 rfl rfl rfl rfl) ?_
      obtain ⟨t92, hC93, H⟩ := bind_some H
      refine J.call (us := []) (cap := []) rfl rfl rfl go21 (fun w hw => by have hcc := fOf.calls a0_0 a0_1 a0_2 a0_3 t92 hC93 w hw; exact hcc) (fun e w1 h1 => ?_)
      obtain ⟨rfl, hw124⟩ := h1
      refine ⟨_, _, rfl, hw124, ?_⟩
      obtain ⟨t94, hC95, H⟩ := bind_some H
      refine J.call (us := []) (cap := []) rfl rfl rfl go18 (fun w hw => by have hcc := fEncode.calls K t92.1 t92.2.1 t92.2.2.1 t92.2.2.2.1 t92.2.2.2.2.1 t92.2.2.2.2.2.1 t92.2.2.2.2.2.2.1 t92.2.2.2.2.2.2.2.1 t92.2.2.2.2.2.2.2.2.1 t92.2.2.2.2.2.2.2.2.2.1 t92.2.2.2.2.2.2.2.2.2.2.1 t92.2.2.2.2.2.2.2.2.2.2.2.1 t92.2.2.2.2.2.2.2.2.2.2.2.2.1 t92.2.2.2.2.2.2.2.2.2.2.2.2.2 t94 hC95 w hw; exact hcc) (fun e w1 h1 => ?_)
      obtain ⟨A96, c97, rfl, hw123⟩ := h1
      refine ⟨_, _, rfl, hw123, ?_⟩
      refine J.p rfl rfl rfl rfl (Y.mv rfl) ?_
      refine J.p rfl rfl rfl rfl (Y.ext rfl rfl) ?_
      refine J.p rfl rfl rfl rfl (Y.ext rfl rfl) ?_
      refine J.p rfl rfl rfl rfl (Y.asg rfl) ?_
      refine J.p rfl rfl rfl rfl (Y.asg rfl) ?_
      refine J.nx ?_
      refine C.rs ?_
      refine J.r rfl rfl rfl rfl (Y.ldCA (us := [.int .u64 a1_0, .int .i64 a1_1, .string a1_2, .string a1_3]) 2 Try.underlying27 rfl ti27 rfl rfl rfl rfl) ?_
      obtain ⟨t99, hC100, H⟩ := bind_some H
      refine J.call (us := []) (cap := []) rfl rfl rfl go21 (fun w hw => by have hcc := fOf.calls a1_0 a1_1 a1_2 a1_3 t99 hC100 w hw; exact hcc) (fun e w1 h1 => ?_)
      obtain ⟨rfl, hw122⟩ := h1
      refine ⟨_, _, rfl, hw122, ?_⟩
      obtain ⟨t101, hC102, H⟩ := bind_some H
      refine J.call (us := []) (cap := []) rfl rfl rfl go18 (fun w hw => by have hcc := fEncode.calls K t99.1 t99.2.1 t99.2.2.1 t99.2.2.2.1 t99.2.2.2.2.1 t99.2.2.2.2.2.1 t99.2.2.2.2.2.2.1 t99.2.2.2.2.2.2.2.1 t99.2.2.2.2.2.2.2.2.1 t99.2.2.2.2.2.2.2.2.2.1 t99.2.2.2.2.2.2.2.2.2.2.1 t99.2.2.2.2.2.2.2.2.2.2.2.1 t99.2.2.2.2.2.2.2.2.2.2.2.2.1 t99.2.2.2.2.2.2.2.2.2.2.2.2.2 t101 hC102 w hw; exact hcc) (fun e w1 h1 => ?_)
      obtain ⟨A103, c104, rfl, hw121⟩ := h1
      refine ⟨_, _, rfl, hw121, ?_⟩
      refine J.p rfl rfl rfl rfl (Y.mv rfl) ?_
      refine J.p rfl rfl rfl rfl (Y.ext rfl rfl) ?_
      refine J.p rfl rfl rfl rfl (Y.ext rfl rfl) ?_
      refine J.p rfl rfl rfl rfl (Y.asg rfl) ?_
      refine J.p rfl rfl rfl rfl (Y.asg rfl) ?_
      refine J.nx ?_
      refine C.seq ?_
      refine C.rs ?_
      refine J.joinB H (fun (o109 : Bool) (j110 : Unit) => [(3, .pointer (some ⟨g1, 0, none⟩)), (4, .pointer (some ⟨g3, 0, none⟩)), (7, .bool t7), (8, .int .i64 t9), (12, .int .i64 t94.2), (14, .int .i64 t101.2), (101, .bool o109)]) (fun (o109 : Bool) (j110 : Unit) => cells g1 27 [.int .u64 a0_0, .int .i64 a0_1, .string a0_2, .string a0_3] :: cells g3 27 [.int .u64 a1_0, .int .i64 a1_1, .string a1_2, .string a1_3] :: G) (fun (o109 : Bool) (j110 : Unit) => True) (fun o111 H HK112 => ?_) (fun o109 j110 H _ => ?_)
      · refine J.p rfl rfl rfl rfl (Y.mv rfl) ?_
        refine J.p rfl rfl rfl rfl (Y.bin rfl rfl rfl) ?_
        refine J.p rfl rfl rfl rfl (Y.mv rfl) ?_
        refine split2 H (fun c113 H => ?_) (fun c113 H => ?_)
        · refine J.as (k := 89) rfl (congrArg Value.bool (decide_eq_true c113)) ?_
          refine J.r rfl rfl rfl rfl (Y.ldCA (us := [.int .u64 a0_0, .int .i64 a0_1, .string a0_2, .string a0_3]) 2 Try.underlying27 rfl ti27 rfl rfl rfl rfl) ?_
          refine J.r rfl rfl rfl rfl (Y.ldCA (us := [.int .u64 a1_0, .int .i64 a1_1, .string a1_2, .string a1_3]) 3 Try.underlying27 rfl ti27 rfl rfl rfl rfl) ?_
          refine J.p rfl rfl rfl rfl (Y.nest Try.eqGuardType27 rfl (EqV.struct Try.underlying27 Try.stoodInHeld27 (EqFs.cons rfl (part_one (v := .int .u64 a0_0) Try.underlying25 rfl (by kernel_rfl)) (part_one (v := .int .u64 a1_0) Try.underlying25 rfl (by kernel_rfl)) (EqV.int 0 Try.underlying25) (EqFs.cons rfl (part_one (v := .int .i64 a0_1) Try.underlying24 rfl (by kernel_rfl)) (part_one (v := .int .i64 a1_1) Try.underlying24 rfl (by kernel_rfl)) (EqV.int 0 Try.underlying24) (EqFs.cons rfl (part_one (v := .string a0_2) Try.underlying9 rfl (by kernel_rfl)) (part_one (v := .string a1_2) Try.underlying9 rfl (by kernel_rfl)) (EqV.str 0 Try.underlying9) (EqFs.cons rfl (part_one (v := .string a0_3) Try.underlying9 rfl (by kernel_rfl)) (part_one (v := .string a1_3) Try.underlying9 rfl (by kernel_rfl)) (EqV.str 0 Try.underlying9) EqFs.nil))))) rfl rfl) ?_
          refine J.p rfl rfl rfl rfl (Y.pickT rfl rfl) ?_
          refine J.p rfl rfl rfl rfl (Y.mv rfl) ?_
          refine split2 H (fun c114 H => ?_) (fun c114 H => ?_)
          · refine J.as (k := 94) rfl (congrArg Value.bool (congrArg Bool.not (decide_eq_true c114))) ?_
            refine J.skip rfl rfl ?_
            refine J.skip rfl rfl ?_
            refine J.skip rfl rfl ?_
            refine J.skip rfl rfl ?_
            refine J.skip rfl rfl ?_
            refine J.skip rfl rfl ?_
            refine J.p rfl rfl rfl rfl (Y.pickF rfl rfl) ?_
            refine J.nil ?_
            obtain rfl := Option.some.inj H
            exact N.meet (false, ()) ⟨HK112, trivial⟩ (by exact ⟨rfl, rfl, rfl, rfl, rfl, rfl, rfl, trivial⟩) (by exact fun w h => (St.pick [2, 3] [_, _, _, _] h rfl))
          · refine J.as (k := 94) rfl (congrArg Value.bool (congrArg Bool.not (decide_eq_false c114))) ?_
            refine J.p rfl rfl rfl rfl (Y.mv rfl) ?_
            refine J.p rfl rfl rfl rfl (Y.bin rfl rfl rfl) ?_
            refine J.p rfl rfl rfl rfl (Y.mv rfl) ?_
            refine split2 H (fun c115 H => ?_) (fun c115 H => ?_)
            · refine J.as (k := 97) rfl (congrArg Value.bool (decide_eq_true c115)) ?_
              refine J.skip rfl rfl ?_
              refine J.skip rfl rfl ?_
              refine J.p rfl rfl rfl rfl (Y.pickT rfl rfl) ?_
              refine J.p rfl rfl rfl rfl (Y.pickT rfl rfl) ?_
              refine J.nil ?_
              obtain rfl := Option.some.inj H
              exact N.meet (true, ()) ⟨HK112, trivial⟩ (by exact ⟨rfl, rfl, rfl, rfl, rfl, rfl, rfl, trivial⟩) (by exact fun w h => (St.pick [2, 3] [_, _, _, _] h rfl))
            · refine J.as (k := 97) rfl (congrArg Value.bool (decide_eq_false c115)) ?_
              refine J.p rfl rfl rfl rfl (Y.mv rfl) ?_
              refine J.p rfl rfl rfl rfl (Y.bin rfl rfl rfl) ?_
              refine J.p rfl rfl rfl rfl (Y.pickF rfl rfl) ?_
              refine J.p rfl rfl rfl rfl (Y.pickT rfl rfl) ?_
              refine J.nil ?_
              obtain rfl := Option.some.inj H
              exact N.meet (decide (t101.2 = 0), ()) ⟨HK112, trivial⟩ (by exact ⟨rfl, rfl, rfl, rfl, rfl, rfl, rfl, trivial⟩) (by exact fun w h => (St.pick [2, 3] [_, _, _, _] h rfl))
        · refine J.as (k := 89) rfl (congrArg Value.bool (decide_eq_false c113)) ?_
          refine J.skip rfl rfl ?_
          refine J.skip rfl rfl ?_
          refine J.skip rfl rfl ?_
          refine J.p rfl rfl rfl rfl (Y.pickF rfl rfl) ?_
          refine J.p rfl rfl rfl rfl (Y.mv rfl) ?_
          refine J.skip rfl rfl ?_
          refine J.skip rfl rfl ?_
          refine J.skip rfl rfl ?_
          refine J.skip rfl rfl ?_
          refine J.skip rfl rfl ?_
          refine J.skip rfl rfl ?_
          refine J.p rfl rfl rfl rfl (Y.pickF rfl rfl) ?_
          refine J.nil ?_
          obtain rfl := Option.some.inj H
          exact N.meet (false, ()) ⟨HK112, trivial⟩ (by exact ⟨rfl, rfl, rfl, rfl, rfl, rfl, rfl, trivial⟩) (by exact fun w h => (St.pick [2, 3] [_, _, _, _] h rfl))
      · refine C.at (s' := [(3, .pointer (some ⟨g1, 0, none⟩)), (4, .pointer (some ⟨g3, 0, none⟩)), (7, .bool t7), (8, .int .i64 t9), (12, .int .i64 t94.2), (14, .int .i64 t101.2), (101, .bool o109)]) (G' := cells g1 27 [.int .u64 a0_0, .int .i64 a0_1, .string a0_2, .string a0_3] :: cells g3 27 [.int .u64 a1_0, .int .i64 a1_1, .string a1_2, .string a1_3] :: G) rfl rfl ?_
        refine split2 H (fun c116 H => ?_) (fun c116 H => ?_)
        · refine C.condT (congrArg (fun b => some (Value.bool b)) (c116)) ?_
          refine C.rs ?_
          refine J.p rfl rfl rfl rfl (Y.asg rfl) ?_
          refine J.nx ?_
          refine C.ret ?_
          obtain rfl := Option.some.inj H
          refine T.th ?_
          exact ret_ok (ks := [6]) rfl rfl (fun w h => ⟨rfl, (St.pick [] [_, _] h rfl)⟩)
        · refine C.condF (congrArg (fun b => some (Value.bool b)) (nt c116)) ?_
          refine C.skip ?_
          refine N.nx ?_
          refine C.rs ?_
          refine J.p rfl rfl rfl rfl (Y.mv rfl) ?_
          refine J.p rfl rfl rfl rfl (Y.mv rfl) ?_
          refine split2 H (fun c117 H => ?_) (fun c117 H => ?_)
          · refine J.as (k := 103) rfl (congrArg Value.bool (c117)) ?_
            refine J.p rfl rfl rfl rfl (Y.mv rfl) ?_
            refine J.p rfl rfl rfl rfl (Y.bin rfl rfl rfl) ?_
            refine J.p rfl rfl rfl rfl (Y.mv rfl) ?_
            refine split2 H (fun c118 H => ?_) (fun c118 H => ?_)
            · refine J.as (k := 106) rfl (congrArg Value.bool (decide_eq_true c118)) ?_
              refine J.skip rfl rfl ?_
              refine J.skip rfl rfl ?_
              refine J.p rfl rfl rfl rfl (Y.pickT rfl rfl) ?_
              refine J.p rfl rfl rfl rfl (Y.mv rfl) ?_
              refine J.skip rfl rfl ?_
              refine J.skip rfl rfl ?_
              refine J.skip rfl rfl ?_
              refine J.skip rfl rfl ?_
              refine J.skip rfl rfl ?_
              refine J.p rfl rfl rfl rfl (Y.pickT rfl rfl) ?_
              refine J.p rfl rfl rfl rfl (Y.mv rfl) ?_
              refine J.skip rfl rfl ?_
              refine J.skip rfl rfl ?_
              refine J.skip rfl rfl ?_
              refine J.skip rfl rfl ?_
              refine J.skip rfl rfl ?_
              refine J.skip rfl rfl ?_
              refine J.skip rfl rfl ?_
              refine J.skip rfl rfl ?_
              refine J.p rfl rfl rfl rfl (Y.pickT rfl rfl) ?_
              refine J.p rfl rfl rfl rfl (Y.pickT rfl rfl) ?_
              refine J.p rfl rfl rfl rfl (Y.asg rfl) ?_
              refine J.nx ?_
              refine C.ret ?_
              obtain rfl := Option.some.inj H
              exact ret_ok (ks := [6]) rfl rfl (fun w h => ⟨rfl, (St.pick [] [_, _] h rfl)⟩)
            · refine J.as (k := 106) rfl (congrArg Value.bool (decide_eq_false c118)) ?_
              refine J.p rfl rfl rfl rfl (Y.mv rfl) ?_
              refine J.p rfl rfl rfl rfl (Y.bin rfl rfl rfl) ?_
              refine J.p rfl rfl rfl rfl (Y.pickF rfl rfl) ?_
              refine J.p rfl rfl rfl rfl (Y.mv rfl) ?_
              refine split2 H (fun c119 H => ?_) (fun c119 H => ?_)
              · refine J.as (k := 110) rfl (congrArg Value.bool (decide_eq_true c119)) ?_
                refine J.skip rfl rfl ?_
                refine J.skip rfl rfl ?_
                refine J.skip rfl rfl ?_
                refine J.skip rfl rfl ?_
                refine J.skip rfl rfl ?_
                refine J.p rfl rfl rfl rfl (Y.pickT rfl rfl) ?_
                refine J.p rfl rfl rfl rfl (Y.mv rfl) ?_
                refine J.skip rfl rfl ?_
                refine J.skip rfl rfl ?_
                refine J.skip rfl rfl ?_
                refine J.skip rfl rfl ?_
                refine J.skip rfl rfl ?_
                refine J.skip rfl rfl ?_
                refine J.skip rfl rfl ?_
                refine J.skip rfl rfl ?_
                refine J.p rfl rfl rfl rfl (Y.pickT rfl rfl) ?_
                refine J.p rfl rfl rfl rfl (Y.pickT rfl rfl) ?_
                refine J.p rfl rfl rfl rfl (Y.asg rfl) ?_
                refine J.nx ?_
                refine C.ret ?_
                obtain rfl := Option.some.inj H
                exact ret_ok (ks := [6]) rfl rfl (fun w h => ⟨rfl, (St.pick [] [_, _] h rfl)⟩)
              · refine J.as (k := 110) rfl (congrArg Value.bool (decide_eq_false c119)) ?_
                refine J.p rfl rfl rfl rfl (Y.fa0 fa27_0 rfl rfl) ?_
                refine J.r rfl rfl rfl rfl (Y.ldC 0 Try.underlying25 rfl rfl rfl rfl) ?_
                refine J.p rfl rfl rfl rfl (Y.fa0 fa27_0 rfl rfl) ?_
                refine J.r rfl rfl rfl rfl (Y.ldC 1 Try.underlying25 rfl rfl rfl rfl) ?_
                refine J.p rfl rfl rfl rfl (Y.bin rfl rfl rfl) ?_
                refine J.p rfl rfl rfl rfl (Y.pickF rfl rfl) ?_
                refine J.p rfl rfl rfl rfl (Y.mv rfl) ?_
                refine split2 H (fun c120 H => ?_) (fun c120 H => ?_)
                · refine J.as (k := 117) rfl (congrArg Value.bool (decide_eq_true c120)) ?_
                  refine J.skip rfl rfl ?_
                  refine J.skip rfl rfl ?_
                  refine J.skip rfl rfl ?_
                  refine J.skip rfl rfl ?_
                  refine J.skip rfl rfl ?_
                  refine J.skip rfl rfl ?_
                  refine J.skip rfl rfl ?_
                  refine J.skip rfl rfl ?_
                  refine J.p rfl rfl rfl rfl (Y.pickT rfl rfl) ?_
                  refine J.p rfl rfl rfl rfl (Y.pickT rfl rfl) ?_
                  refine J.p rfl rfl rfl rfl (Y.asg rfl) ?_
                  refine J.nx ?_
                  refine C.ret ?_
                  obtain rfl := Option.some.inj H
                  exact ret_ok (ks := [6]) rfl rfl (fun w h => ⟨rfl, (St.pick [] [_, _] h rfl)⟩)
                · refine J.as (k := 117) rfl (congrArg Value.bool (decide_eq_false c120)) ?_
                  refine J.p rfl rfl rfl rfl (Y.fa0 fa27_0 rfl rfl) ?_
                  refine J.r rfl rfl rfl rfl (Y.ldC 0 Try.underlying25 rfl rfl rfl rfl) ?_
                  refine J.p rfl rfl rfl rfl (Y.fa0 fa27_0 rfl rfl) ?_
                  refine J.r rfl rfl rfl rfl (Y.ldC 1 Try.underlying25 rfl rfl rfl rfl) ?_
                  refine J.p rfl rfl rfl rfl (Y.bin rfl rfl rfl) ?_
                  refine J.p rfl rfl rfl rfl (Y.mv rfl) ?_
                  refine J.p rfl rfl rfl rfl (Y.bin rfl rfl rfl) ?_
                  refine J.p rfl rfl rfl rfl (Y.eqb Try.underlying4 rfl rfl) ?_
                  refine J.p rfl rfl rfl rfl (Y.pickF rfl rfl) ?_
                  refine J.p rfl rfl rfl rfl (Y.pickT rfl rfl) ?_
                  refine J.p rfl rfl rfl rfl (Y.asg rfl) ?_
                  refine J.nx ?_
                  refine C.ret ?_
                  obtain rfl := Option.some.inj H
                  exact ret_ok (ks := [6]) rfl rfl (fun w h => ⟨rfl, (St.pick [] [_, _] h rfl)⟩)
          · refine J.as (k := 103) rfl (congrArg Value.bool (nt c117)) ?_
            refine J.skip rfl rfl ?_
            refine J.skip rfl rfl ?_
            refine J.skip rfl rfl ?_
            refine J.skip rfl rfl ?_
            refine J.skip rfl rfl ?_
            refine J.skip rfl rfl ?_
            refine J.skip rfl rfl ?_
            refine J.skip rfl rfl ?_
            refine J.skip rfl rfl ?_
            refine J.skip rfl rfl ?_
            refine J.skip rfl rfl ?_
            refine J.skip rfl rfl ?_
            refine J.skip rfl rfl ?_
            refine J.skip rfl rfl ?_
            refine J.skip rfl rfl ?_
            refine J.skip rfl rfl ?_
            refine J.skip rfl rfl ?_
            refine J.skip rfl rfl ?_
            refine J.skip rfl rfl ?_
            refine J.skip rfl rfl ?_
            refine J.skip rfl rfl ?_
            refine J.skip rfl rfl ?_
            refine J.skip rfl rfl ?_
            refine J.p rfl rfl rfl rfl (Y.pickF rfl rfl) ?_
            refine J.p rfl rfl rfl rfl (Y.asg rfl) ?_
            refine J.nx ?_
            refine C.ret ?_
            obtain rfl := Option.some.inj H
            exact ret_ok (ks := [6]) rfl rfl (fun w h => ⟨rfl, (St.pick [] [_, _] h rfl)⟩)
end Go.Proofs.Ytakolnamobkkkaa
