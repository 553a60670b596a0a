/- Own text, printed by the lifting program: each Go function beside a plain function, and the proof that a call of the one comes to the other. Conditions: what came in can be read. -/
import Derived.Test.YtakolnamobkkkaaLiftD
set_option linter.unusedVariables false
set_option linter.unusedSimpArgs false
set_option maxRecDepth 10000
set_option maxHeartbeats 4000000
namespace Go.Proofs.Ytakolnamobkkkaa
open Go Go.Sx
theorem go14 : GoF Try.prog 14 := GoF.of Try.func14 (by kernel_rfl) (by kernel_rfl)
theorem go16 : GoF Try.prog 16 := GoF.of Try.func16 (by kernel_rfl) (by kernel_rfl)
theorem go17 : GoF Try.prog 17 := GoF.of Try.func17 (by kernel_rfl) (by kernel_rfl)
/-! ### salvor/salvorlaw4.FrameCut: function 7 -/
def FrameCut.f (K : Nat) (a0_0 : Int) (a0_1 : Int) (a0_2 : Int) (a0_3 : ByteArray) (a0_4 : ByteArray) (a0_5 : Int) (a0_6 : Int) (a0_7 : Int) (a0_8 : Int) (a0_9 : ByteArray) (a0_10 : Int) (a0_11 : Int) (a0_12 : Int) (a0_13 : Int) (a1 : Int) : Option (Bool) := (known.f K).bind fun t3 => (fEncode.f K a0_0 a0_1 a0_2 a0_3 a0_4 a0_5 a0_6 a0_7 a0_8 a0_9 a0_10 a0_11 a0_12 a0_13).bind fun t5 => (if t5.2 ≠ 0 then (some true) else (some (decide ((t5.1.length : Int) < 2)))).bind fun o11 => if o11 = true then (if t3 = true then (some (decide (t5.2 ≠ 0))) else (some false)) else (gd ((IntKind.wrap .i64 ((t5.1.length : Int) - 1)) ≠ (0 : Int)) ((if (Int.tmod a1 (IntKind.wrap .i64 ((t5.1.length : Int) - 1))) < 0 then (some (IntKind.wrap .i64 (0 - (Int.tmod a1 (IntKind.wrap .i64 ((t5.1.length : Int) - 1)))))) else (some (Int.tmod a1 (IntKind.wrap .i64 ((t5.1.length : Int) - 1))))).bind fun o22 => gd ((0 : Int) ≤ (IntKind.wrap .i64 (o22 + 1)) ∧ (0 ≤ (Int.toNat (IntKind.wrap .i64 (o22 + 1))) ∧ (Int.toNat (IntKind.wrap .i64 (o22 + 1))) ≤ t5.1.length)) ((fDecode.f K ((t5.1.take (Int.toNat (IntKind.wrap .i64 (o22 + 1)))).drop 0) 0).bind fun t27 => if t3 = true then (if t27.1 = 0 ∧ (t27.2.1 = 0 ∧ t27.2.2.1 = 0 ∧ t27.2.2.2.1 = ByteArray.empty ∧ t27.2.2.2.2.1 = ByteArray.empty ∧ True) ∧ (t27.2.2.2.2.2.1 = 0 ∧ t27.2.2.2.2.2.2.1 = 0 ∧ t27.2.2.2.2.2.2.2.1 = 0 ∧ t27.2.2.2.2.2.2.2.2.1 = 0 ∧ t27.2.2.2.2.2.2.2.2.2.1 = ByteArray.empty ∧ True) ∧ (t27.2.2.2.2.2.2.2.2.2.2.1 = 0 ∧ (t27.2.2.2.2.2.2.2.2.2.2.2.1 = 0 ∧ t27.2.2.2.2.2.2.2.2.2.2.2.2.1 = 0 ∧ t27.2.2.2.2.2.2.2.2.2.2.2.2.2.1 = 0 ∧ True) ∧ True) ∧ True then (if t27.2.2.2.2.2.2.2.2.2.2.2.2.2.2.1 = 0 then (some (decide (t27.2.2.2.2.2.2.2.2.2.2.2.2.2.2.2 = 43))) else (some false)) else (some false)) else (some false))))
theorem FrameCut.calls {B : Nat} {w0 : World} {G : List HP} (K : Nat) (a0_0 : Int) (a0_1 : Int) (a0_2 : Int) (a0_3 : ByteArray) (a0_4 : ByteArray) (a0_5 : Int) (a0_6 : Int) (a0_7 : Int) (a0_8 : Int) (a0_9 : ByteArray) (a0_10 : Int) (a0_11 : Int) (a0_12 : Int) (a0_13 : Int) (a1 : Int) (r : Bool) (H : FrameCut.f K a0_0 a0_1 a0_2 a0_3 a0_4 a0_5 a0_6 a0_7 a0_8 a0_9 a0_10 a0_11 a0_12 a0_13 a1 = some r) (w : World) (hw : St B w0 (G) w) :
    Calls Try.prog 7 [.agg #[.int .i64 a0_0, .int .u64 a0_1, .int .i64 a0_2, .string a0_3, .string a0_4, .int .u64 a0_5, .int .i64 a0_6, .int .i64 a0_7, .int .i64 a0_8, .string a0_9, .int .i64 a0_10, .int .i64 a0_11, .int .i64 a0_12, .int .u32 a0_13], .int .i64 a1].toArray w (fun e w' => e = .returned (.bool r) ∧ St B w0 (G) w') := by
  unfold FrameCut.f at H
  refine calls_of (n := 62) (s := [(0, .agg #[.int .i64 a0_0, .int .u64 a0_1, .int .i64 a0_2, .string a0_3, .string a0_4, .int .u64 a0_5, .int .i64 a0_6, .int .i64 a0_7, .int .i64 a0_8, .string a0_9, .int .i64 a0_10, .int .i64 a0_11, .int .i64 a0_12, .int .u32 a0_13]), (1, .int .i64 a1)]) Try.func7 rfl rfl rfl rfl ?_ hw
  refine C.rs ?_
  refine J.box (L := [.int .i64 a0_0, .int .u64 a0_1, .int .i64 a0_2, .string a0_3, .string a0_4, .int .u64 a0_5, .int .i64 a0_6, .int .i64 a0_7, .int .i64 a0_8, .string a0_9, .int .i64 a0_10, .int .i64 a0_11, .int .i64 a0_12, .int .u32 a0_13]) rfl rfl rfl (fun g1 => ?_)
  refine J.p rfl rfl rfl rfl (Y.asg rfl) ?_
  refine J.nx ?_
  refine C.rs ?_
  obtain ⟨t3, hC4, H⟩ := bind_some H
  refine J.call (us := []) (cap := []) rfl rfl rfl go14 (fun w hw => by have hcc := known.calls K t3 hC4 w hw; exact hcc) (fun e w1 h1 => ?_)
  obtain ⟨rfl, hw36⟩ := h1
  refine ⟨_, _, rfl, hw36, ?_⟩
  refine J.p rfl rfl rfl rfl (Y.asg rfl) ?_
  refine J.nx ?_
  refine C.rs ?_
  refine J.r rfl rfl rfl rfl (Y.ldCA (us := [.int .i64 a0_0, .int .u64 a0_1, .int .i64 a0_2, .string a0_3, .string a0_4, .int .u64 a0_5, .int .i64 a0_6, .int .i64 a0_7, .int .i64 a0_8, .string a0_9, .int .i64 a0_10, .int .i64 a0_11, .int .i64 a0_12, .int .u32 a0_13]) 0 Try.underlying36 rfl ti36 rfl rfl rfl rfl) ?_
  obtain ⟨t5, hC6, H⟩ := bind_some H
  refine J.call (us := []) (cap := []) rfl rfl rfl go18 (fun w hw => by have hcc := fEncode.calls K a0_0 a0_1 a0_2 a0_3 a0_4 a0_5 a0_6 a0_7 a0_8 a0_9 a0_10 a0_11 a0_12 a0_13 t5 hC6 w hw; exact hcc) (fun e w1 h1 => ?_)
  obtain ⟨A7, c8, rfl, hw35⟩ := h1
  refine ⟨_, _, rfl, hw35, ?_⟩
  refine J.p rfl rfl rfl rfl (Y.mv rfl) ?_
  refine J.p rfl rfl rfl rfl (Y.ext rfl rfl) ?_
  refine J.p rfl rfl rfl rfl (Y.ext rfl rfl) ?_
  refine J.p rfl rfl rfl rfl (Y.asg rfl) ?_
  refine J.p rfl rfl rfl rfl (Y.asg rfl) ?_
  refine J.nx ?_
  refine C.seq ?_
  refine C.rs ?_
  refine J.joinB H (fun (o11 : Bool) (j12 : Unit) => [(1, .int .i64 a1), (5, .bool t3), (6, .slice A7 t5.1.length c8), (7, .int .i64 t5.2), (24, .bool o11)]) (fun (o11 : Bool) (j12 : Unit) => own 5 1 A7 c8 (t5.1.map (Value.int .u8)) :: G) (fun (o11 : Bool) (j12 : Unit) => True) (fun o13 H HK14 => ?_) (fun o11 j12 H _ => ?_)
  · refine J.p rfl rfl rfl rfl (Y.mv rfl) ?_
    refine J.p rfl rfl rfl rfl (Y.bin rfl rfl rfl) ?_
    refine J.p rfl rfl rfl rfl (Y.mv rfl) ?_
    refine split2 H (fun c15 H => ?_) (fun c15 H => ?_)
    · refine J.as (k := 20) rfl (congrArg Value.bool (decide_eq_true c15)) ?_
      refine J.skip rfl rfl ?_
      refine J.skip rfl rfl ?_
      refine J.skip rfl rfl ?_
      refine J.p rfl rfl rfl rfl (Y.pickT rfl rfl) ?_
      refine J.nil ?_
      obtain rfl := Option.some.inj H
      exact N.meet (true, ()) ⟨HK14, trivial⟩ (by exact ⟨rfl, rfl, rfl, rfl, rfl, trivial⟩) (by exact fun w h => (St.pick [0] [_, _] h rfl))
    · refine J.as (k := 20) rfl (congrArg Value.bool (decide_eq_false c15)) ?_
      refine J.p rfl rfl rfl rfl (Y.mv rfl) ?_
      refine J.p rfl rfl rfl rfl (Y.lenS Try.underlying22 rfl) ?_
      refine J.p rfl rfl rfl rfl (Y.bin rfl rfl rfl) ?_
      refine J.p rfl rfl rfl rfl (Y.pickF rfl rfl) ?_
      refine J.nil ?_
      obtain rfl := Option.some.inj H
      exact N.meet (decide ((t5.1.length : Int) < 2), ()) ⟨HK14, trivial⟩ (by exact ⟨rfl, rfl, rfl, rfl, rfl, trivial⟩) (by exact fun w h => (St.pick [0] [_, _] h rfl))
  · refine C.at (s' := [(1, .int .i64 a1), (5, .bool t3), (6, .slice A7 t5.1.length c8), (7, .int .i64 t5.2), (24, .bool o11)]) (G' := own 5 1 A7 c8 (t5.1.map (Value.int .u8)) :: G) rfl rfl ?_
    refine split2 H (fun c16 H => ?_) (fun c16 H => ?_)
    · refine C.condT (congrArg (fun b => some (Value.bool b)) (c16)) ?_
      refine C.rs ?_
      refine J.p rfl rfl rfl rfl (Y.mv rfl) ?_
      refine J.p rfl rfl rfl rfl (Y.mv rfl) ?_
      refine split2 H (fun c17 H => ?_) (fun c17 H => ?_)
      · refine J.as (k := 26) rfl (congrArg Value.bool (c17)) ?_
        refine J.p rfl rfl rfl rfl (Y.mv rfl) ?_
        refine J.p rfl rfl rfl rfl (Y.bin rfl rfl rfl) ?_
        refine J.p rfl rfl rfl rfl (Y.pickT rfl rfl) ?_
        refine J.p rfl rfl rfl rfl (Y.asg rfl) ?_
        refine J.nx ?_
        refine C.ret ?_
        obtain rfl := Option.some.inj H
        refine T.th ?_
        exact ret_ok (ks := [4]) rfl rfl (fun w h => ⟨rfl, (St.pick [] [_] h rfl)⟩)
      · refine J.as (k := 26) rfl (congrArg Value.bool (nt c17)) ?_
        refine J.skip rfl rfl ?_
        refine J.skip rfl rfl ?_
        refine J.p rfl rfl rfl rfl (Y.pickF rfl rfl) ?_
        refine J.p rfl rfl rfl rfl (Y.asg rfl) ?_
        refine J.nx ?_
        refine C.ret ?_
        obtain rfl := Option.some.inj H
        refine T.th ?_
        exact ret_ok (ks := [4]) rfl rfl (fun w h => ⟨rfl, (St.pick [] [_] h rfl)⟩)
    · refine C.condF (congrArg (fun b => some (Value.bool b)) (nt c16)) ?_
      refine C.skip ?_
      refine N.nx ?_
      refine C.rs ?_
      refine J.p rfl rfl rfl rfl (Y.mv rfl) ?_
      refine J.p rfl rfl rfl rfl (Y.mv rfl) ?_
      refine J.p rfl rfl rfl rfl (Y.lenS Try.underlying22 rfl) ?_
      refine J.p rfl rfl rfl rfl (Y.bin rfl rfl rfl) ?_
      obtain ⟨p18, H⟩ := gd_some H
      refine J.p rfl rfl rfl rfl (Y.rem rfl rfl p18) ?_
      refine J.p rfl rfl rfl rfl (Y.asg rfl) ?_
      refine J.nx ?_
      refine C.seq ?_
      refine C.rs ?_
      refine J.p rfl rfl rfl rfl (Y.mv rfl) ?_
      refine J.p rfl rfl rfl rfl (Y.bin rfl rfl rfl) ?_
      refine J.nx ?_
      refine C.joinN H (fun (o22 : Int) (j23 : Unit) => [(5, .bool t3), (6, .slice A7 t5.1.length c8), (8, .int .i64 o22)]) (fun (o22 : Int) (j23 : Unit) => own 5 1 A7 c8 (t5.1.map (Value.int .u8)) :: G) (fun (o22 : Int) (j23 : Unit) => True) (fun o20 H HK21 => ?_) (fun o22 j23 H _ => ?_)
      · refine split2 H (fun c24 H => ?_) (fun c24 H => ?_)
        · refine C.condT (congrArg (fun b => some (Value.bool b)) (decide_eq_true c24)) ?_
          refine C.reg ?_
          refine J.p rfl rfl rfl rfl (Y.mv rfl) ?_
          refine J.p rfl rfl rfl rfl (Y.neg rfl) ?_
          refine J.p rfl rfl rfl rfl (Y.asg rfl) ?_
          refine J.nil ?_
          obtain rfl := Option.some.inj H
          exact N.meet (IntKind.wrap .i64 (0 - (Int.tmod a1 (IntKind.wrap .i64 ((t5.1.length : Int) - 1)))), ()) ⟨HK21, trivial⟩ (by exact ⟨rfl, rfl, rfl, trivial⟩) (by exact fun w h => h)
        · refine C.condF (congrArg (fun b => some (Value.bool b)) (decide_eq_false c24)) ?_
          refine C.skip ?_
          obtain rfl := Option.some.inj H
          exact N.meet (Int.tmod a1 (IntKind.wrap .i64 ((t5.1.length : Int) - 1)), ()) ⟨HK21, trivial⟩ (by exact ⟨rfl, rfl, rfl, trivial⟩) (by exact fun w h => h)
      · refine N.at (s' := [(5, .bool t3), (6, .slice A7 t5.1.length c8), (8, .int .i64 o22)]) (G' := own 5 1 A7 c8 (t5.1.map (Value.int .u8)) :: G) rfl rfl ?_
        refine N.nx ?_
        refine C.rs ?_
        refine J.p rfl rfl rfl rfl (Y.mv rfl) ?_
        refine J.p rfl rfl rfl rfl (Y.mv rfl) ?_
        refine J.p rfl rfl rfl rfl (Y.bin rfl rfl rfl) ?_
        obtain ⟨p26, H⟩ := gd_some H
        refine J.know (own_leL 0 rfl) (fun hc25 => ?_)
        refine J.p rfl rfl rfl rfl (Y.slcL Try.underlying22 ti5 rfl bnd.no (bnd.yes rfl p26.1) p26.2 hc25) ?_
        obtain ⟨t27, hC28, H⟩ := bind_some H
        refine J.call (us := []) (cap := []) rfl rfl rfl go15 (fun w hw => by have hcc := fDecode.calls K ((t5.1.take (Int.toNat (IntKind.wrap .i64 (o22 + 1)))).drop 0) 0 (subA 1 A7 c8 0) (c8 - 0) (RdG.subL (l := 0) (h := (Int.toNat (IntKind.wrap .i64 (o22 + 1)))) (RdG.own 0 rfl) hc25) (hc_sub hc25) t27 hC28 w hw; exact hcc) (fun e w1 h1 => ?_)
        obtain ⟨rfl, hw34⟩ := h1
        refine ⟨_, _, rfl, hw34, ?_⟩
        refine J.p rfl rfl rfl rfl (Y.mv rfl) ?_
        refine J.p rfl rfl rfl rfl (Y.ext rfl rfl) ?_
        refine J.p rfl rfl rfl rfl (Y.ext rfl rfl) ?_
        refine J.p rfl rfl rfl rfl (Y.ext rfl rfl) ?_
        refine J.alloc (L := [.int .i64 0, .int .u64 0, .int .i64 0, .string ByteArray.empty, .string ByteArray.empty, .int .u64 0, .int .i64 0, .int .i64 0, .int .i64 0, .string ByteArray.empty, .int .i64 0, .int .i64 0, .int .i64 0, .int .u32 0]) rfl ti36 rfl (fun g29 => ?_)
        refine J.stA (us := [.int .i64 t27.1, .int .u64 t27.2.1, .int .i64 t27.2.2.1, .string t27.2.2.2.1, .string t27.2.2.2.2.1, .int .u64 t27.2.2.2.2.2.1, .int .i64 t27.2.2.2.2.2.2.1, .int .i64 t27.2.2.2.2.2.2.2.1, .int .i64 t27.2.2.2.2.2.2.2.2.1, .string t27.2.2.2.2.2.2.2.2.2.1, .int .i64 t27.2.2.2.2.2.2.2.2.2.2.1, .int .i64 t27.2.2.2.2.2.2.2.2.2.2.2.1, .int .i64 t27.2.2.2.2.2.2.2.2.2.2.2.2.1, .int .u32 t27.2.2.2.2.2.2.2.2.2.2.2.2.2.1]) (L' := [.int .i64 t27.1, .int .u64 t27.2.1, .int .i64 t27.2.2.1, .string t27.2.2.2.1, .string t27.2.2.2.2.1, .int .u64 t27.2.2.2.2.2.1, .int .i64 t27.2.2.2.2.2.2.1, .int .i64 t27.2.2.2.2.2.2.2.1, .int .i64 t27.2.2.2.2.2.2.2.2.1, .string t27.2.2.2.2.2.2.2.2.2.1, .int .i64 t27.2.2.2.2.2.2.2.2.2.2.1, .int .i64 t27.2.2.2.2.2.2.2.2.2.2.2.1, .int .i64 t27.2.2.2.2.2.2.2.2.2.2.2.2.1, .int .u32 t27.2.2.2.2.2.2.2.2.2.2.2.2.2.1]) ti36 rfl rfl rfl rfl rfl rfl ?_
        refine J.p rfl rfl rfl rfl (Y.asg rfl) ?_
        refine J.p rfl rfl rfl rfl (Y.asg rfl) ?_
        refine J.nx ?_
        refine C.rs ?_
        refine J.p rfl rfl rfl rfl (Y.mv rfl) ?_
        refine J.p rfl rfl rfl rfl (Y.mv rfl) ?_
        refine split2 H (fun c31 H => ?_) (fun c31 H => ?_)
        · refine J.as (k := 49) rfl (congrArg Value.bool (c31)) ?_
          refine J.r rfl rfl rfl rfl (Y.ldCA (us := [.int .i64 t27.1, .int .u64 t27.2.1, .int .i64 t27.2.2.1, .string t27.2.2.2.1, .string t27.2.2.2.2.1, .int .u64 t27.2.2.2.2.2.1, .int .i64 t27.2.2.2.2.2.2.1, .int .i64 t27.2.2.2.2.2.2.2.1, .int .i64 t27.2.2.2.2.2.2.2.2.1, .string t27.2.2.2.2.2.2.2.2.2.1, .int .i64 t27.2.2.2.2.2.2.2.2.2.2.1, .int .i64 t27.2.2.2.2.2.2.2.2.2.2.2.1, .int .i64 t27.2.2.2.2.2.2.2.2.2.2.2.2.1, .int .u32 t27.2.2.2.2.2.2.2.2.2.2.2.2.2.1]) 0 Try.underlying36 rfl ti36 rfl rfl rfl rfl) ?_
          refine J.p rfl rfl rfl rfl (Y.bld (cs := [.int .i64 0, .int .u64 0, .int .i64 0, .string ByteArray.empty, .string ByteArray.empty, .int .u64 0, .int .i64 0, .int .i64 0, .int .i64 0, .string ByteArray.empty, .int .i64 0, .int .i64 0, .int .i64 0, .int .u32 0]) rfl pl36 ti36 rfl rfl) ?_
          refine J.p rfl rfl rfl rfl (Y.eqst Try.eqGuardType36 rfl (EqV.struct Try.underlying36 Try.stoodInHeld36 (EqFs.cons rfl (part_one Try.underlying24 rfl rfl) (part_one Try.underlying24 rfl rfl) (EqV.int 2 Try.underlying24) (EqFs.cons rfl (part_agg Try.underlying27 rfl ti27 rfl) (part_agg Try.underlying27 rfl ti27 rfl) (EqV.struct Try.underlying27 Try.stoodInHeld27 (EqFs.cons rfl (part_one Try.underlying25 rfl rfl) (part_one Try.underlying25 rfl rfl) (EqV.int 1 Try.underlying25) (EqFs.cons rfl (part_one Try.underlying24 rfl rfl) (part_one Try.underlying24 rfl rfl) (EqV.int 1 Try.underlying24) (EqFs.cons rfl (part_one Try.underlying9 rfl rfl) (part_one Try.underlying9 rfl rfl) (EqV.str 1 Try.underlying9) (EqFs.cons rfl (part_one Try.underlying9 rfl rfl) (part_one Try.underlying9 rfl rfl) (EqV.str 1 Try.underlying9) EqFs.nil))))) (EqFs.cons rfl (part_agg Try.underlying29 rfl ti29 rfl) (part_agg Try.underlying29 rfl ti29 rfl) (EqV.struct Try.underlying29 Try.stoodInHeld29 (EqFs.cons rfl (part_one Try.underlying25 rfl rfl) (part_one Try.underlying25 rfl rfl) (EqV.int 1 Try.underlying25) (EqFs.cons rfl (part_one Try.underlying24 rfl rfl) (part_one Try.underlying24 rfl rfl) (EqV.int 1 Try.underlying24) (EqFs.cons rfl (part_one Try.underlying3 rfl rfl) (part_one Try.underlying3 rfl rfl) (EqV.int 1 Try.underlying3) (EqFs.cons rfl (part_one Try.underlying3 rfl rfl) (part_one Try.underlying3 rfl rfl) (EqV.int 1 Try.underlying3) (EqFs.cons rfl (part_one Try.underlying9 rfl rfl) (part_one Try.underlying9 rfl rfl) (EqV.str 1 Try.underlying9) EqFs.nil)))))) (EqFs.cons rfl (part_agg Try.underlying34 rfl ti34 rfl) (part_agg Try.underlying34 rfl ti34 rfl) (EqV.struct Try.underlying34 Try.stoodInHeld34 (EqFs.cons rfl (part_one Try.underlying3 rfl rfl) (part_one Try.underlying3 rfl rfl) (EqV.int 1 Try.underlying3) (EqFs.cons rfl (part_agg Try.underlying32 rfl ti32 rfl) (part_agg Try.underlying32 rfl ti32 rfl) (EqV.struct Try.underlying32 Try.stoodInHeld32 (EqFs.cons rfl (part_one Try.underlying3 rfl rfl) (part_one Try.underlying3 rfl rfl) (EqV.int 0 Try.underlying3) (EqFs.cons rfl (part_one Try.underlying3 rfl rfl) (part_one Try.underlying3 rfl rfl) (EqV.int 0 Try.underlying3) (EqFs.cons rfl (part_one Try.underlying30 rfl rfl) (part_one Try.underlying30 rfl rfl) (EqV.int 0 Try.underlying30) EqFs.nil)))) EqFs.nil))) EqFs.nil))))) rfl rfl) ?_
          refine J.p rfl rfl rfl rfl (Y.pickT rfl rfl) ?_
          refine J.p rfl rfl rfl rfl (Y.mv rfl) ?_
          refine split2 H (fun c32 H => ?_) (fun c32 H => ?_)
          · refine J.as (k := 54) rfl (congrArg Value.bool (decide_eq_true c32)) ?_
            refine J.p rfl rfl rfl rfl (Y.mv rfl) ?_
            refine J.p rfl rfl rfl rfl (Y.bin rfl rfl rfl) ?_
            refine J.p rfl rfl rfl rfl (Y.pickT rfl rfl) ?_
            refine J.p rfl rfl rfl rfl (Y.mv rfl) ?_
            refine split2 H (fun c33 H => ?_) (fun c33 H => ?_)
            · refine J.as (k := 58) rfl (congrArg Value.bool (decide_eq_true c33)) ?_
              refine J.p rfl rfl rfl rfl (Y.mv rfl) ?_
              refine J.p rfl rfl rfl rfl (Y.bin rfl rfl rfl) ?_
              refine J.p rfl rfl rfl rfl (Y.pickT rfl rfl) ?_
              refine J.p rfl rfl rfl rfl (Y.asg rfl) ?_
              refine J.nx ?_
              refine C.ret ?_
              obtain rfl := Option.some.inj H
              exact ret_ok (ks := [4]) rfl rfl (fun w h => ⟨rfl, (St.pick [] [_, _] h rfl)⟩)
            · refine J.as (k := 58) rfl (congrArg Value.bool (decide_eq_false c33)) ?_
              refine J.skip rfl rfl ?_
              refine J.skip rfl rfl ?_
              refine J.p rfl rfl rfl rfl (Y.pickF rfl rfl) ?_
              refine J.p rfl rfl rfl rfl (Y.asg rfl) ?_
              refine J.nx ?_
              refine C.ret ?_
              obtain rfl := Option.some.inj H
              exact ret_ok (ks := [4]) rfl rfl (fun w h => ⟨rfl, (St.pick [] [_, _] h rfl)⟩)
          · refine J.as (k := 54) rfl (congrArg Value.bool (decide_eq_false c32)) ?_
            refine J.skip rfl rfl ?_
            refine J.skip rfl rfl ?_
            refine J.p rfl rfl rfl rfl (Y.pickF rfl rfl) ?_
            refine J.p rfl rfl rfl rfl (Y.mv rfl) ?_
            refine J.skip rfl rfl ?_
            refine J.skip rfl rfl ?_
            refine J.p rfl rfl rfl rfl (Y.pickF rfl rfl) ?_
            refine J.p rfl rfl rfl rfl (Y.asg rfl) ?_
            refine J.nx ?_
            refine C.ret ?_
            obtain rfl := Option.some.inj H
            exact ret_ok (ks := [4]) rfl rfl (fun w h => ⟨rfl, (St.pick [] [_, _] h rfl)⟩)
        · refine J.as (k := 49) rfl (congrArg Value.bool (nt c31)) ?_
          refine J.skip rfl rfl ?_
          refine J.skip rfl rfl ?_
          refine J.skip rfl rfl ?_
          refine J.p rfl rfl rfl rfl (Y.pickF rfl rfl) ?_
          refine J.p rfl rfl rfl rfl (Y.mv rfl) ?_
          refine J.skip rfl rfl ?_
          refine J.skip rfl rfl ?_
          refine J.p rfl rfl rfl rfl (Y.pickF rfl rfl) ?_
          refine J.p rfl rfl rfl rfl (Y.mv rfl) ?_
          refine J.skip rfl rfl ?_
          refine J.skip rfl rfl ?_
          refine J.p rfl rfl rfl rfl (Y.pickF rfl rfl) ?_
          refine J.p rfl rfl rfl rfl (Y.asg rfl) ?_
          refine J.nx ?_
          refine C.ret ?_
          obtain rfl := Option.some.inj H
          exact ret_ok (ks := [4]) rfl rfl (fun w h => ⟨rfl, (St.pick [] [_, _] h rfl)⟩)
end Go.Proofs.Ytakolnamobkkkaa
