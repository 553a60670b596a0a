/- Own text, printed by the lifting program: each Go function beside a plain function, and the proof that a call of the one comes to the other. Conditions: what came in can be read. -/
import Derived.Test.YtocfkhpfpepcmaaLiftA
set_option linter.unusedVariables false
set_option linter.unusedSimpArgs false
set_option maxRecDepth 10000
set_option maxHeartbeats 4000000
namespace Go.Proofs.Ytocfkhpfpepcmaa
open Go Go.Sx
theorem go14 : GoF Try.prog 14 := GoF.of Try.func14 (by kernel_rfl) (by kernel_rfl)
theorem go16 : GoF Try.prog 16 := GoF.of Try.func16 (by kernel_rfl) (by kernel_rfl)
theorem go17 : GoF Try.prog 17 := GoF.of Try.func17 (by kernel_rfl) (by kernel_rfl)
theorem go18 : GoF Try.prog 18 := GoF.of Try.func18 (by kernel_rfl) (by kernel_rfl)
theorem go19 : GoF Try.prog 19 := GoF.of Try.func19 (by kernel_rfl) (by kernel_rfl)
theorem go23 : GoF Try.prog 23 := GoF.of Try.func23 (by kernel_rfl) (by kernel_rfl)
theorem go28 : GoF Try.prog 28 := GoF.of Try.func28 (by kernel_rfl) (by kernel_rfl)
/-! ### salvor/salvorlaw2.VintOnce: function 4 -/
def VintOnce.f (K : Nat) (a0 : List Int) : Option (Bool) := (Decode.f K a0).bind fun t1 => (works.f K).bind fun t3 => if t1.2.2 ≠ 0 then (if t3 = true then (if t1.1 = 0 then (some (decide (t1.2.1 = 0))) else (some false)) else (some false)) else ((if t1.2.1 < 1 then (some true) else (if 10 < t1.2.1 then (some true) else (some (decide ((a0.length : Int) < t1.2.1))))).bind fun o10 => if o10 = true then (some false) else ((Encode.f K [t1.1]).bind fun t19 => gd ((0 : Int) ≤ t1.2.1 ∧ (0 ≤ (Int.toNat t1.2.1) ∧ (Int.toNat t1.2.1) ≤ a0.length)) ((same.f K t19 ((a0.take (Int.toNat t1.2.1)).drop 0)).bind fun t26 => if t26 = true then (some t3) else (some false))))
theorem VintOnce.calls {B : Nat} {w0 : World} {G : List HP} (K : Nat) (a0 : List Int) (Aa0 : Option Addr) (ca0 : Nat) (ha0 : RdG B w0 G Aa0 (a0.map (Value.int .u8))) (ka0 : a0.length ≤ ca0) (r : Bool) (H : VintOnce.f K a0 = some r) (w : World) (hw : St B w0 (G) w) :
    Calls Try.prog 4 [.slice Aa0 a0.length ca0].toArray w (fun e w' => e = .returned (.bool r) ∧ St B w0 (G) w') := by
  unfold VintOnce.f at H
  refine calls_of (n := 51) (s := [(0, .slice Aa0 a0.length ca0)]) Try.func4 rfl rfl rfl rfl ?_ hw
  refine C.rs ?_
  refine J.p rfl rfl rfl rfl (Y.asg rfl) ?_
  refine J.nx ?_
  refine C.rs ?_
  refine J.p rfl rfl rfl rfl (Y.mv rfl) ?_
  obtain ⟨t1, hC2, H⟩ := bind_some H
  refine J.call (us := []) (cap := []) rfl rfl rfl go15 (fun w hw => by have hcc := Decode.calls K a0 Aa0 ca0 ha0 ka0 t1 hC2 w hw; exact hcc) (fun e w1 h1 => ?_)
  obtain ⟨rfl, hw32⟩ := h1
  refine ⟨_, _, rfl, hw32, ?_⟩
  refine J.p rfl rfl rfl rfl (Y.mv rfl) ?_
  refine J.p rfl rfl rfl rfl (Y.ext rfl rfl) ?_
  refine J.p rfl rfl rfl rfl (Y.ext rfl rfl) ?_
  refine J.p rfl rfl rfl rfl (Y.ext rfl rfl) ?_
  refine J.p rfl rfl rfl rfl (Y.asg rfl) ?_
  refine J.p rfl rfl rfl rfl (Y.asg rfl) ?_
  refine J.p rfl rfl rfl rfl (Y.asg rfl) ?_
  refine J.nx ?_
  refine C.rs ?_
  obtain ⟨t3, hC4, H⟩ := bind_some H
  refine J.call (us := []) (cap := []) rfl rfl rfl go19 (fun w hw => by have hcc := works.calls K t3 hC4 w hw; exact hcc) (fun e w1 h1 => ?_)
  obtain ⟨rfl, hw31⟩ := h1
  refine ⟨_, _, rfl, hw31, ?_⟩
  refine J.p rfl rfl rfl rfl (Y.asg rfl) ?_
  refine J.nx ?_
  refine C.seq ?_
  refine C.rs ?_
  refine J.p rfl rfl rfl rfl (Y.mv rfl) ?_
  refine J.p rfl rfl rfl rfl (Y.bin rfl rfl rfl) ?_
  refine J.nx ?_
  refine split2 H (fun c5 H => ?_) (fun c5 H => ?_)
  · refine C.condT (congrArg (fun b => some (Value.bool b)) (decide_eq_true c5)) ?_
    refine C.rs ?_
    refine J.p rfl rfl rfl rfl (Y.mv rfl) ?_
    refine J.p rfl rfl rfl rfl (Y.mv rfl) ?_
    refine split2 H (fun c6 H => ?_) (fun c6 H => ?_)
    · refine J.as (k := 19) rfl (congrArg Value.bool (c6)) ?_
      refine J.p rfl rfl rfl rfl (Y.mv rfl) ?_
      refine J.p rfl rfl rfl rfl (Y.bin rfl rfl rfl) ?_
      refine J.p rfl rfl rfl rfl (Y.pickT rfl rfl) ?_
      refine J.p rfl rfl rfl rfl (Y.mv rfl) ?_
      refine split2 H (fun c7 H => ?_) (fun c7 H => ?_)
      · refine J.as (k := 23) rfl (congrArg Value.bool (decide_eq_true c7)) ?_
        refine J.p rfl rfl rfl rfl (Y.mv rfl) ?_
        refine J.p rfl rfl rfl rfl (Y.bin rfl rfl rfl) ?_
        refine J.p rfl rfl rfl rfl (Y.pickT rfl rfl) ?_
        refine J.p rfl rfl rfl rfl (Y.asg rfl) ?_
        refine J.nx ?_
        refine C.ret ?_
        obtain rfl := Option.some.inj H
        refine T.th ?_
        exact ret_ok (ks := [2]) rfl rfl (fun w h => ⟨rfl, h⟩)
      · refine J.as (k := 23) rfl (congrArg Value.bool (decide_eq_false c7)) ?_
        refine J.skip rfl rfl ?_
        refine J.skip rfl rfl ?_
        refine J.p rfl rfl rfl rfl (Y.pickF rfl rfl) ?_
        refine J.p rfl rfl rfl rfl (Y.asg rfl) ?_
        refine J.nx ?_
        refine C.ret ?_
        obtain rfl := Option.some.inj H
        refine T.th ?_
        exact ret_ok (ks := [2]) rfl rfl (fun w h => ⟨rfl, h⟩)
    · refine J.as (k := 19) rfl (congrArg Value.bool (nt c6)) ?_
      refine J.skip rfl rfl ?_
      refine J.skip rfl rfl ?_
      refine J.p rfl rfl rfl rfl (Y.pickF rfl rfl) ?_
      refine J.p rfl rfl rfl rfl (Y.mv rfl) ?_
      refine J.skip rfl rfl ?_
      refine J.skip rfl rfl ?_
      refine J.p rfl rfl rfl rfl (Y.pickF rfl rfl) ?_
      refine J.p rfl rfl rfl rfl (Y.asg rfl) ?_
      refine J.nx ?_
      refine C.ret ?_
      obtain rfl := Option.some.inj H
      refine T.th ?_
      exact ret_ok (ks := [2]) rfl rfl (fun w h => ⟨rfl, h⟩)
  · refine C.condF (congrArg (fun b => some (Value.bool b)) (decide_eq_false c5)) ?_
    refine C.skip ?_
    refine N.nx ?_
    refine C.seq ?_
    refine C.rs ?_
    refine J.joinB H (fun (o10 : Bool) (j11 : Unit) => [(0, .slice Aa0 a0.length ca0), (3, .int .u64 t1.1), (4, .int .i64 t1.2.1), (6, .bool t3), (38, .bool o10)]) (fun (o10 : Bool) (j11 : Unit) => G) (fun (o10 : Bool) (j11 : Unit) => True) (fun o12 H HK13 => ?_) (fun o10 j11 H _ => ?_)
    · refine J.p rfl rfl rfl rfl (Y.mv rfl) ?_
      refine J.p rfl rfl rfl rfl (Y.bin rfl rfl rfl) ?_
      refine J.p rfl rfl rfl rfl (Y.mv rfl) ?_
      refine split2 H (fun c14 H => ?_) (fun c14 H => ?_)
      · refine J.as (k := 29) rfl (congrArg Value.bool (decide_eq_true c14)) ?_
        refine J.skip rfl rfl ?_
        refine J.skip rfl rfl ?_
        refine J.p rfl rfl rfl rfl (Y.pickT rfl rfl) ?_
        refine J.p rfl rfl rfl rfl (Y.mv rfl) ?_
        refine J.skip rfl rfl ?_
        refine J.skip rfl rfl ?_
        refine J.skip rfl rfl ?_
        refine J.skip rfl rfl ?_
        refine J.p rfl rfl rfl rfl (Y.pickT rfl rfl) ?_
        refine J.nil ?_
        obtain rfl := Option.some.inj H
        exact N.meet (true, ()) ⟨HK13, trivial⟩ (by exact ⟨rfl, rfl, rfl, rfl, rfl, trivial⟩) (by exact fun w h => h)
      · refine J.as (k := 29) rfl (congrArg Value.bool (decide_eq_false c14)) ?_
        refine J.p rfl rfl rfl rfl (Y.mv rfl) ?_
        refine J.p rfl rfl rfl rfl (Y.bin rfl rfl rfl) ?_
        refine J.p rfl rfl rfl rfl (Y.pickF rfl rfl) ?_
        refine J.p rfl rfl rfl rfl (Y.mv rfl) ?_
        refine split2 H (fun c15 H => ?_) (fun c15 H => ?_)
        · refine J.as (k := 33) rfl (congrArg Value.bool (decide_eq_true c15)) ?_
          refine J.skip rfl rfl ?_
          refine J.skip rfl rfl ?_
          refine J.skip rfl rfl ?_
          refine J.skip rfl rfl ?_
          refine J.p rfl rfl rfl rfl (Y.pickT rfl rfl) ?_
          refine J.nil ?_
          obtain rfl := Option.some.inj H
          exact N.meet (true, ()) ⟨HK13, trivial⟩ (by exact ⟨rfl, rfl, rfl, rfl, rfl, trivial⟩) (by exact fun w h => h)
        · refine J.as (k := 33) rfl (congrArg Value.bool (decide_eq_false c15)) ?_
          refine J.p rfl rfl rfl rfl (Y.mv rfl) ?_
          refine J.p rfl rfl rfl rfl (Y.mv rfl) ?_
          refine J.p rfl rfl rfl rfl (Y.lenS Try.underlying22 rfl) ?_
          refine J.p rfl rfl rfl rfl (Y.bin rfl rfl rfl) ?_
          refine J.p rfl rfl rfl rfl (Y.pickF rfl rfl) ?_
          refine J.nil ?_
          obtain rfl := Option.some.inj H
          exact N.meet (decide ((a0.length : Int) < t1.2.1), ()) ⟨HK13, trivial⟩ (by exact ⟨rfl, rfl, rfl, rfl, rfl, trivial⟩) (by exact fun w h => h)
    · refine C.at (s' := [(0, .slice Aa0 a0.length ca0), (3, .int .u64 t1.1), (4, .int .i64 t1.2.1), (6, .bool t3), (38, .bool o10)]) (G' := G) rfl rfl ?_
      refine split2 H (fun c16 H => ?_) (fun c16 H => ?_)
      · refine C.condT (congrArg (fun b => some (Value.bool b)) (c16)) ?_
        refine C.rs ?_
        refine J.p rfl rfl rfl rfl (Y.asg rfl) ?_
        refine J.nx ?_
        refine C.ret ?_
        obtain rfl := Option.some.inj H
        refine T.th ?_
        exact ret_ok (ks := [2]) rfl rfl (fun w h => ⟨rfl, h⟩)
      · refine C.condF (congrArg (fun b => some (Value.bool b)) (nt c16)) ?_
        refine C.skip ?_
        refine N.nx ?_
        refine C.rs ?_
        refine J.p rfl rfl rfl rfl (Y.mv rfl) ?_
        refine J.bsL (enc := (Value.int .u64)) (xs := [t1.1]) rfl Try.underlying52 ti24 rfl rfl rfl rfl rfl (fun A17 => ?_)
        obtain ⟨t19, hC20, H⟩ := bind_some H
        refine J.call (us := []) (cap := []) rfl rfl rfl go20 (fun w hw => by have hcc := Encode.calls K [t1.1] A17 1 (RdG.own 0 rfl) (show [t1.1].length ≤ 1 from Nat.le_refl _) t19 hC20 w hw; exact hcc) (fun e w1 h1 => ?_)
        obtain ⟨A21, c22, rfl, hw30⟩ := h1
        refine ⟨_, _, rfl, hw30, ?_⟩
        refine J.p rfl rfl rfl rfl (Y.asg rfl) ?_
        refine J.nx ?_
        refine C.rs ?_
        refine J.p rfl rfl rfl rfl (Y.mv rfl) ?_
        refine J.p rfl rfl rfl rfl (Y.mv rfl) ?_
        refine J.p rfl rfl rfl rfl (Y.mv rfl) ?_
        obtain ⟨p24, H⟩ := gd_some H
        refine J.p rfl rfl rfl rfl (Y.slcL Try.underlying22 ti5 rfl bnd.no (bnd.yes rfl p24.1) p24.2 ka0) ?_
        refine J.know (own_leL 0 rfl) (fun hc25 => ?_)
        obtain ⟨t26, hC27, H⟩ := bind_some H
        refine J.call (us := []) (cap := []) rfl rfl rfl go21 (fun w hw => by have hcc := same.calls K t19 ((a0.take (Int.toNat t1.2.1)).drop 0) A21 c22 (subA 1 Aa0 ca0 0) (ca0 - 0) (RdG.own 0 rfl) hc25 (RdG.subL (l := 0) (h := (Int.toNat t1.2.1)) (ha0.suf [_, _] rfl) ka0) (hc_sub ka0) t26 hC27 w hw; exact hcc) (fun e w1 h1 => ?_)
        obtain ⟨rfl, hw29⟩ := h1
        refine ⟨_, _, rfl, hw29, ?_⟩
        refine J.p rfl rfl rfl rfl (Y.asg rfl) ?_
        refine J.nx ?_
        refine C.rs ?_
        refine J.p rfl rfl rfl rfl (Y.mv rfl) ?_
        refine J.p rfl rfl rfl rfl (Y.mv rfl) ?_
        refine split2 H (fun c28 H => ?_) (fun c28 H => ?_)
        · refine J.as (k := 48) rfl (congrArg Value.bool (c28)) ?_
          refine J.p rfl rfl rfl rfl (Y.mv rfl) ?_
          refine J.p rfl rfl rfl rfl (Y.pickT rfl rfl) ?_
          refine J.p rfl rfl rfl rfl (Y.asg rfl) ?_
          refine J.nx ?_
          refine C.ret ?_
          obtain rfl := Option.some.inj H
          exact ret_ok (ks := [2]) rfl rfl (fun w h => ⟨rfl, (St.pick [] [_, _] h rfl)⟩)
        · refine J.as (k := 48) rfl (congrArg Value.bool (nt c28)) ?_
          refine J.skip rfl rfl ?_
          refine J.p rfl rfl rfl rfl (Y.pickF rfl rfl) ?_
          refine J.p rfl rfl rfl rfl (Y.asg rfl) ?_
          refine J.nx ?_
          refine C.ret ?_
          obtain rfl := Option.some.inj H
          exact ret_ok (ks := [2]) rfl rfl (fun w h => ⟨rfl, (St.pick [] [_, _] h rfl)⟩)
/-! ### salvor/salvorlaw2.VintCut: function 5 -/
def VintCut.f (K : Nat) (a0 : Int) (a1 : Int) (a2 : Int) : Option (Bool) := (Encode.f K [a0]).bind fun t3 => (works.f K).bind fun t8 => (if (t3.length : Int) = 0 then (some true) else (some (!t8))).bind fun o11 => if o11 = true then (some false) else (if a1 < 0 then (gd ((t3.length : Int) ≠ (0 : Int)) (gd ((0 : Int) ≤ (Int.tmod (IntKind.wrap .i64 (0 - (IntKind.wrap .i64 (a1 + 1)))) (t3.length : Int)) ∧ (0 ≤ (Int.toNat (Int.tmod (IntKind.wrap .i64 (0 - (IntKind.wrap .i64 (a1 + 1)))) (t3.length : Int))) ∧ (Int.toNat (Int.tmod (IntKind.wrap .i64 (0 - (IntKind.wrap .i64 (a1 + 1)))) (t3.length : Int))) ≤ t3.length)) ((Decode.f K ((t3.take (Int.toNat (Int.tmod (IntKind.wrap .i64 (0 - (IntKind.wrap .i64 (a1 + 1)))) (t3.length : Int)))).drop 0)).bind fun t21 => if t21.2.2 ≠ 21 then (some false) else (if a2 = 0 then (some true) else (gd ((0 : Int) ≤ (Int.tmod (IntKind.wrap .i64 (0 - (IntKind.wrap .i64 (a1 + 1)))) (t3.length : Int)) ∧ (Int.tmod (IntKind.wrap .i64 (0 - (IntKind.wrap .i64 (a1 + 1)))) (t3.length : Int)) < (t3.length : Int)) (gd ((0 : Int) ≤ (Int.tmod (IntKind.wrap .i64 (0 - (IntKind.wrap .i64 (a1 + 1)))) (t3.length : Int)) ∧ (Int.tmod (IntKind.wrap .i64 (0 - (IntKind.wrap .i64 (a1 + 1)))) (t3.length : Int)) < (t3.length : Int)) (gd ((0 : Int) ≤ (Int.tmod (IntKind.wrap .i64 (0 - (IntKind.wrap .i64 (a1 + 1)))) (t3.length : Int)) ∧ (Int.tmod (IntKind.wrap .i64 (0 - (IntKind.wrap .i64 (a1 + 1)))) (t3.length : Int)) < (t3.length : Int)) ((Decode.f K (t3.set (Int.toNat (Int.tmod (IntKind.wrap .i64 (0 - (IntKind.wrap .i64 (a1 + 1)))) (t3.length : Int))) (Sx.bits .xor .u8 (rd t3 (Int.tmod (IntKind.wrap .i64 (0 - (IntKind.wrap .i64 (a1 + 1)))) (t3.length : Int))) a2))).bind fun t31 => if t31.2.2 ≠ 0 then (some true) else (if t31.1 ≠ a0 then (some true) else (some (decide (t31.2.1 ≠ ((t3.set (Int.toNat (Int.tmod (IntKind.wrap .i64 (0 - (IntKind.wrap .i64 (a1 + 1)))) (t3.length : Int))) (Sx.bits .xor .u8 (rd t3 (Int.tmod (IntKind.wrap .i64 (0 - (IntKind.wrap .i64 (a1 + 1)))) (t3.length : Int))) a2)).length : Int))))))))))))) else (gd ((t3.length : Int) ≠ (0 : Int)) (gd ((0 : Int) ≤ (Int.tmod a1 (t3.length : Int)) ∧ (0 ≤ (Int.toNat (Int.tmod a1 (t3.length : Int))) ∧ (Int.toNat (Int.tmod a1 (t3.length : Int))) ≤ t3.length)) ((Decode.f K ((t3.take (Int.toNat (Int.tmod a1 (t3.length : Int)))).drop 0)).bind fun t40 => if t40.2.2 ≠ 21 then (some false) else (if a2 = 0 then (some true) else (gd ((0 : Int) ≤ (Int.tmod a1 (t3.length : Int)) ∧ (Int.tmod a1 (t3.length : Int)) < (t3.length : Int)) (gd ((0 : Int) ≤ (Int.tmod a1 (t3.length : Int)) ∧ (Int.tmod a1 (t3.length : Int)) < (t3.length : Int)) (gd ((0 : Int) ≤ (Int.tmod a1 (t3.length : Int)) ∧ (Int.tmod a1 (t3.length : Int)) < (t3.length : Int)) ((Decode.f K (t3.set (Int.toNat (Int.tmod a1 (t3.length : Int))) (Sx.bits .xor .u8 (rd t3 (Int.tmod a1 (t3.length : Int))) a2))).bind fun t50 => if t50.2.2 ≠ 0 then (some true) else (if t50.1 ≠ a0 then (some true) else (some (decide (t50.2.1 ≠ ((t3.set (Int.toNat (Int.tmod a1 (t3.length : Int))) (Sx.bits .xor .u8 (rd t3 (Int.tmod a1 (t3.length : Int))) a2)).length : Int))))))))))))))
theorem VintCut.calls {B : Nat} {w0 : World} {G : List HP} (K : Nat) (a0 : Int) (a1 : Int) (a2 : Int) (r : Bool) (H : VintCut.f K a0 a1 a2 = some r) (w : World) (hw : St B w0 (G) w) :
    Calls Try.prog 5 [.int .u64 a0, .int .i64 a1, .int .u8 a2].toArray w (fun e w' => e = .returned (.bool r) ∧ St B w0 (G) w') := by
  unfold VintCut.f at H
  refine calls_of (n := 76) (s := [(0, .int .u64 a0), (1, .int .i64 a1), (2, .int .u8 a2)]) Try.func5 rfl rfl rfl rfl ?_ hw
  refine C.rs ?_
  refine J.p rfl rfl rfl rfl (Y.asg rfl) ?_
  refine J.nx ?_
  refine C.rs ?_
  refine J.p rfl rfl rfl rfl (Y.mv rfl) ?_
  refine J.bsL (enc := (Value.int .u64)) (xs := [a0]) rfl Try.underlying52 ti24 rfl rfl rfl rfl rfl (fun A1 => ?_)
  obtain ⟨t3, hC4, H⟩ := bind_some H
  refine J.call (us := []) (cap := []) rfl rfl rfl go20 (fun w hw => by have hcc := Encode.calls K [a0] A1 1 (RdG.own 0 rfl) (show [a0].length ≤ 1 from Nat.le_refl _) t3 hC4 w hw; exact hcc) (fun e w1 h1 => ?_)
  obtain ⟨A5, c6, rfl, hw57⟩ := h1
  refine ⟨_, _, rfl, hw57, ?_⟩
  refine J.p rfl rfl rfl rfl (Y.asg rfl) ?_
  refine J.nx ?_
  refine C.rs ?_
  obtain ⟨t8, hC9, H⟩ := bind_some H
  refine J.call (us := []) (cap := []) rfl rfl rfl go19 (fun w hw => by have hcc := works.calls K t8 hC9 w hw; exact hcc) (fun e w1 h1 => ?_)
  obtain ⟨rfl, hw56⟩ := h1
  refine ⟨_, _, rfl, hw56, ?_⟩
  refine J.p rfl rfl rfl rfl (Y.asg rfl) ?_
  refine J.nx ?_
  refine C.seq ?_
  refine C.rs ?_
  refine J.joinB H (fun (o11 : Bool) (j12 : Unit) => [(0, .int .u64 a0), (1, .int .i64 a1), (2, .int .u8 a2), (7, .slice A5 t3.length c6), (26, .bool o11)]) (fun (o11 : Bool) (j12 : Unit) => own 5 1 A5 c6 (t3.map (Value.int .u8)) :: G) (fun (o11 : Bool) (j12 : Unit) => True) (fun o13 H HK14 => ?_) (fun o11 j12 H _ => ?_)
  · refine J.p rfl rfl rfl rfl (Y.mv rfl) ?_
    refine J.p rfl rfl rfl rfl (Y.lenS Try.underlying22 rfl) ?_
    refine J.p rfl rfl rfl rfl (Y.bin rfl rfl rfl) ?_
    refine J.p rfl rfl rfl rfl (Y.mv rfl) ?_
    refine split2 H (fun c15 H => ?_) (fun c15 H => ?_)
    · refine J.as (k := 23) rfl (congrArg Value.bool (decide_eq_true c15)) ?_
      refine J.skip rfl rfl ?_
      refine J.skip rfl rfl ?_
      refine J.p rfl rfl rfl rfl (Y.pickT rfl rfl) ?_
      refine J.nil ?_
      obtain rfl := Option.some.inj H
      exact N.meet (true, ()) ⟨HK14, trivial⟩ (by exact ⟨rfl, rfl, rfl, rfl, rfl, trivial⟩) (by exact fun w h => (St.pick [0] [_, _] h rfl))
    · refine J.as (k := 23) rfl (congrArg Value.bool (decide_eq_false c15)) ?_
      refine J.p rfl rfl rfl rfl (Y.mv rfl) ?_
      refine J.p rfl rfl rfl rfl (Y.notb rfl) ?_
      refine J.p rfl rfl rfl rfl (Y.pickF rfl rfl) ?_
      refine J.nil ?_
      obtain rfl := Option.some.inj H
      exact N.meet (!t8, ()) ⟨HK14, trivial⟩ (by exact ⟨rfl, rfl, rfl, rfl, rfl, trivial⟩) (by exact fun w h => (St.pick [0] [_, _] h rfl))
  · refine C.at (s' := [(0, .int .u64 a0), (1, .int .i64 a1), (2, .int .u8 a2), (7, .slice A5 t3.length c6), (26, .bool o11)]) (G' := own 5 1 A5 c6 (t3.map (Value.int .u8)) :: G) rfl rfl ?_
    refine split2 H (fun c16 H => ?_) (fun c16 H => ?_)
    · refine C.condT (congrArg (fun b => some (Value.bool b)) (c16)) ?_
      refine C.rs ?_
      refine J.p rfl rfl rfl rfl (Y.asg rfl) ?_
      refine J.nx ?_
      refine C.ret ?_
      obtain rfl := Option.some.inj H
      refine T.th ?_
      exact ret_ok (ks := [6]) rfl rfl (fun w h => ⟨rfl, (St.pick [] [_] h rfl)⟩)
    · refine C.condF (congrArg (fun b => some (Value.bool b)) (nt c16)) ?_
      refine C.skip ?_
      refine N.nx ?_
      refine C.seq ?_
      refine C.rs ?_
      refine J.p rfl rfl rfl rfl (Y.mv rfl) ?_
      refine J.p rfl rfl rfl rfl (Y.bin rfl rfl rfl) ?_
      refine J.nx ?_
      refine split2 H (fun c17 H => ?_) (fun c17 H => ?_)
      · refine C.condT (congrArg (fun b => some (Value.bool b)) (decide_eq_true c17)) ?_
        refine C.reg ?_
        refine J.p rfl rfl rfl rfl (Y.mv rfl) ?_
        refine J.p rfl rfl rfl rfl (Y.bin rfl rfl rfl) ?_
        refine J.p rfl rfl rfl rfl (Y.neg rfl) ?_
        refine J.p rfl rfl rfl rfl (Y.asg rfl) ?_
        refine J.nx ?_
        refine C.rs ?_
        refine J.p rfl rfl rfl rfl (Y.mv rfl) ?_
        refine J.p rfl rfl rfl rfl (Y.mv rfl) ?_
        refine J.p rfl rfl rfl rfl (Y.lenS Try.underlying22 rfl) ?_
        obtain ⟨p18, H⟩ := gd_some H
        refine J.p rfl rfl rfl rfl (Y.rem rfl rfl p18) ?_
        refine J.p rfl rfl rfl rfl (Y.asg rfl) ?_
        refine J.nx ?_
        refine C.rs ?_
        refine J.p rfl rfl rfl rfl (Y.mv rfl) ?_
        refine J.p rfl rfl rfl rfl (Y.mv rfl) ?_
        obtain ⟨p20, H⟩ := gd_some H
        refine J.know (own_leL 0 rfl) (fun hc19 => ?_)
        refine J.p rfl rfl rfl rfl (Y.slcL Try.underlying22 ti5 rfl bnd.no (bnd.yes rfl p20.1) p20.2 hc19) ?_
        obtain ⟨t21, hC22, H⟩ := bind_some H
        refine J.call (us := []) (cap := []) rfl rfl rfl go15 (fun w hw => by have hcc := Decode.calls K ((t3.take (Int.toNat (Int.tmod (IntKind.wrap .i64 (0 - (IntKind.wrap .i64 (a1 + 1)))) (t3.length : Int)))).drop 0) (subA 1 A5 c6 0) (c6 - 0) (RdG.subL (l := 0) (h := (Int.toNat (Int.tmod (IntKind.wrap .i64 (0 - (IntKind.wrap .i64 (a1 + 1)))) (t3.length : Int)))) (RdG.own 0 rfl) hc19) (hc_sub hc19) t21 hC22 w hw; exact hcc) (fun e w1 h1 => ?_)
        obtain ⟨rfl, hw36⟩ := h1
        refine ⟨_, _, rfl, hw36, ?_⟩
        refine J.p rfl rfl rfl rfl (Y.mv rfl) ?_
        refine J.p rfl rfl rfl rfl (Y.ext rfl rfl) ?_
        refine J.p rfl rfl rfl rfl (Y.ext rfl rfl) ?_
        refine J.p rfl rfl rfl rfl (Y.ext rfl rfl) ?_
        refine J.p rfl rfl rfl rfl (Y.asg rfl) ?_
        refine J.p rfl rfl rfl rfl (Y.asg rfl) ?_
        refine J.p rfl rfl rfl rfl (Y.asg rfl) ?_
        refine J.nx ?_
        refine C.seq ?_
        refine C.rs ?_
        refine J.p rfl rfl rfl rfl (Y.mv rfl) ?_
        refine J.p rfl rfl rfl rfl (Y.bin rfl rfl rfl) ?_
        refine J.nx ?_
        refine split2 H (fun c23 H => ?_) (fun c23 H => ?_)
        · refine C.condT (congrArg (fun b => some (Value.bool b)) (decide_eq_true c23)) ?_
          refine C.rs ?_
          refine J.p rfl rfl rfl rfl (Y.asg rfl) ?_
          refine J.nx ?_
          refine C.ret ?_
          obtain rfl := Option.some.inj H
          refine T.th ?_
          exact ret_ok (ks := [6]) rfl rfl (fun w h => ⟨rfl, (St.pick [] [_] h rfl)⟩)
        · refine C.condF (congrArg (fun b => some (Value.bool b)) (decide_eq_false c23)) ?_
          refine C.skip ?_
          refine N.nx ?_
          refine C.seq ?_
          refine C.rs ?_
          refine J.p rfl rfl rfl rfl (Y.mv rfl) ?_
          refine J.p rfl rfl rfl rfl (Y.bin rfl rfl rfl) ?_
          refine J.nx ?_
          refine split2 H (fun c24 H => ?_) (fun c24 H => ?_)
          · refine C.condT (congrArg (fun b => some (Value.bool b)) (decide_eq_true c24)) ?_
            refine C.rs ?_
            refine J.p rfl rfl rfl rfl (Y.asg rfl) ?_
            refine J.nx ?_
            refine C.ret ?_
            obtain rfl := Option.some.inj H
            refine T.th ?_
            exact ret_ok (ks := [6]) rfl rfl (fun w h => ⟨rfl, (St.pick [] [_] h rfl)⟩)
          · refine C.condF (congrArg (fun b => some (Value.bool b)) (decide_eq_false c24)) ?_
            refine C.skip ?_
            refine N.nx ?_
            refine C.rs ?_
            refine J.p rfl rfl rfl rfl (Y.mv rfl) ?_
            refine J.p rfl rfl rfl rfl (Y.mv rfl) ?_
            refine J.p rfl rfl rfl rfl (Y.mv rfl) ?_
            refine J.p rfl rfl rfl rfl (Y.mv rfl) ?_
            obtain ⟨p25, H⟩ := gd_some H
            refine J.el rfl rfl rfl Try.underlying22 ti5 Try.underlying5 rfl rfl rfl p25 (RdG.own 0 rfl) ?_
            refine J.p rfl rfl rfl rfl (Y.mv rfl) ?_
            refine J.p rfl rfl rfl rfl (Y.bin rfl rfl rfl) ?_
            obtain ⟨p28, H⟩ := gd_some H
            refine J.know ((RdG.own 0 rfl).some_ (j := Int.toNat (Int.tmod (IntKind.wrap .i64 (0 - (IntKind.wrap .i64 (a1 + 1)))) (t3.length : Int))) (by rw [List.length_map]; exact idx_lt p28)) (fun hh => ?_)
            obtain ⟨a26, ha27⟩ := hh
            refine J.p rfl rfl rfl rfl (Y.ixa Try.underlying22 ti5 rfl rfl p28 ha27) ?_
            obtain ⟨p29, H⟩ := gd_some H
            refine J.stoL (enc := (Value.int .u8)) ti5 ha27 rfl rfl rfl p29 ?_
            refine J.as (k := 7) rfl (set_len t3 (Int.toNat (Int.tmod (IntKind.wrap .i64 (0 - (IntKind.wrap .i64 (a1 + 1)))) (t3.length : Int))) (Sx.bits .xor .u8 (rd t3 (Int.tmod (IntKind.wrap .i64 (0 - (IntKind.wrap .i64 (a1 + 1)))) (t3.length : Int))) a2)) ?_
            refine J.nx ?_
            refine C.rs ?_
            refine J.p rfl rfl rfl rfl (Y.mv rfl) ?_
            refine J.know (own_leL 0 rfl) (fun hc30 => ?_)
            obtain ⟨t31, hC32, H⟩ := bind_some H
            refine J.call (us := []) (cap := []) rfl rfl rfl go15 (fun w hw => by have hcc := Decode.calls K (t3.set (Int.toNat (Int.tmod (IntKind.wrap .i64 (0 - (IntKind.wrap .i64 (a1 + 1)))) (t3.length : Int))) (Sx.bits .xor .u8 (rd t3 (Int.tmod (IntKind.wrap .i64 (0 - (IntKind.wrap .i64 (a1 + 1)))) (t3.length : Int))) a2)) A5 c6 (RdG.own 0 rfl) hc30 t31 hC32 w hw; exact hcc) (fun e w1 h1 => ?_)
            obtain ⟨rfl, hw35⟩ := h1
            refine ⟨_, _, rfl, hw35, ?_⟩
            refine J.p rfl rfl rfl rfl (Y.mv rfl) ?_
            refine J.p rfl rfl rfl rfl (Y.ext rfl rfl) ?_
            refine J.p rfl rfl rfl rfl (Y.ext rfl rfl) ?_
            refine J.p rfl rfl rfl rfl (Y.ext rfl rfl) ?_
            refine J.p rfl rfl rfl rfl (Y.asg rfl) ?_
            refine J.p rfl rfl rfl rfl (Y.asg rfl) ?_
            refine J.p rfl rfl rfl rfl (Y.asg rfl) ?_
            refine J.nx ?_
            refine C.rs ?_
            refine J.p rfl rfl rfl rfl (Y.mv rfl) ?_
            refine J.p rfl rfl rfl rfl (Y.bin rfl rfl rfl) ?_
            refine J.p rfl rfl rfl rfl (Y.mv rfl) ?_
            refine split2 H (fun c33 H => ?_) (fun c33 H => ?_)
            · refine J.as (k := 65) rfl (congrArg Value.bool (decide_eq_true c33)) ?_
              refine J.skip rfl rfl ?_
              refine J.skip rfl rfl ?_
              refine J.skip rfl rfl ?_
              refine J.p rfl rfl rfl rfl (Y.pickT rfl rfl) ?_
              refine J.p rfl rfl rfl rfl (Y.mv rfl) ?_
              refine J.skip rfl rfl ?_
              refine J.skip rfl rfl ?_
              refine J.skip rfl rfl ?_
              refine J.skip rfl rfl ?_
              refine J.p rfl rfl rfl rfl (Y.pickT rfl rfl) ?_
              refine J.p rfl rfl rfl rfl (Y.asg rfl) ?_
              refine J.nx ?_
              refine C.ret ?_
              obtain rfl := Option.some.inj H
              exact ret_ok (ks := [6]) rfl rfl (fun w h => ⟨rfl, (St.pick [] [_] h rfl)⟩)
            · refine J.as (k := 65) rfl (congrArg Value.bool (decide_eq_false c33)) ?_
              refine J.p rfl rfl rfl rfl (Y.mv rfl) ?_
              refine J.p rfl rfl rfl rfl (Y.mv rfl) ?_
              refine J.p rfl rfl rfl rfl (Y.bin rfl rfl rfl) ?_
              refine J.p rfl rfl rfl rfl (Y.pickF rfl rfl) ?_
              refine J.p rfl rfl rfl rfl (Y.mv rfl) ?_
              refine split2 H (fun c34 H => ?_) (fun c34 H => ?_)
              · refine J.as (k := 70) rfl (congrArg Value.bool (decide_eq_true c34)) ?_
                refine J.skip rfl rfl ?_
                refine J.skip rfl rfl ?_
                refine J.skip rfl rfl ?_
                refine J.skip rfl rfl ?_
                refine J.p rfl rfl rfl rfl (Y.pickT rfl rfl) ?_
                refine J.p rfl rfl rfl rfl (Y.asg rfl) ?_
                refine J.nx ?_
                refine C.ret ?_
                obtain rfl := Option.some.inj H
                exact ret_ok (ks := [6]) rfl rfl (fun w h => ⟨rfl, (St.pick [] [_] h rfl)⟩)
              · refine J.as (k := 70) rfl (congrArg Value.bool (decide_eq_false c34)) ?_
                refine J.p rfl rfl rfl rfl (Y.mv rfl) ?_
                refine J.p rfl rfl rfl rfl (Y.mv rfl) ?_
                refine J.p rfl rfl rfl rfl (Y.lenS Try.underlying22 rfl) ?_
                refine J.p rfl rfl rfl rfl (Y.bin rfl rfl rfl) ?_
                refine J.p rfl rfl rfl rfl (Y.pickF rfl rfl) ?_
                refine J.p rfl rfl rfl rfl (Y.asg rfl) ?_
                refine J.nx ?_
                refine C.ret ?_
                obtain rfl := Option.some.inj H
                exact ret_ok (ks := [6]) rfl rfl (fun w h => ⟨rfl, (St.pick [] [_] h rfl)⟩)
      · refine C.condF (congrArg (fun b => some (Value.bool b)) (decide_eq_false c17)) ?_
        refine C.skip ?_
        refine N.nx ?_
        refine C.rs ?_
        refine J.p rfl rfl rfl rfl (Y.mv rfl) ?_
        refine J.p rfl rfl rfl rfl (Y.mv rfl) ?_
        refine J.p rfl rfl rfl rfl (Y.lenS Try.underlying22 rfl) ?_
        obtain ⟨p37, H⟩ := gd_some H
        refine J.p rfl rfl rfl rfl (Y.rem rfl rfl p37) ?_
        refine J.p rfl rfl rfl rfl (Y.asg rfl) ?_
        refine J.nx ?_
        refine C.rs ?_
        refine J.p rfl rfl rfl rfl (Y.mv rfl) ?_
        refine J.p rfl rfl rfl rfl (Y.mv rfl) ?_
        obtain ⟨p39, H⟩ := gd_some H
        refine J.know (own_leL 0 rfl) (fun hc38 => ?_)
        refine J.p rfl rfl rfl rfl (Y.slcL Try.underlying22 ti5 rfl bnd.no (bnd.yes rfl p39.1) p39.2 hc38) ?_
        obtain ⟨t40, hC41, H⟩ := bind_some H
        refine J.call (us := []) (cap := []) rfl rfl rfl go15 (fun w hw => by have hcc := Decode.calls K ((t3.take (Int.toNat (Int.tmod a1 (t3.length : Int)))).drop 0) (subA 1 A5 c6 0) (c6 - 0) (RdG.subL (l := 0) (h := (Int.toNat (Int.tmod a1 (t3.length : Int)))) (RdG.own 0 rfl) hc38) (hc_sub hc38) t40 hC41 w hw; exact hcc) (fun e w1 h1 => ?_)
        obtain ⟨rfl, hw55⟩ := h1
        refine ⟨_, _, rfl, hw55, ?_⟩
        refine J.p rfl rfl rfl rfl (Y.mv rfl) ?_
        refine J.p rfl rfl rfl rfl (Y.ext rfl rfl) ?_
        refine J.p rfl rfl rfl rfl (Y.ext rfl rfl) ?_
        refine J.p rfl rfl rfl rfl (Y.ext rfl rfl) ?_
        refine J.p rfl rfl rfl rfl (Y.asg rfl) ?_
        refine J.p rfl rfl rfl rfl (Y.asg rfl) ?_
        refine J.p rfl rfl rfl rfl (Y.asg rfl) ?_
        refine J.nx ?_
        refine C.seq ?_
        refine C.rs ?_
        refine J.p rfl rfl rfl rfl (Y.mv rfl) ?_
        refine J.p rfl rfl rfl rfl (Y.bin rfl rfl rfl) ?_
        refine J.nx ?_
        refine split2 H (fun c42 H => ?_) (fun c42 H => ?_)
        · refine C.condT (congrArg (fun b => some (Value.bool b)) (decide_eq_true c42)) ?_
          refine C.rs ?_
          refine J.p rfl rfl rfl rfl (Y.asg rfl) ?_
          refine J.nx ?_
          refine C.ret ?_
          obtain rfl := Option.some.inj H
          refine T.th ?_
          exact ret_ok (ks := [6]) rfl rfl (fun w h => ⟨rfl, (St.pick [] [_] h rfl)⟩)
        · refine C.condF (congrArg (fun b => some (Value.bool b)) (decide_eq_false c42)) ?_
          refine C.skip ?_
          refine N.nx ?_
          refine C.seq ?_
          refine C.rs ?_
          refine J.p rfl rfl rfl rfl (Y.mv rfl) ?_
          refine J.p rfl rfl rfl rfl (Y.bin rfl rfl rfl) ?_
          refine J.nx ?_
          refine split2 H (fun c43 H => ?_) (fun c43 H => ?_)
          · refine C.condT (congrArg (fun b => some (Value.bool b)) (decide_eq_true c43)) ?_
            refine C.rs ?_
            refine J.p rfl rfl rfl rfl (Y.asg rfl) ?_
            refine J.nx ?_
            refine C.ret ?_
            obtain rfl := Option.some.inj H
            refine T.th ?_
            exact ret_ok (ks := [6]) rfl rfl (fun w h => ⟨rfl, (St.pick [] [_] h rfl)⟩)
          · refine C.condF (congrArg (fun b => some (Value.bool b)) (decide_eq_false c43)) ?_
            refine C.skip ?_
            refine N.nx ?_
            refine C.rs ?_
            refine J.p rfl rfl rfl rfl (Y.mv rfl) ?_
            refine J.p rfl rfl rfl rfl (Y.mv rfl) ?_
            refine J.p rfl rfl rfl rfl (Y.mv rfl) ?_
            refine J.p rfl rfl rfl rfl (Y.mv rfl) ?_
            obtain ⟨p44, H⟩ := gd_some H
            refine J.el rfl rfl rfl Try.underlying22 ti5 Try.underlying5 rfl rfl rfl p44 (RdG.own 0 rfl) ?_
            refine J.p rfl rfl rfl rfl (Y.mv rfl) ?_
            refine J.p rfl rfl rfl rfl (Y.bin rfl rfl rfl) ?_
            obtain ⟨p47, H⟩ := gd_some H
            refine J.know ((RdG.own 0 rfl).some_ (j := Int.toNat (Int.tmod a1 (t3.length : Int))) (by rw [List.length_map]; exact idx_lt p47)) (fun hh => ?_)
            obtain ⟨a45, ha46⟩ := hh
            refine J.p rfl rfl rfl rfl (Y.ixa Try.underlying22 ti5 rfl rfl p47 ha46) ?_
            obtain ⟨p48, H⟩ := gd_some H
            refine J.stoL (enc := (Value.int .u8)) ti5 ha46 rfl rfl rfl p48 ?_
            refine J.as (k := 7) rfl (set_len t3 (Int.toNat (Int.tmod a1 (t3.length : Int))) (Sx.bits .xor .u8 (rd t3 (Int.tmod a1 (t3.length : Int))) a2)) ?_
            refine J.nx ?_
            refine C.rs ?_
            refine J.p rfl rfl rfl rfl (Y.mv rfl) ?_
            refine J.know (own_leL 0 rfl) (fun hc49 => ?_)
            obtain ⟨t50, hC51, H⟩ := bind_some H
            refine J.call (us := []) (cap := []) rfl rfl rfl go15 (fun w hw => by have hcc := Decode.calls K (t3.set (Int.toNat (Int.tmod a1 (t3.length : Int))) (Sx.bits .xor .u8 (rd t3 (Int.tmod a1 (t3.length : Int))) a2)) A5 c6 (RdG.own 0 rfl) hc49 t50 hC51 w hw; exact hcc) (fun e w1 h1 => ?_)
            obtain ⟨rfl, hw54⟩ := h1
            refine ⟨_, _, rfl, hw54, ?_⟩
            refine J.p rfl rfl rfl rfl (Y.mv rfl) ?_
            refine J.p rfl rfl rfl rfl (Y.ext rfl rfl) ?_
            refine J.p rfl rfl rfl rfl (Y.ext rfl rfl) ?_
            refine J.p rfl rfl rfl rfl (Y.ext rfl rfl) ?_
            refine J.p rfl rfl rfl rfl (Y.asg rfl) ?_
            refine J.p rfl rfl rfl rfl (Y.asg rfl) ?_
            refine J.p rfl rfl rfl rfl (Y.asg rfl) ?_
            refine J.nx ?_
            refine C.rs ?_
            refine J.p rfl rfl rfl rfl (Y.mv rfl) ?_
            refine J.p rfl rfl rfl rfl (Y.bin rfl rfl rfl) ?_
            refine J.p rfl rfl rfl rfl (Y.mv rfl) ?_
            refine split2 H (fun c52 H => ?_) (fun c52 H => ?_)
            · refine J.as (k := 65) rfl (congrArg Value.bool (decide_eq_true c52)) ?_
              refine J.skip rfl rfl ?_
              refine J.skip rfl rfl ?_
              refine J.skip rfl rfl ?_
              refine J.p rfl rfl rfl rfl (Y.pickT rfl rfl) ?_
              refine J.p rfl rfl rfl rfl (Y.mv rfl) ?_
              refine J.skip rfl rfl ?_
              refine J.skip rfl rfl ?_
              refine J.skip rfl rfl ?_
              refine J.skip rfl rfl ?_
              refine J.p rfl rfl rfl rfl (Y.pickT rfl rfl) ?_
              refine J.p rfl rfl rfl rfl (Y.asg rfl) ?_
              refine J.nx ?_
              refine C.ret ?_
              obtain rfl := Option.some.inj H
              exact ret_ok (ks := [6]) rfl rfl (fun w h => ⟨rfl, (St.pick [] [_] h rfl)⟩)
            · refine J.as (k := 65) rfl (congrArg Value.bool (decide_eq_false c52)) ?_
              refine J.p rfl rfl rfl rfl (Y.mv rfl) ?_
              refine J.p rfl rfl rfl rfl (Y.mv rfl) ?_
              refine J.p rfl rfl rfl rfl (Y.bin rfl rfl rfl) ?_
              refine J.p rfl rfl rfl rfl (Y.pickF rfl rfl) ?_
              refine J.p rfl rfl rfl rfl (Y.mv rfl) ?_
              refine split2 H (fun c53 H => ?_) (fun c53 H => ?_)
              · refine J.as (k := 70) rfl (congrArg Value.bool (decide_eq_true c53)) ?_
                refine J.skip rfl rfl ?_
                refine J.skip rfl rfl ?_
                refine J.skip rfl rfl ?_
                refine J.skip rfl rfl ?_
                refine J.p rfl rfl rfl rfl (Y.pickT rfl rfl) ?_
                refine J.p rfl rfl rfl rfl (Y.asg rfl) ?_
                refine J.nx ?_
                refine C.ret ?_
                obtain rfl := Option.some.inj H
                exact ret_ok (ks := [6]) rfl rfl (fun w h => ⟨rfl, (St.pick [] [_] h rfl)⟩)
              · refine J.as (k := 70) rfl (congrArg Value.bool (decide_eq_false c53)) ?_
                refine J.p rfl rfl rfl rfl (Y.mv rfl) ?_
                refine J.p rfl rfl rfl rfl (Y.mv rfl) ?_
                refine J.p rfl rfl rfl rfl (Y.lenS Try.underlying22 rfl) ?_
                refine J.p rfl rfl rfl rfl (Y.bin rfl rfl rfl) ?_
                refine J.p rfl rfl rfl rfl (Y.pickF rfl rfl) ?_
                refine J.p rfl rfl rfl rfl (Y.asg rfl) ?_
                refine J.nx ?_
                refine C.ret ?_
                obtain rfl := Option.some.inj H
                exact ret_ok (ks := [6]) rfl rfl (fun w h => ⟨rfl, (St.pick [] [_] h rfl)⟩)
/-! ### salvor/salvorlaw2.VintSorted: function 6 -/
def VintSorted.f (K : Nat) (a0 : Int) (a1 : Int) (a2 : Int) : Option (Bool) := (Digits.f K a0 a2).bind fun t1 => (Digits.f K a1 a2).bind fun t6 => (works.f K).bind fun t11 => (if t1.2 ≠ 0 then (some true) else (some (decide (t6.2 ≠ 0)))).bind fun o14 => if o14 = true then ((if t1.2 = 20 then (some (decide (t6.2 = 20))) else (some false)).bind fun o21 => if t11 = true then (if o21 = true then (some true) else (if t1.2 = 24 then (some true) else (some (decide (t6.2 = 24))))) else (some false)) else (if t11 = true then ((less.f K t1.1 t6.1).bind fun t32 => if t32 = (decide (a0 < a1)) then ((less.f K t6.1 t1.1).bind fun t37 => some (decide (t37 = (decide (a1 < a0))))) else (some false)) else (some false))
theorem VintSorted.calls {B : Nat} {w0 : World} {G : List HP} (K : Nat) (a0 : Int) (a1 : Int) (a2 : Int) (r : Bool) (H : VintSorted.f K a0 a1 a2 = some r) (w : World) (hw : St B w0 (G) w) :
    Calls Try.prog 6 [.int .u64 a0, .int .u64 a1, .int .i64 a2].toArray w (fun e w' => e = .returned (.bool r) ∧ St B w0 (G) w') := by
  unfold VintSorted.f at H
  refine calls_of (n := 69) (s := [(0, .int .u64 a0), (1, .int .u64 a1), (2, .int .i64 a2)]) Try.func6 rfl rfl rfl rfl ?_ hw
  refine C.rs ?_
  refine J.p rfl rfl rfl rfl (Y.asg rfl) ?_
  refine J.nx ?_
  refine C.rs ?_
  refine J.p rfl rfl rfl rfl (Y.mv rfl) ?_
  refine J.p rfl rfl rfl rfl (Y.mv rfl) ?_
  obtain ⟨t1, hC2, H⟩ := bind_some H
  refine J.call (us := []) (cap := []) rfl rfl rfl go22 (fun w hw => by have hcc := Digits.calls K a0 a2 t1 hC2 w hw; exact hcc) (fun e w1 h1 => ?_)
  obtain ⟨A3, c4, rfl, hw43⟩ := h1
  refine ⟨_, _, rfl, hw43, ?_⟩
  refine J.p rfl rfl rfl rfl (Y.mv rfl) ?_
  refine J.p rfl rfl rfl rfl (Y.ext rfl rfl) ?_
  refine J.p rfl rfl rfl rfl (Y.ext rfl rfl) ?_
  refine J.p rfl rfl rfl rfl (Y.asg rfl) ?_
  refine J.p rfl rfl rfl rfl (Y.asg rfl) ?_
  refine J.nx ?_
  refine C.rs ?_
  refine J.p rfl rfl rfl rfl (Y.mv rfl) ?_
  refine J.p rfl rfl rfl rfl (Y.mv rfl) ?_
  obtain ⟨t6, hC7, H⟩ := bind_some H
  refine J.call (us := []) (cap := []) rfl rfl rfl go22 (fun w hw => by have hcc := Digits.calls K a1 a2 t6 hC7 w hw; exact hcc) (fun e w1 h1 => ?_)
  obtain ⟨A8, c9, rfl, hw42⟩ := h1
  refine ⟨_, _, rfl, hw42, ?_⟩
  refine J.p rfl rfl rfl rfl (Y.mv rfl) ?_
  refine J.p rfl rfl rfl rfl (Y.ext rfl rfl) ?_
  refine J.p rfl rfl rfl rfl (Y.ext rfl rfl) ?_
  refine J.p rfl rfl rfl rfl (Y.asg rfl) ?_
  refine J.p rfl rfl rfl rfl (Y.asg rfl) ?_
  refine J.nx ?_
  refine C.rs ?_
  obtain ⟨t11, hC12, H⟩ := bind_some H
  refine J.call (us := []) (cap := []) rfl rfl rfl go19 (fun w hw => by have hcc := works.calls K t11 hC12 w hw; exact hcc) (fun e w1 h1 => ?_)
  obtain ⟨rfl, hw41⟩ := h1
  refine ⟨_, _, rfl, hw41, ?_⟩
  refine J.p rfl rfl rfl rfl (Y.asg rfl) ?_
  refine J.nx ?_
  refine C.seq ?_
  refine C.rs ?_
  refine J.joinB H (fun (o14 : Bool) (j15 : Unit) => [(0, .int .u64 a0), (1, .int .u64 a1), (7, .slice A3 t1.1.length c4), (8, .int .i64 t1.2), (9, .slice A8 t6.1.length c9), (10, .int .i64 t6.2), (11, .bool t11), (31, .bool o14)]) (fun (o14 : Bool) (j15 : Unit) => own 5 1 A3 c4 (t1.1.map (Value.int .u8)) :: own 5 1 A8 c9 (t6.1.map (Value.int .u8)) :: G) (fun (o14 : Bool) (j15 : Unit) => True) (fun o16 H HK17 => ?_) (fun o14 j15 H _ => ?_)
  · refine J.p rfl rfl rfl rfl (Y.mv rfl) ?_
    refine J.p rfl rfl rfl rfl (Y.bin rfl rfl rfl) ?_
    refine J.p rfl rfl rfl rfl (Y.mv rfl) ?_
    refine split2 H (fun c18 H => ?_) (fun c18 H => ?_)
    · refine J.as (k := 28) rfl (congrArg Value.bool (decide_eq_true c18)) ?_
      refine J.skip rfl rfl ?_
      refine J.skip rfl rfl ?_
      refine J.p rfl rfl rfl rfl (Y.pickT rfl rfl) ?_
      refine J.nil ?_
      obtain rfl := Option.some.inj H
      exact N.meet (true, ()) ⟨HK17, trivial⟩ (by exact ⟨rfl, rfl, rfl, rfl, rfl, rfl, rfl, rfl, trivial⟩) (by exact fun w h => (St.pick [1, 0] [_, _] h rfl))
    · refine J.as (k := 28) rfl (congrArg Value.bool (decide_eq_false c18)) ?_
      refine J.p rfl rfl rfl rfl (Y.mv rfl) ?_
      refine J.p rfl rfl rfl rfl (Y.bin rfl rfl rfl) ?_
      refine J.p rfl rfl rfl rfl (Y.pickF rfl rfl) ?_
      refine J.nil ?_
      obtain rfl := Option.some.inj H
      exact N.meet (decide (t6.2 ≠ 0), ()) ⟨HK17, trivial⟩ (by exact ⟨rfl, rfl, rfl, rfl, rfl, rfl, rfl, rfl, trivial⟩) (by exact fun w h => (St.pick [1, 0] [_, _] h rfl))
  · refine C.at (s' := [(0, .int .u64 a0), (1, .int .u64 a1), (7, .slice A3 t1.1.length c4), (8, .int .i64 t1.2), (9, .slice A8 t6.1.length c9), (10, .int .i64 t6.2), (11, .bool t11), (31, .bool o14)]) (G' := own 5 1 A3 c4 (t1.1.map (Value.int .u8)) :: own 5 1 A8 c9 (t6.1.map (Value.int .u8)) :: G) rfl rfl ?_
    refine split2 H (fun c19 H => ?_) (fun c19 H => ?_)
    · refine C.condT (congrArg (fun b => some (Value.bool b)) (c19)) ?_
      refine C.rs ?_
      refine J.joinB H (fun (o21 : Bool) (j22 : Unit) => [(8, .int .i64 t1.2), (10, .int .i64 t6.2), (11, .bool t11), (12, .bool o21)]) (fun (o21 : Bool) (j22 : Unit) => G) (fun (o21 : Bool) (j22 : Unit) => True) (fun o23 H HK24 => ?_) (fun o21 j22 H _ => ?_)
      · refine J.p rfl rfl rfl rfl (Y.mv rfl) ?_
        refine J.p rfl rfl rfl rfl (Y.bin rfl rfl rfl) ?_
        refine J.p rfl rfl rfl rfl (Y.mv rfl) ?_
        refine split2 H (fun c25 H => ?_) (fun c25 H => ?_)
        · refine J.as (k := 34) rfl (congrArg Value.bool (decide_eq_true c25)) ?_
          refine J.p rfl rfl rfl rfl (Y.mv rfl) ?_
          refine J.p rfl rfl rfl rfl (Y.bin rfl rfl rfl) ?_
          refine J.p rfl rfl rfl rfl (Y.pickT rfl rfl) ?_
          refine J.p rfl rfl rfl rfl (Y.asg rfl) ?_
          refine J.nil ?_
          obtain rfl := Option.some.inj H
          exact N.meet (decide (t6.2 = 20), ()) ⟨HK24, trivial⟩ (by exact ⟨rfl, rfl, rfl, rfl, trivial⟩) (by exact fun w h => (St.pick [] [_, _] h rfl))
        · refine J.as (k := 34) rfl (congrArg Value.bool (decide_eq_false c25)) ?_
          refine J.skip rfl rfl ?_
          refine J.skip rfl rfl ?_
          refine J.p rfl rfl rfl rfl (Y.pickF rfl rfl) ?_
          refine J.p rfl rfl rfl rfl (Y.asg rfl) ?_
          refine J.nil ?_
          obtain rfl := Option.some.inj H
          exact N.meet (false, ()) ⟨HK24, trivial⟩ (by exact ⟨rfl, rfl, rfl, rfl, trivial⟩) (by exact fun w h => (St.pick [] [_, _] h rfl))
      · refine C.at (s' := [(8, .int .i64 t1.2), (10, .int .i64 t6.2), (11, .bool t11), (12, .bool o21)]) (G' := G) rfl rfl ?_
        refine C.rs ?_
        refine J.p rfl rfl rfl rfl (Y.mv rfl) ?_
        refine J.p rfl rfl rfl rfl (Y.mv rfl) ?_
        refine split2 H (fun c26 H => ?_) (fun c26 H => ?_)
        · refine J.as (k := 39) rfl (congrArg Value.bool (c26)) ?_
          refine J.p rfl rfl rfl rfl (Y.mv rfl) ?_
          refine J.p rfl rfl rfl rfl (Y.mv rfl) ?_
          refine split2 H (fun c27 H => ?_) (fun c27 H => ?_)
          · refine J.as (k := 41) rfl (congrArg Value.bool (c27)) ?_
            refine J.skip rfl rfl ?_
            refine J.skip rfl rfl ?_
            refine J.p rfl rfl rfl rfl (Y.pickT rfl rfl) ?_
            refine J.p rfl rfl rfl rfl (Y.mv rfl) ?_
            refine J.skip rfl rfl ?_
            refine J.skip rfl rfl ?_
            refine J.p rfl rfl rfl rfl (Y.pickT rfl rfl) ?_
            refine J.p rfl rfl rfl rfl (Y.pickT rfl rfl) ?_
            refine J.p rfl rfl rfl rfl (Y.asg rfl) ?_
            refine J.nx ?_
            refine C.ret ?_
            obtain rfl := Option.some.inj H
            refine T.th ?_
            exact ret_ok (ks := [6]) rfl rfl (fun w h => ⟨rfl, h⟩)
          · refine J.as (k := 41) rfl (congrArg Value.bool (nt c27)) ?_
            refine J.p rfl rfl rfl rfl (Y.mv rfl) ?_
            refine J.p rfl rfl rfl rfl (Y.bin rfl rfl rfl) ?_
            refine J.p rfl rfl rfl rfl (Y.pickF rfl rfl) ?_
            refine J.p rfl rfl rfl rfl (Y.mv rfl) ?_
            refine split2 H (fun c28 H => ?_) (fun c28 H => ?_)
            · refine J.as (k := 45) rfl (congrArg Value.bool (decide_eq_true c28)) ?_
              refine J.skip rfl rfl ?_
              refine J.skip rfl rfl ?_
              refine J.p rfl rfl rfl rfl (Y.pickT rfl rfl) ?_
              refine J.p rfl rfl rfl rfl (Y.pickT rfl rfl) ?_
              refine J.p rfl rfl rfl rfl (Y.asg rfl) ?_
              refine J.nx ?_
              refine C.ret ?_
              obtain rfl := Option.some.inj H
              refine T.th ?_
              exact ret_ok (ks := [6]) rfl rfl (fun w h => ⟨rfl, h⟩)
            · refine J.as (k := 45) rfl (congrArg Value.bool (decide_eq_false c28)) ?_
              refine J.p rfl rfl rfl rfl (Y.mv rfl) ?_
              refine J.p rfl rfl rfl rfl (Y.bin rfl rfl rfl) ?_
              refine J.p rfl rfl rfl rfl (Y.pickF rfl rfl) ?_
              refine J.p rfl rfl rfl rfl (Y.pickT rfl rfl) ?_
              refine J.p rfl rfl rfl rfl (Y.asg rfl) ?_
              refine J.nx ?_
              refine C.ret ?_
              obtain rfl := Option.some.inj H
              refine T.th ?_
              exact ret_ok (ks := [6]) rfl rfl (fun w h => ⟨rfl, h⟩)
        · refine J.as (k := 39) rfl (congrArg Value.bool (nt c26)) ?_
          refine J.skip rfl rfl ?_
          refine J.skip rfl rfl ?_
          refine J.skip rfl rfl ?_
          refine J.skip rfl rfl ?_
          refine J.skip rfl rfl ?_
          refine J.skip rfl rfl ?_
          refine J.skip rfl rfl ?_
          refine J.skip rfl rfl ?_
          refine J.skip rfl rfl ?_
          refine J.p rfl rfl rfl rfl (Y.pickF rfl rfl) ?_
          refine J.p rfl rfl rfl rfl (Y.asg rfl) ?_
          refine J.nx ?_
          refine C.ret ?_
          obtain rfl := Option.some.inj H
          refine T.th ?_
          exact ret_ok (ks := [6]) rfl rfl (fun w h => ⟨rfl, h⟩)
    · refine C.condF (congrArg (fun b => some (Value.bool b)) (nt c19)) ?_
      refine C.skip ?_
      refine N.nx ?_
      refine C.rs ?_
      refine J.p rfl rfl rfl rfl (Y.mv rfl) ?_
      refine J.p rfl rfl rfl rfl (Y.mv rfl) ?_
      refine split2 H (fun c29 H => ?_) (fun c29 H => ?_)
      · refine J.as (k := 51) rfl (congrArg Value.bool (c29)) ?_
        refine J.p rfl rfl rfl rfl (Y.mv rfl) ?_
        refine J.p rfl rfl rfl rfl (Y.mv rfl) ?_
        refine J.want rfl ?_
        refine J.know (own_leL 0 rfl) (fun hc30 => ?_)
        refine J.know (own_leL 1 rfl) (fun hc31 => ?_)
        obtain ⟨t32, hC33, H⟩ := bind_some H
        refine J.call (us := []) (cap := []) rfl rfl rfl go23 (fun w hw => by have hcc := less.calls K t1.1 t6.1 A3 c4 A8 c9 (RdG.own 0 rfl) hc30 (RdG.own 1 rfl) hc31 t32 hC33 w hw; exact hcc) (fun e w1 h1 => ?_)
        obtain ⟨rfl, hw40⟩ := h1
        refine ⟨_, _, rfl, hw40, ?_⟩
        refine J.p rfl rfl rfl rfl (Y.mv rfl) ?_
        refine J.p rfl rfl rfl rfl (Y.mv rfl) ?_
        refine J.p rfl rfl rfl rfl (Y.bin rfl rfl rfl) ?_
        refine J.p rfl rfl rfl rfl (Y.eqb Try.underlying4 rfl rfl) ?_
        refine J.p rfl rfl rfl rfl (Y.pickT rfl rfl) ?_
        refine J.p rfl rfl rfl rfl (Y.mv rfl) ?_
        refine split2 H (fun c34 H => ?_) (fun c34 H => ?_)
        · refine J.as (k := 60) rfl (congrArg Value.bool (decide_eq_true c34)) ?_
          refine J.p rfl rfl rfl rfl (Y.mv rfl) ?_
          refine J.p rfl rfl rfl rfl (Y.mv rfl) ?_
          refine J.want rfl ?_
          refine J.know (own_leL 1 rfl) (fun hc35 => ?_)
          refine J.know (own_leL 0 rfl) (fun hc36 => ?_)
          obtain ⟨t37, hC38, H⟩ := bind_some H
          refine J.call (us := []) (cap := []) rfl rfl rfl go23 (fun w hw => by have hcc := less.calls K t6.1 t1.1 A8 c9 A3 c4 (RdG.own 1 rfl) hc35 (RdG.own 0 rfl) hc36 t37 hC38 w hw; exact hcc) (fun e w1 h1 => ?_)
          obtain ⟨rfl, hw39⟩ := h1
          refine ⟨_, _, rfl, hw39, ?_⟩
          refine J.p rfl rfl rfl rfl (Y.mv rfl) ?_
          refine J.p rfl rfl rfl rfl (Y.mv rfl) ?_
          refine J.p rfl rfl rfl rfl (Y.bin rfl rfl rfl) ?_
          refine J.p rfl rfl rfl rfl (Y.eqb Try.underlying4 rfl rfl) ?_
          refine J.p rfl rfl rfl rfl (Y.pickT rfl rfl) ?_
          refine J.p rfl rfl rfl rfl (Y.asg rfl) ?_
          refine J.nx ?_
          refine C.ret ?_
          obtain rfl := Option.some.inj H
          exact ret_ok (ks := [6]) rfl rfl (fun w h => ⟨rfl, (St.pick [] [_, _] h rfl)⟩)
        · refine J.as (k := 60) rfl (congrArg Value.bool (decide_eq_false c34)) ?_
          refine J.skip rfl rfl ?_
          refine J.skip rfl rfl ?_
          refine J.skip rfl rfl ?_
          refine J.skip rfl rfl ?_
          refine J.skip rfl rfl ?_
          refine J.skip rfl rfl ?_
          refine J.skip rfl rfl ?_
          refine J.p rfl rfl rfl rfl (Y.pickF rfl rfl) ?_
          refine J.p rfl rfl rfl rfl (Y.asg rfl) ?_
          refine J.nx ?_
          refine C.ret ?_
          obtain rfl := Option.some.inj H
          exact ret_ok (ks := [6]) rfl rfl (fun w h => ⟨rfl, (St.pick [] [_, _] h rfl)⟩)
      · refine J.as (k := 51) rfl (congrArg Value.bool (nt c29)) ?_
        refine J.skip rfl rfl ?_
        refine J.skip rfl rfl ?_
        refine J.skip rfl rfl ?_
        refine J.skip rfl rfl ?_
        refine J.skip rfl rfl ?_
        refine J.skip rfl rfl ?_
        refine J.skip rfl rfl ?_
        refine J.p rfl rfl rfl rfl (Y.pickF rfl rfl) ?_
        refine J.p rfl rfl rfl rfl (Y.mv rfl) ?_
        refine J.skip rfl rfl ?_
        refine J.skip rfl rfl ?_
        refine J.skip rfl rfl ?_
        refine J.skip rfl rfl ?_
        refine J.skip rfl rfl ?_
        refine J.skip rfl rfl ?_
        refine J.skip rfl rfl ?_
        refine J.p rfl rfl rfl rfl (Y.pickF rfl rfl) ?_
        refine J.p rfl rfl rfl rfl (Y.asg rfl) ?_
        refine J.nx ?_
        refine C.ret ?_
        obtain rfl := Option.some.inj H
        exact ret_ok (ks := [6]) rfl rfl (fun w h => ⟨rfl, (St.pick [] [_, _] h rfl)⟩)
/-! ### salvor/salvorlaw2.VintDigitsBack: function 9 -/
def VintDigitsBack.f (K : Nat) (a0 : Int) (a1 : Int) (a2 : List Int) : Option (Bool) := (Digits.f K a0 a1).bind fun t1 => (works.f K).bind fun t6 => if t1.2 = 0 then (gd ((t1.1.length + a2.length) * 1 ≤ 140737488355328) ((Number.f K (t1.1 ++ a2) a1).bind fun t14 => (if t14.2 ≠ 0 then (some true) else (if t14.1 ≠ a0 then (some true) else (some (decide (((t1.1 ++ a2).length : Int) ≠ (IntKind.wrap .i64 (a1 + (a2.length : Int)))))))).bind fun o18 => if o18 = true then (some false) else ((Number.f K a2 a1).bind fun t25 => if t25.2 = 0 then ((Digits.f K t25.1 a1).bind fun t28 => (if t28.2 ≠ 0 then (some true) else (if (t28.1.length : Int) ≠ a1 then (some true) else (if (a2.length : Int) < (t28.1.length : Int) then (some true) else (gd ((0 : Int) ≤ a1 ∧ (0 ≤ (Int.toNat a1) ∧ (Int.toNat a1) ≤ a2.length)) ((same.f K t28.1 ((a2.take (Int.toNat a1)).drop 0)).bind fun t50 => some (!t50)))))).bind fun o41 => if o41 = true then (some false) else (some t6)) else (some t6)))) else ((Number.f K a2 a1).bind fun t57 => if t57.2 = 0 then ((Digits.f K t57.1 a1).bind fun t60 => (if t60.2 ≠ 0 then (some true) else (if (t60.1.length : Int) ≠ a1 then (some true) else (if (a2.length : Int) < (t60.1.length : Int) then (some true) else (gd ((0 : Int) ≤ a1 ∧ (0 ≤ (Int.toNat a1) ∧ (Int.toNat a1) ≤ a2.length)) ((same.f K t60.1 ((a2.take (Int.toNat a1)).drop 0)).bind fun t82 => some (!t82)))))).bind fun o73 => if o73 = true then (some false) else (some t6)) else (some t6))
theorem VintDigitsBack.calls {B : Nat} {w0 : World} {G : List HP} (K : Nat) (a0 : Int) (a1 : Int) (a2 : List Int) (Aa2 : Option Addr) (ca2 : Nat) (ha2 : RdG B w0 G Aa2 (a2.map (Value.int .u8))) (ka2 : a2.length ≤ ca2) (r : Bool) (H : VintDigitsBack.f K a0 a1 a2 = some r) (w : World) (hw : St B w0 (G) w) :
    Calls Try.prog 9 [.int .u64 a0, .int .i64 a1, .slice Aa2 a2.length ca2].toArray w (fun e w' => e = .returned (.bool r) ∧ St B w0 (G) w') := by
  unfold VintDigitsBack.f at H
  refine calls_of (n := 88) (s := [(0, .int .u64 a0), (1, .int .i64 a1), (2, .slice Aa2 a2.length ca2)]) Try.func9 rfl rfl rfl rfl ?_ hw
  refine C.rs ?_
  refine J.p rfl rfl rfl rfl (Y.asg rfl) ?_
  refine J.nx ?_
  refine C.rs ?_
  refine J.p rfl rfl rfl rfl (Y.mv rfl) ?_
  refine J.p rfl rfl rfl rfl (Y.mv rfl) ?_
  obtain ⟨t1, hC2, H⟩ := bind_some H
  refine J.call (us := []) (cap := []) rfl rfl rfl go22 (fun w hw => by have hcc := Digits.calls K a0 a1 t1 hC2 w hw; exact hcc) (fun e w1 h1 => ?_)
  obtain ⟨A3, c4, rfl, hw89⟩ := h1
  refine ⟨_, _, rfl, hw89, ?_⟩
  refine J.p rfl rfl rfl rfl (Y.mv rfl) ?_
  refine J.p rfl rfl rfl rfl (Y.ext rfl rfl) ?_
  refine J.p rfl rfl rfl rfl (Y.ext rfl rfl) ?_
  refine J.p rfl rfl rfl rfl (Y.asg rfl) ?_
  refine J.p rfl rfl rfl rfl (Y.asg rfl) ?_
  refine J.nx ?_
  refine C.rs ?_
  obtain ⟨t6, hC7, H⟩ := bind_some H
  refine J.call (us := []) (cap := []) rfl rfl rfl go19 (fun w hw => by have hcc := works.calls K t6 hC7 w hw; exact hcc) (fun e w1 h1 => ?_)
  obtain ⟨rfl, hw88⟩ := h1
  refine ⟨_, _, rfl, hw88, ?_⟩
  refine J.p rfl rfl rfl rfl (Y.asg rfl) ?_
  refine J.nx ?_
  refine C.seq ?_
  refine C.rs ?_
  refine J.p rfl rfl rfl rfl (Y.mv rfl) ?_
  refine J.p rfl rfl rfl rfl (Y.bin rfl rfl rfl) ?_
  refine J.nx ?_
  refine split2 H (fun c8 H => ?_) (fun c8 H => ?_)
  · refine C.condT (congrArg (fun b => some (Value.bool b)) (decide_eq_true c8)) ?_
    refine C.rs ?_
    refine J.p rfl rfl rfl rfl (Y.mv rfl) ?_
    refine J.p rfl rfl rfl rfl (Y.mv rfl) ?_
    obtain ⟨p11, H⟩ := gd_some H
    refine J.appL (enc := (Value.int .u8)) (xs := t1.1) (ys := a2) rfl Try.underlying22 ti5 rfl (by decide) rfl rfl (fun _ => rfl) (ha2.suf [_] rfl) p11 (fun A9 c10 => ?_)
    refine J.p rfl rfl rfl rfl (Y.asg rfl) ?_
    refine J.nx ?_
    refine C.rs ?_
    refine J.p rfl rfl rfl rfl (Y.mv rfl) ?_
    refine J.p rfl rfl rfl rfl (Y.mv rfl) ?_
    refine J.know (own_leL 0 rfl) (fun hc13 => ?_)
    obtain ⟨t14, hC15, H⟩ := bind_some H
    refine J.call (us := []) (cap := []) rfl rfl rfl go28 (fun w hw => by have hcc := Number.calls K (t1.1 ++ a2) a1 A9 c10 (RdG.own 0 rfl) hc13 t14 hC15 w hw; exact hcc) (fun e w1 h1 => ?_)
    obtain ⟨rfl, hw56⟩ := h1
    refine ⟨_, _, rfl, hw56, ?_⟩
    refine J.p rfl rfl rfl rfl (Y.mv rfl) ?_
    refine J.p rfl rfl rfl rfl (Y.ext rfl rfl) ?_
    refine J.p rfl rfl rfl rfl (Y.ext rfl rfl) ?_
    refine J.p rfl rfl rfl rfl (Y.asg rfl) ?_
    refine J.p rfl rfl rfl rfl (Y.asg rfl) ?_
    refine J.nx ?_
    refine C.rs ?_
    refine J.joinB H (fun (o18 : Bool) (j19 : Unit) => [(1, .int .i64 a1), (2, .slice Aa2 a2.length ca2), (9, .bool t6), (49, .bool o18)]) (fun (o18 : Bool) (j19 : Unit) => G) (fun (o18 : Bool) (j19 : Unit) => True) (fun o20 H HK21 => ?_) (fun o18 j19 H _ => ?_)
    · refine J.p rfl rfl rfl rfl (Y.mv rfl) ?_
      refine J.p rfl rfl rfl rfl (Y.bin rfl rfl rfl) ?_
      refine J.p rfl rfl rfl rfl (Y.mv rfl) ?_
      refine split2 H (fun c22 H => ?_) (fun c22 H => ?_)
      · refine J.as (k := 36) rfl (congrArg Value.bool (decide_eq_true c22)) ?_
        refine J.skip rfl rfl ?_
        refine J.skip rfl rfl ?_
        refine J.skip rfl rfl ?_
        refine J.p rfl rfl rfl rfl (Y.pickT rfl rfl) ?_
        refine J.p rfl rfl rfl rfl (Y.mv rfl) ?_
        refine J.skip rfl rfl ?_
        refine J.skip rfl rfl ?_
        refine J.skip rfl rfl ?_
        refine J.skip rfl rfl ?_
        refine J.skip rfl rfl ?_
        refine J.skip rfl rfl ?_
        refine J.skip rfl rfl ?_
        refine J.p rfl rfl rfl rfl (Y.pickT rfl rfl) ?_
        refine J.nil ?_
        obtain rfl := Option.some.inj H
        exact N.meet (true, ()) ⟨HK21, trivial⟩ (by exact ⟨rfl, rfl, rfl, rfl, trivial⟩) (by exact fun w h => (St.pick [] [_] h rfl))
      · refine J.as (k := 36) rfl (congrArg Value.bool (decide_eq_false c22)) ?_
        refine J.p rfl rfl rfl rfl (Y.mv rfl) ?_
        refine J.p rfl rfl rfl rfl (Y.mv rfl) ?_
        refine J.p rfl rfl rfl rfl (Y.bin rfl rfl rfl) ?_
        refine J.p rfl rfl rfl rfl (Y.pickF rfl rfl) ?_
        refine J.p rfl rfl rfl rfl (Y.mv rfl) ?_
        refine split2 H (fun c23 H => ?_) (fun c23 H => ?_)
        · refine J.as (k := 41) rfl (congrArg Value.bool (decide_eq_true c23)) ?_
          refine J.skip rfl rfl ?_
          refine J.skip rfl rfl ?_
          refine J.skip rfl rfl ?_
          refine J.skip rfl rfl ?_
          refine J.skip rfl rfl ?_
          refine J.skip rfl rfl ?_
          refine J.skip rfl rfl ?_
          refine J.p rfl rfl rfl rfl (Y.pickT rfl rfl) ?_
          refine J.nil ?_
          obtain rfl := Option.some.inj H
          exact N.meet (true, ()) ⟨HK21, trivial⟩ (by exact ⟨rfl, rfl, rfl, rfl, trivial⟩) (by exact fun w h => (St.pick [] [_] h rfl))
        · refine J.as (k := 41) rfl (congrArg Value.bool (decide_eq_false c23)) ?_
          refine J.p rfl rfl rfl rfl (Y.mv rfl) ?_
          refine J.p rfl rfl rfl rfl (Y.lenS Try.underlying22 rfl) ?_
          refine J.p rfl rfl rfl rfl (Y.mv rfl) ?_
          refine J.p rfl rfl rfl rfl (Y.mv rfl) ?_
          refine J.p rfl rfl rfl rfl (Y.lenS Try.underlying22 rfl) ?_
          refine J.p rfl rfl rfl rfl (Y.bin rfl rfl rfl) ?_
          refine J.p rfl rfl rfl rfl (Y.bin rfl rfl rfl) ?_
          refine J.p rfl rfl rfl rfl (Y.pickF rfl rfl) ?_
          refine J.nil ?_
          obtain rfl := Option.some.inj H
          exact N.meet (decide (((t1.1 ++ a2).length : Int) ≠ (IntKind.wrap .i64 (a1 + (a2.length : Int)))), ()) ⟨HK21, trivial⟩ (by exact ⟨rfl, rfl, rfl, rfl, trivial⟩) (by exact fun w h => (St.pick [] [_] h rfl))
    · refine C.at (s' := [(1, .int .i64 a1), (2, .slice Aa2 a2.length ca2), (9, .bool t6), (49, .bool o18)]) (G' := G) rfl rfl ?_
      refine split2 H (fun c24 H => ?_) (fun c24 H => ?_)
      · refine C.condT (congrArg (fun b => some (Value.bool b)) (c24)) ?_
        refine C.rs ?_
        refine J.p rfl rfl rfl rfl (Y.asg rfl) ?_
        refine J.nx ?_
        refine C.ret ?_
        obtain rfl := Option.some.inj H
        refine T.th ?_
        exact ret_ok (ks := [6]) rfl rfl (fun w h => ⟨rfl, h⟩)
      · refine C.condF (congrArg (fun b => some (Value.bool b)) (nt c24)) ?_
        refine C.skip ?_
        refine N.nx ?_
        refine C.rs ?_
        refine J.p rfl rfl rfl rfl (Y.mv rfl) ?_
        refine J.p rfl rfl rfl rfl (Y.mv rfl) ?_
        obtain ⟨t25, hC26, H⟩ := bind_some H
        refine J.call (us := []) (cap := []) rfl rfl rfl go28 (fun w hw => by have hcc := Number.calls K a2 a1 Aa2 ca2 ha2 ka2 t25 hC26 w hw; exact hcc) (fun e w1 h1 => ?_)
        obtain ⟨rfl, hw55⟩ := h1
        refine ⟨_, _, rfl, hw55, ?_⟩
        refine J.p rfl rfl rfl rfl (Y.mv rfl) ?_
        refine J.p rfl rfl rfl rfl (Y.ext rfl rfl) ?_
        refine J.p rfl rfl rfl rfl (Y.ext rfl rfl) ?_
        refine J.p rfl rfl rfl rfl (Y.asg rfl) ?_
        refine J.p rfl rfl rfl rfl (Y.asg rfl) ?_
        refine J.nx ?_
        refine C.seq ?_
        refine C.rs ?_
        refine J.p rfl rfl rfl rfl (Y.mv rfl) ?_
        refine J.p rfl rfl rfl rfl (Y.bin rfl rfl rfl) ?_
        refine J.nx ?_
        refine split2 H (fun c27 H => ?_) (fun c27 H => ?_)
        · refine C.condT (congrArg (fun b => some (Value.bool b)) (decide_eq_true c27)) ?_
          refine C.rs ?_
          refine J.p rfl rfl rfl rfl (Y.mv rfl) ?_
          refine J.p rfl rfl rfl rfl (Y.mv rfl) ?_
          obtain ⟨t28, hC29, H⟩ := bind_some H
          refine J.call (us := []) (cap := []) rfl rfl rfl go22 (fun w hw => by have hcc := Digits.calls K t25.1 a1 t28 hC29 w hw; exact hcc) (fun e w1 h1 => ?_)
          obtain ⟨A30, c31, rfl, hw54⟩ := h1
          refine ⟨_, _, rfl, hw54, ?_⟩
          refine J.p rfl rfl rfl rfl (Y.mv rfl) ?_
          refine J.p rfl rfl rfl rfl (Y.ext rfl rfl) ?_
          refine J.p rfl rfl rfl rfl (Y.ext rfl rfl) ?_
          refine J.p rfl rfl rfl rfl (Y.asg rfl) ?_
          refine J.p rfl rfl rfl rfl (Y.asg rfl) ?_
          refine J.nx ?_
          refine C.rs ?_
          refine J.joinB H (fun (o41 : Bool) (j42 : Unit) => [(9, .bool t6), (86, .bool o41)]) (fun (o41 : Bool) (j42 : Unit) => G) (fun (o41 : Bool) (j42 : Unit) => True) (fun o43 H HK44 => ?_) (fun o41 j42 H _ => ?_)
          · refine J.p rfl rfl rfl rfl (Y.mv rfl) ?_
            refine J.p rfl rfl rfl rfl (Y.bin rfl rfl rfl) ?_
            refine J.p rfl rfl rfl rfl (Y.mv rfl) ?_
            refine split2 H (fun c45 H => ?_) (fun c45 H => ?_)
            · refine J.as (k := 66) rfl (congrArg Value.bool (decide_eq_true c45)) ?_
              refine J.skip rfl rfl ?_
              refine J.skip rfl rfl ?_
              refine J.skip rfl rfl ?_
              refine J.skip rfl rfl ?_
              refine J.p rfl rfl rfl rfl (Y.pickT rfl rfl) ?_
              refine J.p rfl rfl rfl rfl (Y.mv rfl) ?_
              refine J.skip rfl rfl ?_
              refine J.skip rfl rfl ?_
              refine J.skip rfl rfl ?_
              refine J.skip rfl rfl ?_
              refine J.skip rfl rfl ?_
              refine J.p rfl rfl rfl rfl (Y.pickT rfl rfl) ?_
              refine J.p rfl rfl rfl rfl (Y.mv rfl) ?_
              refine J.skip rfl rfl ?_
              refine J.skip rfl rfl ?_
              refine J.skip rfl rfl ?_
              refine J.skip rfl rfl ?_
              refine J.skip rfl rfl ?_
              refine J.skip rfl rfl ?_
              refine J.p rfl rfl rfl rfl (Y.pickT rfl rfl) ?_
              refine J.nil ?_
              obtain rfl := Option.some.inj H
              exact N.meet (true, ()) ⟨HK44, trivial⟩ (by exact ⟨rfl, rfl, trivial⟩) (by exact fun w h => (St.pick [] [_] h rfl))
            · refine J.as (k := 66) rfl (congrArg Value.bool (decide_eq_false c45)) ?_
              refine J.p rfl rfl rfl rfl (Y.mv rfl) ?_
              refine J.p rfl rfl rfl rfl (Y.lenS Try.underlying22 rfl) ?_
              refine J.p rfl rfl rfl rfl (Y.mv rfl) ?_
              refine J.p rfl rfl rfl rfl (Y.bin rfl rfl rfl) ?_
              refine J.p rfl rfl rfl rfl (Y.pickF rfl rfl) ?_
              refine J.p rfl rfl rfl rfl (Y.mv rfl) ?_
              refine split2 H (fun c46 H => ?_) (fun c46 H => ?_)
              · refine J.as (k := 72) rfl (congrArg Value.bool (decide_eq_true c46)) ?_
                refine J.skip rfl rfl ?_
                refine J.skip rfl rfl ?_
                refine J.skip rfl rfl ?_
                refine J.skip rfl rfl ?_
                refine J.skip rfl rfl ?_
                refine J.p rfl rfl rfl rfl (Y.pickT rfl rfl) ?_
                refine J.p rfl rfl rfl rfl (Y.mv rfl) ?_
                refine J.skip rfl rfl ?_
                refine J.skip rfl rfl ?_
                refine J.skip rfl rfl ?_
                refine J.skip rfl rfl ?_
                refine J.skip rfl rfl ?_
                refine J.skip rfl rfl ?_
                refine J.p rfl rfl rfl rfl (Y.pickT rfl rfl) ?_
                refine J.nil ?_
                obtain rfl := Option.some.inj H
                exact N.meet (true, ()) ⟨HK44, trivial⟩ (by exact ⟨rfl, rfl, trivial⟩) (by exact fun w h => (St.pick [] [_] h rfl))
              · refine J.as (k := 72) rfl (congrArg Value.bool (decide_eq_false c46)) ?_
                refine J.p rfl rfl rfl rfl (Y.mv rfl) ?_
                refine J.p rfl rfl rfl rfl (Y.lenS Try.underlying22 rfl) ?_
                refine J.p rfl rfl rfl rfl (Y.mv rfl) ?_
                refine J.p rfl rfl rfl rfl (Y.lenS Try.underlying22 rfl) ?_
                refine J.p rfl rfl rfl rfl (Y.bin rfl rfl rfl) ?_
                refine J.p rfl rfl rfl rfl (Y.pickF rfl rfl) ?_
                refine J.p rfl rfl rfl rfl (Y.mv rfl) ?_
                refine split2 H (fun c47 H => ?_) (fun c47 H => ?_)
                · refine J.as (k := 79) rfl (congrArg Value.bool (decide_eq_true c47)) ?_
                  refine J.skip rfl rfl ?_
                  refine J.skip rfl rfl ?_
                  refine J.skip rfl rfl ?_
                  refine J.skip rfl rfl ?_
                  refine J.skip rfl rfl ?_
                  refine J.skip rfl rfl ?_
                  refine J.p rfl rfl rfl rfl (Y.pickT rfl rfl) ?_
                  refine J.nil ?_
                  obtain rfl := Option.some.inj H
                  exact N.meet (true, ()) ⟨HK44, trivial⟩ (by exact ⟨rfl, rfl, trivial⟩) (by exact fun w h => (St.pick [] [_] h rfl))
                · refine J.as (k := 79) rfl (congrArg Value.bool (decide_eq_false c47)) ?_
                  refine J.p rfl rfl rfl rfl (Y.mv rfl) ?_
                  refine J.p rfl rfl rfl rfl (Y.mv rfl) ?_
                  refine J.p rfl rfl rfl rfl (Y.mv rfl) ?_
                  obtain ⟨p48, H⟩ := gd_some H
                  refine J.p rfl rfl rfl rfl (Y.slcL Try.underlying22 ti5 rfl bnd.no (bnd.yes rfl p48.1) p48.2 ka2) ?_
                  refine J.want rfl ?_
                  refine J.know (own_leL 0 rfl) (fun hc49 => ?_)
                  obtain ⟨t50, hC51, H⟩ := bind_some H
                  refine J.call (us := []) (cap := []) rfl rfl rfl go21 (fun w hw => by have hcc := same.calls K t28.1 ((a2.take (Int.toNat a1)).drop 0) A30 c31 (subA 1 Aa2 ca2 0) (ca2 - 0) (RdG.own 0 rfl) hc49 (RdG.subL (l := 0) (h := (Int.toNat a1)) (ha2.suf [_] rfl) ka2) (hc_sub ka2) t50 hC51 w hw; exact hcc) (fun e w1 h1 => ?_)
                  obtain ⟨rfl, hw52⟩ := h1
                  refine ⟨_, _, rfl, hw52, ?_⟩
                  refine J.p rfl rfl rfl rfl (Y.notb rfl) ?_
                  refine J.p rfl rfl rfl rfl (Y.pickF rfl rfl) ?_
                  refine J.nil ?_
                  obtain rfl := Option.some.inj H
                  exact N.meet (!t50, ()) ⟨HK44, trivial⟩ (by exact ⟨rfl, rfl, trivial⟩) (by exact fun w h => (St.pick [] [_] h rfl))
          · refine C.at (s' := [(9, .bool t6), (86, .bool o41)]) (G' := G) rfl rfl ?_
            refine split2 H (fun c53 H => ?_) (fun c53 H => ?_)
            · refine C.condT (congrArg (fun b => some (Value.bool b)) (c53)) ?_
              refine C.rs ?_
              refine J.p rfl rfl rfl rfl (Y.asg rfl) ?_
              refine J.nx ?_
              refine C.ret ?_
              obtain rfl := Option.some.inj H
              refine T.th ?_
              exact ret_ok (ks := [6]) rfl rfl (fun w h => ⟨rfl, h⟩)
            · refine C.condF (congrArg (fun b => some (Value.bool b)) (nt c53)) ?_
              refine C.skip ?_
              refine N.nx ?_
              refine C.rs ?_
              refine J.p rfl rfl rfl rfl (Y.mv rfl) ?_
              refine J.p rfl rfl rfl rfl (Y.asg rfl) ?_
              refine J.nx ?_
              refine C.ret ?_
              obtain rfl := Option.some.inj H
              exact ret_ok (ks := [6]) rfl rfl (fun w h => ⟨rfl, h⟩)
        · refine C.condF (congrArg (fun b => some (Value.bool b)) (decide_eq_false c27)) ?_
          refine C.skip ?_
          refine N.nx ?_
          refine C.rs ?_
          refine J.p rfl rfl rfl rfl (Y.mv rfl) ?_
          refine J.p rfl rfl rfl rfl (Y.asg rfl) ?_
          refine J.nx ?_
          refine C.ret ?_
          obtain rfl := Option.some.inj H
          exact ret_ok (ks := [6]) rfl rfl (fun w h => ⟨rfl, h⟩)
  · refine C.condF (congrArg (fun b => some (Value.bool b)) (decide_eq_false c8)) ?_
    refine C.skip ?_
    refine N.nx ?_
    refine C.rs ?_
    refine J.p rfl rfl rfl rfl (Y.mv rfl) ?_
    refine J.p rfl rfl rfl rfl (Y.mv rfl) ?_
    obtain ⟨t57, hC58, H⟩ := bind_some H
    refine J.call (us := []) (cap := []) rfl rfl rfl go28 (fun w hw => by have hcc := Number.calls K a2 a1 Aa2 ca2 (ha2.suf [_] rfl) ka2 t57 hC58 w hw; exact hcc) (fun e w1 h1 => ?_)
    obtain ⟨rfl, hw87⟩ := h1
    refine ⟨_, _, rfl, hw87, ?_⟩
    refine J.p rfl rfl rfl rfl (Y.mv rfl) ?_
    refine J.p rfl rfl rfl rfl (Y.ext rfl rfl) ?_
    refine J.p rfl rfl rfl rfl (Y.ext rfl rfl) ?_
    refine J.p rfl rfl rfl rfl (Y.asg rfl) ?_
    refine J.p rfl rfl rfl rfl (Y.asg rfl) ?_
    refine J.nx ?_
    refine C.seq ?_
    refine C.rs ?_
    refine J.p rfl rfl rfl rfl (Y.mv rfl) ?_
    refine J.p rfl rfl rfl rfl (Y.bin rfl rfl rfl) ?_
    refine J.nx ?_
    refine split2 H (fun c59 H => ?_) (fun c59 H => ?_)
    · refine C.condT (congrArg (fun b => some (Value.bool b)) (decide_eq_true c59)) ?_
      refine C.rs ?_
      refine J.p rfl rfl rfl rfl (Y.mv rfl) ?_
      refine J.p rfl rfl rfl rfl (Y.mv rfl) ?_
      obtain ⟨t60, hC61, H⟩ := bind_some H
      refine J.call (us := []) (cap := []) rfl rfl rfl go22 (fun w hw => by have hcc := Digits.calls K t57.1 a1 t60 hC61 w hw; exact hcc) (fun e w1 h1 => ?_)
      obtain ⟨A62, c63, rfl, hw86⟩ := h1
      refine ⟨_, _, rfl, hw86, ?_⟩
      refine J.p rfl rfl rfl rfl (Y.mv rfl) ?_
      refine J.p rfl rfl rfl rfl (Y.ext rfl rfl) ?_
      refine J.p rfl rfl rfl rfl (Y.ext rfl rfl) ?_
      refine J.p rfl rfl rfl rfl (Y.asg rfl) ?_
      refine J.p rfl rfl rfl rfl (Y.asg rfl) ?_
      refine J.nx ?_
      refine C.rs ?_
      refine J.joinB H (fun (o73 : Bool) (j74 : Unit) => [(9, .bool t6), (86, .bool o73)]) (fun (o73 : Bool) (j74 : Unit) => G) (fun (o73 : Bool) (j74 : Unit) => True) (fun o75 H HK76 => ?_) (fun o73 j74 H _ => ?_)
      · refine J.p rfl rfl rfl rfl (Y.mv rfl) ?_
        refine J.p rfl rfl rfl rfl (Y.bin rfl rfl rfl) ?_
        refine J.p rfl rfl rfl rfl (Y.mv rfl) ?_
        refine split2 H (fun c77 H => ?_) (fun c77 H => ?_)
        · refine J.as (k := 66) rfl (congrArg Value.bool (decide_eq_true c77)) ?_
          refine J.skip rfl rfl ?_
          refine J.skip rfl rfl ?_
          refine J.skip rfl rfl ?_
          refine J.skip rfl rfl ?_
          refine J.p rfl rfl rfl rfl (Y.pickT rfl rfl) ?_
          refine J.p rfl rfl rfl rfl (Y.mv rfl) ?_
          refine J.skip rfl rfl ?_
          refine J.skip rfl rfl ?_
          refine J.skip rfl rfl ?_
          refine J.skip rfl rfl ?_
          refine J.skip rfl rfl ?_
          refine J.p rfl rfl rfl rfl (Y.pickT rfl rfl) ?_
          refine J.p rfl rfl rfl rfl (Y.mv rfl) ?_
          refine J.skip rfl rfl ?_
          refine J.skip rfl rfl ?_
          refine J.skip rfl rfl ?_
          refine J.skip rfl rfl ?_
          refine J.skip rfl rfl ?_
          refine J.skip rfl rfl ?_
          refine J.p rfl rfl rfl rfl (Y.pickT rfl rfl) ?_
          refine J.nil ?_
          obtain rfl := Option.some.inj H
          exact N.meet (true, ()) ⟨HK76, trivial⟩ (by exact ⟨rfl, rfl, trivial⟩) (by exact fun w h => (St.pick [] [_, _] h rfl))
        · refine J.as (k := 66) rfl (congrArg Value.bool (decide_eq_false c77)) ?_
          refine J.p rfl rfl rfl rfl (Y.mv rfl) ?_
          refine J.p rfl rfl rfl rfl (Y.lenS Try.underlying22 rfl) ?_
          refine J.p rfl rfl rfl rfl (Y.mv rfl) ?_
          refine J.p rfl rfl rfl rfl (Y.bin rfl rfl rfl) ?_
          refine J.p rfl rfl rfl rfl (Y.pickF rfl rfl) ?_
          refine J.p rfl rfl rfl rfl (Y.mv rfl) ?_
          refine split2 H (fun c78 H => ?_) (fun c78 H => ?_)
          · refine J.as (k := 72) rfl (congrArg Value.bool (decide_eq_true c78)) ?_
            refine J.skip rfl rfl ?_
            refine J.skip rfl rfl ?_
            refine J.skip rfl rfl ?_
            refine J.skip rfl rfl ?_
            refine J.skip rfl rfl ?_
            refine J.p rfl rfl rfl rfl (Y.pickT rfl rfl) ?_
            refine J.p rfl rfl rfl rfl (Y.mv rfl) ?_
            refine J.skip rfl rfl ?_
            refine J.skip rfl rfl ?_
            refine J.skip rfl rfl ?_
            refine J.skip rfl rfl ?_
            refine J.skip rfl rfl ?_
            refine J.skip rfl rfl ?_
            refine J.p rfl rfl rfl rfl (Y.pickT rfl rfl) ?_
            refine J.nil ?_
            obtain rfl := Option.some.inj H
            exact N.meet (true, ()) ⟨HK76, trivial⟩ (by exact ⟨rfl, rfl, trivial⟩) (by exact fun w h => (St.pick [] [_, _] h rfl))
          · refine J.as (k := 72) rfl (congrArg Value.bool (decide_eq_false c78)) ?_
            refine J.p rfl rfl rfl rfl (Y.mv rfl) ?_
            refine J.p rfl rfl rfl rfl (Y.lenS Try.underlying22 rfl) ?_
            refine J.p rfl rfl rfl rfl (Y.mv rfl) ?_
            refine J.p rfl rfl rfl rfl (Y.lenS Try.underlying22 rfl) ?_
            refine J.p rfl rfl rfl rfl (Y.bin rfl rfl rfl) ?_
            refine J.p rfl rfl rfl rfl (Y.pickF rfl rfl) ?_
            refine J.p rfl rfl rfl rfl (Y.mv rfl) ?_
            refine split2 H (fun c79 H => ?_) (fun c79 H => ?_)
            · refine J.as (k := 79) rfl (congrArg Value.bool (decide_eq_true c79)) ?_
              refine J.skip rfl rfl ?_
              refine J.skip rfl rfl ?_
              refine J.skip rfl rfl ?_
              refine J.skip rfl rfl ?_
              refine J.skip rfl rfl ?_
              refine J.skip rfl rfl ?_
              refine J.p rfl rfl rfl rfl (Y.pickT rfl rfl) ?_
              refine J.nil ?_
              obtain rfl := Option.some.inj H
              exact N.meet (true, ()) ⟨HK76, trivial⟩ (by exact ⟨rfl, rfl, trivial⟩) (by exact fun w h => (St.pick [] [_, _] h rfl))
            · refine J.as (k := 79) rfl (congrArg Value.bool (decide_eq_false c79)) ?_
              refine J.p rfl rfl rfl rfl (Y.mv rfl) ?_
              refine J.p rfl rfl rfl rfl (Y.mv rfl) ?_
              refine J.p rfl rfl rfl rfl (Y.mv rfl) ?_
              obtain ⟨p80, H⟩ := gd_some H
              refine J.p rfl rfl rfl rfl (Y.slcL Try.underlying22 ti5 rfl bnd.no (bnd.yes rfl p80.1) p80.2 ka2) ?_
              refine J.want rfl ?_
              refine J.know (own_leL 0 rfl) (fun hc81 => ?_)
              obtain ⟨t82, hC83, H⟩ := bind_some H
              refine J.call (us := []) (cap := []) rfl rfl rfl go21 (fun w hw => by have hcc := same.calls K t60.1 ((a2.take (Int.toNat a1)).drop 0) A62 c63 (subA 1 Aa2 ca2 0) (ca2 - 0) (RdG.own 0 rfl) hc81 (RdG.subL (l := 0) (h := (Int.toNat a1)) (ha2.suf [_, _] rfl) ka2) (hc_sub ka2) t82 hC83 w hw; exact hcc) (fun e w1 h1 => ?_)
              obtain ⟨rfl, hw84⟩ := h1
              refine ⟨_, _, rfl, hw84, ?_⟩
              refine J.p rfl rfl rfl rfl (Y.notb rfl) ?_
              refine J.p rfl rfl rfl rfl (Y.pickF rfl rfl) ?_
              refine J.nil ?_
              obtain rfl := Option.some.inj H
              exact N.meet (!t82, ()) ⟨HK76, trivial⟩ (by exact ⟨rfl, rfl, trivial⟩) (by exact fun w h => (St.pick [] [_, _] h rfl))
      · refine C.at (s' := [(9, .bool t6), (86, .bool o73)]) (G' := G) rfl rfl ?_
        refine split2 H (fun c85 H => ?_) (fun c85 H => ?_)
        · refine C.condT (congrArg (fun b => some (Value.bool b)) (c85)) ?_
          refine C.rs ?_
          refine J.p rfl rfl rfl rfl (Y.asg rfl) ?_
          refine J.nx ?_
          refine C.ret ?_
          obtain rfl := Option.some.inj H
          refine T.th ?_
          exact ret_ok (ks := [6]) rfl rfl (fun w h => ⟨rfl, h⟩)
        · refine C.condF (congrArg (fun b => some (Value.bool b)) (nt c85)) ?_
          refine C.skip ?_
          refine N.nx ?_
          refine C.rs ?_
          refine J.p rfl rfl rfl rfl (Y.mv rfl) ?_
          refine J.p rfl rfl rfl rfl (Y.asg rfl) ?_
          refine J.nx ?_
          refine C.ret ?_
          obtain rfl := Option.some.inj H
          exact ret_ok (ks := [6]) rfl rfl (fun w h => ⟨rfl, h⟩)
    · refine C.condF (congrArg (fun b => some (Value.bool b)) (decide_eq_false c59)) ?_
      refine C.skip ?_
      refine N.nx ?_
      refine C.rs ?_
      refine J.p rfl rfl rfl rfl (Y.mv rfl) ?_
      refine J.p rfl rfl rfl rfl (Y.asg rfl) ?_
      refine J.nx ?_
      refine C.ret ?_
      obtain rfl := Option.some.inj H
      exact ret_ok (ks := [6]) rfl rfl (fun w h => ⟨rfl, (St.pick [] [_] h rfl)⟩)
/-! ### salvor/salvorlaw2.VintDecode: function 3 -/
def VintDecode.f (K : Nat) (a0 : List Int) : Option (Bool) := (lent.f K a0).bind fun t1 => (Decode.f K ([] : List Int)).bind fun t6 => (Decode.f K t1.1).bind fun t9 => (refDecode.f K a0).bind fun t11 => (kept.f K t1.1 t1.2 a0).bind fun t14 => (turned.f K t1.1 t1.2).bind fun t16 => (Decode.f K t16).bind fun t20 => (refDecode.f K t16).bind fun t23 => (if t14 = true then (if t20.1 = t23.1 then (if t20.2.1 = t23.2.1 then (some (decide (t20.2.2 = t23.2.2))) else (some false)) else (some false)) else (some false)).bind fun o28 => if t9.1 = t11.1 then (if t9.2.1 = t11.2.1 then (if t9.2.2 = t11.2.2 then (if o28 = true then (if t6.1 = 0 then (if t6.2.1 = 0 then (if t6.2.2 = 21 then ((works.f K).bind fun t42 => some t42) else (some false)) else (some false)) else (some false)) else (some false)) else (some false)) else (some false)) else (some false)
theorem VintDecode.calls {B : Nat} {w0 : World} {G : List HP} (K : Nat) (a0 : List Int) (Aa0 : Option Addr) (ca0 : Nat) (ha0 : RdG B w0 G Aa0 (a0.map (Value.int .u8))) (ka0 : a0.length ≤ ca0) (r : Bool) (H : VintDecode.f K a0 = some r) (w : World) (hw : St B w0 (G) w) :
    Calls Try.prog 3 [.slice Aa0 a0.length ca0].toArray w (fun e w' => e = .returned (.bool r) ∧ St B w0 (G) w') := by
  unfold VintDecode.f at H
  refine calls_of (n := 103) (s := [(0, .slice Aa0 a0.length ca0)]) Try.func3 rfl rfl rfl rfl ?_ hw
  refine C.rs ?_
  refine J.p rfl rfl rfl rfl (Y.asg rfl) ?_
  refine J.nx ?_
  refine C.rs ?_
  refine J.p rfl rfl rfl rfl (Y.mv rfl) ?_
  obtain ⟨t1, hC2, H⟩ := bind_some H
  refine J.call (us := []) (cap := []) rfl rfl rfl go14 (fun w hw => by have hcc := lent.calls K a0 Aa0 ca0 ha0 ka0 t1 hC2 w hw; exact hcc) (fun e w1 h1 => ?_)
  obtain ⟨A3, c4, rfl, hw52⟩ := h1
  refine ⟨_, _, rfl, hw52, ?_⟩
  refine J.p rfl rfl rfl rfl (Y.asg rfl) ?_
  refine J.nx ?_
  refine C.rs ?_
  obtain ⟨t6, hC7, H⟩ := bind_some H
  refine J.call (us := []) (cap := []) rfl rfl rfl go15 (fun w hw => by have hcc := Decode.calls K ([] : List Int) none 0 RdG.none_ (Nat.le_refl 0) t6 hC7 w hw; exact hcc) (fun e w1 h1 => ?_)
  obtain ⟨rfl, hw51⟩ := h1
  refine ⟨_, _, rfl, hw51, ?_⟩
  refine J.p rfl rfl rfl rfl (Y.mv rfl) ?_
  refine J.p rfl rfl rfl rfl (Y.ext rfl rfl) ?_
  refine J.p rfl rfl rfl rfl (Y.ext rfl rfl) ?_
  refine J.p rfl rfl rfl rfl (Y.ext rfl rfl) ?_
  refine J.p rfl rfl rfl rfl (Y.asg rfl) ?_
  refine J.p rfl rfl rfl rfl (Y.asg rfl) ?_
  refine J.p rfl rfl rfl rfl (Y.asg rfl) ?_
  refine J.nx ?_
  refine C.rs ?_
  refine J.p rfl rfl rfl rfl (Y.mv rfl) ?_
  refine J.know (own_leL 0 rfl) (fun hc8 => ?_)
  obtain ⟨t9, hC10, H⟩ := bind_some H
  refine J.call (us := []) (cap := []) rfl rfl rfl go15 (fun w hw => by have hcc := Decode.calls K t1.1 A3 c4 (RdG.pre (RdG.own 0 rfl)) (len_pre hc8) t9 hC10 w hw; exact hcc) (fun e w1 h1 => ?_)
  obtain ⟨rfl, hw50⟩ := h1
  refine ⟨_, _, rfl, hw50, ?_⟩
  refine J.p rfl rfl rfl rfl (Y.mv rfl) ?_
  refine J.p rfl rfl rfl rfl (Y.ext rfl rfl) ?_
  refine J.p rfl rfl rfl rfl (Y.ext rfl rfl) ?_
  refine J.p rfl rfl rfl rfl (Y.ext rfl rfl) ?_
  refine J.p rfl rfl rfl rfl (Y.asg rfl) ?_
  refine J.p rfl rfl rfl rfl (Y.asg rfl) ?_
  refine J.p rfl rfl rfl rfl (Y.asg rfl) ?_
  refine J.nx ?_
  refine C.rs ?_
  refine J.p rfl rfl rfl rfl (Y.mv rfl) ?_
  obtain ⟨t11, hC12, H⟩ := bind_some H
  refine J.call (us := []) (cap := []) rfl rfl rfl go16 (fun w hw => by have hcc := refDecode.calls K a0 Aa0 ca0 (ha0.suf [_] rfl) ka0 t11 hC12 w hw; exact hcc) (fun e w1 h1 => ?_)
  obtain ⟨rfl, hw49⟩ := h1
  refine ⟨_, _, rfl, hw49, ?_⟩
  refine J.p rfl rfl rfl rfl (Y.mv rfl) ?_
  refine J.p rfl rfl rfl rfl (Y.ext rfl rfl) ?_
  refine J.p rfl rfl rfl rfl (Y.ext rfl rfl) ?_
  refine J.p rfl rfl rfl rfl (Y.ext rfl rfl) ?_
  refine J.p rfl rfl rfl rfl (Y.asg rfl) ?_
  refine J.p rfl rfl rfl rfl (Y.asg rfl) ?_
  refine J.p rfl rfl rfl rfl (Y.asg rfl) ?_
  refine J.nx ?_
  refine C.rs ?_
  refine J.p rfl rfl rfl rfl (Y.mv rfl) ?_
  refine J.p rfl rfl rfl rfl (Y.mv rfl) ?_
  refine J.know (own_leL 0 rfl) (fun hc13 => ?_)
  obtain ⟨t14, hC15, H⟩ := bind_some H
  refine J.call (us := []) (cap := []) rfl rfl rfl go17 (fun w hw => by have hcc := kept.calls K t1.1 t1.2 a0 A3 c4 Aa0 ca0 (RdG.own 0 rfl) hc13 (ha0.suf [_] rfl) ka0 t14 hC15 w hw; exact hcc) (fun e w1 h1 => ?_)
  obtain ⟨rfl, hw48⟩ := h1
  refine ⟨_, _, rfl, hw48, ?_⟩
  refine J.p rfl rfl rfl rfl (Y.asg rfl) ?_
  refine J.nx ?_
  refine C.rs ?_
  refine J.p rfl rfl rfl rfl (Y.mv rfl) ?_
  obtain ⟨t16, hC17, H⟩ := bind_some H
  refine J.call (us := []) (cap := []) rfl rfl rfl go18 (fun w hw => by have hcc := turned.calls K t1.1 t1.2 A3 c4 t16 hC17 w hw; exact hcc) (fun e w1 h1 => ?_)
  obtain ⟨rfl, hw47, hl18⟩ := h1
  refine ⟨_, _, rfl, hw47, ?_⟩
  refine J.as (k := 3) rfl (slc_len hl18) ?_
  refine J.nx ?_
  refine C.rs ?_
  refine J.p rfl rfl rfl rfl (Y.mv rfl) ?_
  refine J.know (own_leL 0 rfl) (fun hc19 => ?_)
  obtain ⟨t20, hC21, H⟩ := bind_some H
  refine J.call (us := []) (cap := []) rfl rfl rfl go15 (fun w hw => by have hcc := Decode.calls K t16 A3 c4 (RdG.pre (RdG.own 0 rfl)) (len_pre hc19) t20 hC21 w hw; exact hcc) (fun e w1 h1 => ?_)
  obtain ⟨rfl, hw46⟩ := h1
  refine ⟨_, _, rfl, hw46, ?_⟩
  refine J.p rfl rfl rfl rfl (Y.mv rfl) ?_
  refine J.p rfl rfl rfl rfl (Y.ext rfl rfl) ?_
  refine J.p rfl rfl rfl rfl (Y.ext rfl rfl) ?_
  refine J.p rfl rfl rfl rfl (Y.ext rfl rfl) ?_
  refine J.p rfl rfl rfl rfl (Y.asg rfl) ?_
  refine J.p rfl rfl rfl rfl (Y.asg rfl) ?_
  refine J.p rfl rfl rfl rfl (Y.asg rfl) ?_
  refine J.nx ?_
  refine C.rs ?_
  refine J.p rfl rfl rfl rfl (Y.mv rfl) ?_
  refine J.know (own_leL 0 rfl) (fun hc22 => ?_)
  obtain ⟨t23, hC24, H⟩ := bind_some H
  refine J.call (us := []) (cap := []) rfl rfl rfl go16 (fun w hw => by have hcc := refDecode.calls K t16 A3 c4 (RdG.pre (RdG.own 0 rfl)) (len_pre hc22) t23 hC24 w hw; exact hcc) (fun e w1 h1 => ?_)
  obtain ⟨rfl, hw45⟩ := h1
  refine ⟨_, _, rfl, hw45, ?_⟩
  refine J.p rfl rfl rfl rfl (Y.mv rfl) ?_
  refine J.p rfl rfl rfl rfl (Y.ext rfl rfl) ?_
  refine J.p rfl rfl rfl rfl (Y.ext rfl rfl) ?_
  refine J.p rfl rfl rfl rfl (Y.ext rfl rfl) ?_
  refine J.p rfl rfl rfl rfl (Y.asg rfl) ?_
  refine J.p rfl rfl rfl rfl (Y.asg rfl) ?_
  refine J.p rfl rfl rfl rfl (Y.asg rfl) ?_
  refine J.nx ?_
  refine C.rs ?_
  refine J.joinB H (fun (o28 : Bool) (j29 : Unit) => [(4, .int .u64 t6.1), (5, .int .i64 t6.2.1), (6, .int .i64 t6.2.2), (7, .int .u64 t9.1), (8, .int .i64 t9.2.1), (9, .int .i64 t9.2.2), (10, .int .u64 t11.1), (11, .int .i64 t11.2.1), (12, .int .i64 t11.2.2), (13, .bool o28)]) (fun (o28 : Bool) (j29 : Unit) => G) (fun (o28 : Bool) (j29 : Unit) => True) (fun o30 H HK31 => ?_) (fun o28 j29 H _ => ?_)
  · refine J.p rfl rfl rfl rfl (Y.mv rfl) ?_
    refine J.p rfl rfl rfl rfl (Y.mv rfl) ?_
    refine split2 H (fun c32 H => ?_) (fun c32 H => ?_)
    · refine J.as (k := 57) rfl (congrArg Value.bool (c32)) ?_
      refine J.p rfl rfl rfl rfl (Y.mv rfl) ?_
      refine J.p rfl rfl rfl rfl (Y.mv rfl) ?_
      refine J.p rfl rfl rfl rfl (Y.bin rfl rfl rfl) ?_
      refine J.p rfl rfl rfl rfl (Y.pickT rfl rfl) ?_
      refine J.p rfl rfl rfl rfl (Y.mv rfl) ?_
      refine split2 H (fun c33 H => ?_) (fun c33 H => ?_)
      · refine J.as (k := 62) rfl (congrArg Value.bool (decide_eq_true c33)) ?_
        refine J.p rfl rfl rfl rfl (Y.mv rfl) ?_
        refine J.p rfl rfl rfl rfl (Y.mv rfl) ?_
        refine J.p rfl rfl rfl rfl (Y.bin rfl rfl rfl) ?_
        refine J.p rfl rfl rfl rfl (Y.pickT rfl rfl) ?_
        refine J.p rfl rfl rfl rfl (Y.mv rfl) ?_
        refine split2 H (fun c34 H => ?_) (fun c34 H => ?_)
        · refine J.as (k := 67) rfl (congrArg Value.bool (decide_eq_true c34)) ?_
          refine J.p rfl rfl rfl rfl (Y.mv rfl) ?_
          refine J.p rfl rfl rfl rfl (Y.mv rfl) ?_
          refine J.p rfl rfl rfl rfl (Y.bin rfl rfl rfl) ?_
          refine J.p rfl rfl rfl rfl (Y.pickT rfl rfl) ?_
          refine J.p rfl rfl rfl rfl (Y.asg rfl) ?_
          refine J.nil ?_
          obtain rfl := Option.some.inj H
          exact N.meet (decide (t20.2.2 = t23.2.2), ()) ⟨HK31, trivial⟩ (by exact ⟨rfl, rfl, rfl, rfl, rfl, rfl, rfl, rfl, rfl, rfl, trivial⟩) (by exact fun w h => (St.pick [] [_] h rfl))
        · refine J.as (k := 67) rfl (congrArg Value.bool (decide_eq_false c34)) ?_
          refine J.skip rfl rfl ?_
          refine J.skip rfl rfl ?_
          refine J.skip rfl rfl ?_
          refine J.p rfl rfl rfl rfl (Y.pickF rfl rfl) ?_
          refine J.p rfl rfl rfl rfl (Y.asg rfl) ?_
          refine J.nil ?_
          obtain rfl := Option.some.inj H
          exact N.meet (false, ()) ⟨HK31, trivial⟩ (by exact ⟨rfl, rfl, rfl, rfl, rfl, rfl, rfl, rfl, rfl, rfl, trivial⟩) (by exact fun w h => (St.pick [] [_] h rfl))
      · refine J.as (k := 62) rfl (congrArg Value.bool (decide_eq_false c33)) ?_
        refine J.skip rfl rfl ?_
        refine J.skip rfl rfl ?_
        refine J.skip rfl rfl ?_
        refine J.p rfl rfl rfl rfl (Y.pickF rfl rfl) ?_
        refine J.p rfl rfl rfl rfl (Y.mv rfl) ?_
        refine J.skip rfl rfl ?_
        refine J.skip rfl rfl ?_
        refine J.skip rfl rfl ?_
        refine J.p rfl rfl rfl rfl (Y.pickF rfl rfl) ?_
        refine J.p rfl rfl rfl rfl (Y.asg rfl) ?_
        refine J.nil ?_
        obtain rfl := Option.some.inj H
        exact N.meet (false, ()) ⟨HK31, trivial⟩ (by exact ⟨rfl, rfl, rfl, rfl, rfl, rfl, rfl, rfl, rfl, rfl, trivial⟩) (by exact fun w h => (St.pick [] [_] h rfl))
    · refine J.as (k := 57) rfl (congrArg Value.bool (nt c32)) ?_
      refine J.skip rfl rfl ?_
      refine J.skip rfl rfl ?_
      refine J.skip rfl rfl ?_
      refine J.p rfl rfl rfl rfl (Y.pickF rfl rfl) ?_
      refine J.p rfl rfl rfl rfl (Y.mv rfl) ?_
      refine J.skip rfl rfl ?_
      refine J.skip rfl rfl ?_
      refine J.skip rfl rfl ?_
      refine J.p rfl rfl rfl rfl (Y.pickF rfl rfl) ?_
      refine J.p rfl rfl rfl rfl (Y.mv rfl) ?_
      refine J.skip rfl rfl ?_
      refine J.skip rfl rfl ?_
      refine J.skip rfl rfl ?_
      refine J.p rfl rfl rfl rfl (Y.pickF rfl rfl) ?_
      refine J.p rfl rfl rfl rfl (Y.asg rfl) ?_
      refine J.nil ?_
      obtain rfl := Option.some.inj H
      exact N.meet (false, ()) ⟨HK31, trivial⟩ (by exact ⟨rfl, rfl, rfl, rfl, rfl, rfl, rfl, rfl, rfl, rfl, trivial⟩) (by exact fun w h => (St.pick [] [_] h rfl))
  · refine C.at (s' := [(4, .int .u64 t6.1), (5, .int .i64 t6.2.1), (6, .int .i64 t6.2.2), (7, .int .u64 t9.1), (8, .int .i64 t9.2.1), (9, .int .i64 t9.2.2), (10, .int .u64 t11.1), (11, .int .i64 t11.2.1), (12, .int .i64 t11.2.2), (13, .bool o28)]) (G' := G) rfl rfl ?_
    refine C.rs ?_
    refine J.p rfl rfl rfl rfl (Y.mv rfl) ?_
    refine J.p rfl rfl rfl rfl (Y.mv rfl) ?_
    refine J.p rfl rfl rfl rfl (Y.bin rfl rfl rfl) ?_
    refine J.p rfl rfl rfl rfl (Y.mv rfl) ?_
    refine split2 H (fun c35 H => ?_) (fun c35 H => ?_)
    · refine J.as (k := 75) rfl (congrArg Value.bool (decide_eq_true c35)) ?_
      refine J.p rfl rfl rfl rfl (Y.mv rfl) ?_
      refine J.p rfl rfl rfl rfl (Y.mv rfl) ?_
      refine J.p rfl rfl rfl rfl (Y.bin rfl rfl rfl) ?_
      refine J.p rfl rfl rfl rfl (Y.pickT rfl rfl) ?_
      refine J.p rfl rfl rfl rfl (Y.mv rfl) ?_
      refine split2 H (fun c36 H => ?_) (fun c36 H => ?_)
      · refine J.as (k := 80) rfl (congrArg Value.bool (decide_eq_true c36)) ?_
        refine J.p rfl rfl rfl rfl (Y.mv rfl) ?_
        refine J.p rfl rfl rfl rfl (Y.mv rfl) ?_
        refine J.p rfl rfl rfl rfl (Y.bin rfl rfl rfl) ?_
        refine J.p rfl rfl rfl rfl (Y.pickT rfl rfl) ?_
        refine J.p rfl rfl rfl rfl (Y.mv rfl) ?_
        refine split2 H (fun c37 H => ?_) (fun c37 H => ?_)
        · refine J.as (k := 85) rfl (congrArg Value.bool (decide_eq_true c37)) ?_
          refine J.p rfl rfl rfl rfl (Y.mv rfl) ?_
          refine J.p rfl rfl rfl rfl (Y.pickT rfl rfl) ?_
          refine J.p rfl rfl rfl rfl (Y.mv rfl) ?_
          refine split2 H (fun c38 H => ?_) (fun c38 H => ?_)
          · refine J.as (k := 88) rfl (congrArg Value.bool (c38)) ?_
            refine J.p rfl rfl rfl rfl (Y.mv rfl) ?_
            refine J.p rfl rfl rfl rfl (Y.bin rfl rfl rfl) ?_
            refine J.p rfl rfl rfl rfl (Y.pickT rfl rfl) ?_
            refine J.p rfl rfl rfl rfl (Y.mv rfl) ?_
            refine split2 H (fun c39 H => ?_) (fun c39 H => ?_)
            · refine J.as (k := 92) rfl (congrArg Value.bool (decide_eq_true c39)) ?_
              refine J.p rfl rfl rfl rfl (Y.mv rfl) ?_
              refine J.p rfl rfl rfl rfl (Y.bin rfl rfl rfl) ?_
              refine J.p rfl rfl rfl rfl (Y.pickT rfl rfl) ?_
              refine J.p rfl rfl rfl rfl (Y.mv rfl) ?_
              refine split2 H (fun c40 H => ?_) (fun c40 H => ?_)
              · refine J.as (k := 96) rfl (congrArg Value.bool (decide_eq_true c40)) ?_
                refine J.p rfl rfl rfl rfl (Y.mv rfl) ?_
                refine J.p rfl rfl rfl rfl (Y.bin rfl rfl rfl) ?_
                refine J.p rfl rfl rfl rfl (Y.pickT rfl rfl) ?_
                refine J.p rfl rfl rfl rfl (Y.mv rfl) ?_
                refine split2 H (fun c41 H => ?_) (fun c41 H => ?_)
                · refine J.as (k := 100) rfl (congrArg Value.bool (decide_eq_true c41)) ?_
                  refine J.want rfl ?_
                  obtain ⟨t42, hC43, H⟩ := bind_some H
                  refine J.call (us := []) (cap := []) rfl rfl rfl go19 (fun w hw => by have hcc := works.calls K t42 hC43 w hw; exact hcc) (fun e w1 h1 => ?_)
                  obtain ⟨rfl, hw44⟩ := h1
                  refine ⟨_, _, rfl, hw44, ?_⟩
                  refine J.p rfl rfl rfl rfl (Y.pickT rfl rfl) ?_
                  refine J.p rfl rfl rfl rfl (Y.asg rfl) ?_
                  refine J.nx ?_
                  refine C.ret ?_
                  obtain rfl := Option.some.inj H
                  exact ret_ok (ks := [2]) rfl rfl (fun w h => ⟨rfl, h⟩)
                · refine J.as (k := 100) rfl (congrArg Value.bool (decide_eq_false c41)) ?_
                  refine J.skip rfl rfl ?_
                  refine J.p rfl rfl rfl rfl (Y.pickF rfl rfl) ?_
                  refine J.p rfl rfl rfl rfl (Y.asg rfl) ?_
                  refine J.nx ?_
                  refine C.ret ?_
                  obtain rfl := Option.some.inj H
                  exact ret_ok (ks := [2]) rfl rfl (fun w h => ⟨rfl, h⟩)
              · refine J.as (k := 96) rfl (congrArg Value.bool (decide_eq_false c40)) ?_
                refine J.skip rfl rfl ?_
                refine J.skip rfl rfl ?_
                refine J.p rfl rfl rfl rfl (Y.pickF rfl rfl) ?_
                refine J.p rfl rfl rfl rfl (Y.mv rfl) ?_
                refine J.skip rfl rfl ?_
                refine J.p rfl rfl rfl rfl (Y.pickF rfl rfl) ?_
                refine J.p rfl rfl rfl rfl (Y.asg rfl) ?_
                refine J.nx ?_
                refine C.ret ?_
                obtain rfl := Option.some.inj H
                exact ret_ok (ks := [2]) rfl rfl (fun w h => ⟨rfl, h⟩)
            · refine J.as (k := 92) rfl (congrArg Value.bool (decide_eq_false c39)) ?_
              refine J.skip rfl rfl ?_
              refine J.skip rfl rfl ?_
              refine J.p rfl rfl rfl rfl (Y.pickF rfl rfl) ?_
              refine J.p rfl rfl rfl rfl (Y.mv rfl) ?_
              refine J.skip rfl rfl ?_
              refine J.skip rfl rfl ?_
              refine J.p rfl rfl rfl rfl (Y.pickF rfl rfl) ?_
              refine J.p rfl rfl rfl rfl (Y.mv rfl) ?_
              refine J.skip rfl rfl ?_
              refine J.p rfl rfl rfl rfl (Y.pickF rfl rfl) ?_
              refine J.p rfl rfl rfl rfl (Y.asg rfl) ?_
              refine J.nx ?_
              refine C.ret ?_
              obtain rfl := Option.some.inj H
              exact ret_ok (ks := [2]) rfl rfl (fun w h => ⟨rfl, h⟩)
          · refine J.as (k := 88) rfl (congrArg Value.bool (nt c38)) ?_
            refine J.skip rfl rfl ?_
            refine J.skip rfl rfl ?_
            refine J.p rfl rfl rfl rfl (Y.pickF rfl rfl) ?_
            refine J.p rfl rfl rfl rfl (Y.mv rfl) ?_
            refine J.skip rfl rfl ?_
            refine J.skip rfl rfl ?_
            refine J.p rfl rfl rfl rfl (Y.pickF rfl rfl) ?_
            refine J.p rfl rfl rfl rfl (Y.mv rfl) ?_
            refine J.skip rfl rfl ?_
            refine J.skip rfl rfl ?_
            refine J.p rfl rfl rfl rfl (Y.pickF rfl rfl) ?_
            refine J.p rfl rfl rfl rfl (Y.mv rfl) ?_
            refine J.skip rfl rfl ?_
            refine J.p rfl rfl rfl rfl (Y.pickF rfl rfl) ?_
            refine J.p rfl rfl rfl rfl (Y.asg rfl) ?_
            refine J.nx ?_
            refine C.ret ?_
            obtain rfl := Option.some.inj H
            exact ret_ok (ks := [2]) rfl rfl (fun w h => ⟨rfl, h⟩)
        · refine J.as (k := 85) rfl (congrArg Value.bool (decide_eq_false c37)) ?_
          refine J.skip rfl rfl ?_
          refine J.p rfl rfl rfl rfl (Y.pickF rfl rfl) ?_
          refine J.p rfl rfl rfl rfl (Y.mv rfl) ?_
          refine J.skip rfl rfl ?_
          refine J.skip rfl rfl ?_
          refine J.p rfl rfl rfl rfl (Y.pickF rfl rfl) ?_
          refine J.p rfl rfl rfl rfl (Y.mv rfl) ?_
          refine J.skip rfl rfl ?_
          refine J.skip rfl rfl ?_
          refine J.p rfl rfl rfl rfl (Y.pickF rfl rfl) ?_
          refine J.p rfl rfl rfl rfl (Y.mv rfl) ?_
          refine J.skip rfl rfl ?_
          refine J.skip rfl rfl ?_
          refine J.p rfl rfl rfl rfl (Y.pickF rfl rfl) ?_
          refine J.p rfl rfl rfl rfl (Y.mv rfl) ?_
          refine J.skip rfl rfl ?_
          refine J.p rfl rfl rfl rfl (Y.pickF rfl rfl) ?_
          refine J.p rfl rfl rfl rfl (Y.asg rfl) ?_
          refine J.nx ?_
          refine C.ret ?_
          obtain rfl := Option.some.inj H
          exact ret_ok (ks := [2]) rfl rfl (fun w h => ⟨rfl, h⟩)
      · refine J.as (k := 80) rfl (congrArg Value.bool (decide_eq_false c36)) ?_
        refine J.skip rfl rfl ?_
        refine J.skip rfl rfl ?_
        refine J.skip rfl rfl ?_
        refine J.p rfl rfl rfl rfl (Y.pickF rfl rfl) ?_
        refine J.p rfl rfl rfl rfl (Y.mv rfl) ?_
        refine J.skip rfl rfl ?_
        refine J.p rfl rfl rfl rfl (Y.pickF rfl rfl) ?_
        refine J.p rfl rfl rfl rfl (Y.mv rfl) ?_
        refine J.skip rfl rfl ?_
        refine J.skip rfl rfl ?_
        refine J.p rfl rfl rfl rfl (Y.pickF rfl rfl) ?_
        refine J.p rfl rfl rfl rfl (Y.mv rfl) ?_
        refine J.skip rfl rfl ?_
        refine J.skip rfl rfl ?_
        refine J.p rfl rfl rfl rfl (Y.pickF rfl rfl) ?_
        refine J.p rfl rfl rfl rfl (Y.mv rfl) ?_
        refine J.skip rfl rfl ?_
        refine J.skip rfl rfl ?_
        refine J.p rfl rfl rfl rfl (Y.pickF rfl rfl) ?_
        refine J.p rfl rfl rfl rfl (Y.mv rfl) ?_
        refine J.skip rfl rfl ?_
        refine J.p rfl rfl rfl rfl (Y.pickF rfl rfl) ?_
        refine J.p rfl rfl rfl rfl (Y.asg rfl) ?_
        refine J.nx ?_
        refine C.ret ?_
        obtain rfl := Option.some.inj H
        exact ret_ok (ks := [2]) rfl rfl (fun w h => ⟨rfl, h⟩)
    · refine J.as (k := 75) rfl (congrArg Value.bool (decide_eq_false c35)) ?_
      refine J.skip rfl rfl ?_
      refine J.skip rfl rfl ?_
      refine J.skip rfl rfl ?_
      refine J.p rfl rfl rfl rfl (Y.pickF rfl rfl) ?_
      refine J.p rfl rfl rfl rfl (Y.mv rfl) ?_
      refine J.skip rfl rfl ?_
      refine J.skip rfl rfl ?_
      refine J.skip rfl rfl ?_
      refine J.p rfl rfl rfl rfl (Y.pickF rfl rfl) ?_
      refine J.p rfl rfl rfl rfl (Y.mv rfl) ?_
      refine J.skip rfl rfl ?_
      refine J.p rfl rfl rfl rfl (Y.pickF rfl rfl) ?_
      refine J.p rfl rfl rfl rfl (Y.mv rfl) ?_
      refine J.skip rfl rfl ?_
      refine J.skip rfl rfl ?_
      refine J.p rfl rfl rfl rfl (Y.pickF rfl rfl) ?_
      refine J.p rfl rfl rfl rfl (Y.mv rfl) ?_
      refine J.skip rfl rfl ?_
      refine J.skip rfl rfl ?_
      refine J.p rfl rfl rfl rfl (Y.pickF rfl rfl) ?_
      refine J.p rfl rfl rfl rfl (Y.mv rfl) ?_
      refine J.skip rfl rfl ?_
      refine J.skip rfl rfl ?_
      refine J.p rfl rfl rfl rfl (Y.pickF rfl rfl) ?_
      refine J.p rfl rfl rfl rfl (Y.mv rfl) ?_
      refine J.skip rfl rfl ?_
      refine J.p rfl rfl rfl rfl (Y.pickF rfl rfl) ?_
      refine J.p rfl rfl rfl rfl (Y.asg rfl) ?_
      refine J.nx ?_
      refine C.ret ?_
      obtain rfl := Option.some.inj H
      exact ret_ok (ks := [2]) rfl rfl (fun w h => ⟨rfl, h⟩)
end Go.Proofs.Ytocfkhpfpepcmaa
