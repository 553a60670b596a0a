/- Own text, printed by the lifting program: each Go function beside a plain function, and the proof that a call of the one comes to the other. Conditions: what came in can be read. -/
import Derived.Test.YtmbhpcdamfdphaaLiftC
set_option linter.unusedVariables false
set_option linter.unusedSimpArgs false
set_option maxRecDepth 10000
set_option maxHeartbeats 4000000
namespace Go.Proofs.Ytmbhpcdamfdphaa
open Go Go.Sx
theorem go11 : GoF Try.prog 11 := GoF.of Try.func11 (by kernel_rfl) (by kernel_rfl)
theorem go19 : GoF Try.prog 19 := GoF.of Try.func19 (by kernel_rfl) (by kernel_rfl)
theorem go23 : GoF Try.prog 23 := GoF.of Try.func23 (by kernel_rfl) (by kernel_rfl)
/-! ### salvor/salvorlaw10.HintDirt: function 7 -/
def HintDirt.f (K : Nat) (a0 : List Int) : Option (Bool) := (known.f K).bind fun t1 => (hOf.f K a0).bind fun t3 => (sClean.f K a0).bind fun t8 => (sRecords.f K a0 [1, 2, 3, 4]).bind fun t15 => (sRecords.f K a0 ([] : List Int)).bind fun t20 => (if (t8.length : Int) ≠ (a0.length : Int) then (some true) else (if (t15.length : Int) ≠ (t20.length : Int) then (some true) else (some (decide (4194304 < (a0.length : Int)))))).bind fun o27 => if t1 = true then (if (decide (t3.2 = 100)) = o27 then (if (decide (t3.2 = 0)) = (!o27) then (some (decide ((decide ((t3.1.length : Int) = 0)) = o27))) else (some false)) else (some false)) else (some false)
theorem HintDirt.calls {B : Nat} {w0 : World} {G : List HP} (K : Nat) (a0 : List Int) (Aa0 : Option Addr) (ca0 : Nat) (ha0 : RdG B w0 G Aa0 (a0.map (Value.int .u8))) (ka0 : a0.length ≤ ca0) (r : Bool) (H : HintDirt.f K a0 = some r) (w : World) (hw : St B w0 (G) w) :
    Calls Try.prog 7 [.slice Aa0 a0.length ca0].toArray w (fun e w' => e = .returned (.bool r) ∧ St B w0 (G) w') := by
  unfold HintDirt.f at H
  refine calls_of (n := 61) (s := [(0, .slice Aa0 a0.length ca0)]) Try.func7 rfl rfl rfl rfl ?_ hw
  refine C.rs ?_
  refine J.p rfl rfl rfl rfl (Y.asg rfl) ?_
  refine J.nx ?_
  refine C.rs ?_
  obtain ⟨t1, hC2, H⟩ := bind_some H
  refine J.call (us := []) (cap := []) rfl rfl rfl go11 (fun w hw => by have hcc := known.calls K t1 hC2 w hw; exact hcc) (fun e w1 h1 => ?_)
  obtain ⟨rfl, hw41⟩ := h1
  refine ⟨_, _, rfl, hw41, ?_⟩
  refine J.p rfl rfl rfl rfl (Y.asg rfl) ?_
  refine J.nx ?_
  refine C.rs ?_
  refine J.p rfl rfl rfl rfl (Y.mv rfl) ?_
  obtain ⟨t3, hC4, H⟩ := bind_some H
  refine J.call (us := []) (cap := []) rfl rfl rfl go13 (fun w hw => by have hcc := hOf.calls K a0 Aa0 ca0 ha0 ka0 t3 hC4 w hw; exact hcc) (fun e w1 h1 => ?_)
  obtain ⟨A5, c6, rfl, hw40⟩ := h1
  refine ⟨_, _, rfl, hw40, ?_⟩
  refine J.p rfl rfl rfl rfl (Y.mv rfl) ?_
  refine J.p rfl rfl rfl rfl (Y.ext rfl rfl) ?_
  refine J.p rfl rfl rfl rfl (Y.ext rfl rfl) ?_
  refine J.p rfl rfl rfl rfl (Y.asg rfl) ?_
  refine J.p rfl rfl rfl rfl (Y.asg rfl) ?_
  refine J.nx ?_
  refine C.rs ?_
  refine J.p rfl rfl rfl rfl (Y.mv rfl) ?_
  obtain ⟨t8, hC9, H⟩ := bind_some H
  refine J.call (us := []) (cap := []) rfl rfl rfl go23 (fun w hw => by have hcc := sClean.calls K a0 Aa0 ca0 (ha0.suf [_] rfl) ka0 t8 hC9 w hw; exact hcc) (fun e w1 h1 => ?_)
  obtain ⟨A10, c11, rfl, hw39⟩ := h1
  refine ⟨_, _, rfl, hw39, ?_⟩
  refine J.p rfl rfl rfl rfl (Y.asg rfl) ?_
  refine J.nx ?_
  refine C.rs ?_
  refine J.p rfl rfl rfl rfl (Y.mv rfl) ?_
  refine J.bsL (enc := (Value.int .i64)) (xs := [1, 2, 3, 4]) rfl Try.underlying96 ti42 rfl rfl rfl rfl rfl (fun A13 => ?_)
  obtain ⟨t15, hC16, H⟩ := bind_some H
  refine J.call (us := []) (cap := []) rfl rfl rfl go24 (fun w hw => by have hcc := sRecords.calls K a0 [1, 2, 3, 4] Aa0 ca0 A13 4 (ha0.suf [_, _, _] rfl) ka0 (RdG.own 0 rfl) (show [1, 2, 3, 4].length ≤ 4 from Nat.le_refl _) t15 hC16 w hw; exact hcc) (fun e w1 h1 => ?_)
  obtain ⟨A17, c18, rfl, hw38⟩ := h1
  refine ⟨_, _, rfl, hw38, ?_⟩
  refine J.p rfl rfl rfl rfl (Y.asg rfl) ?_
  refine J.nx ?_
  refine C.rs ?_
  refine J.p rfl rfl rfl rfl (Y.mv rfl) ?_
  obtain ⟨t20, hC21, H⟩ := bind_some H
  refine J.call (us := []) (cap := []) rfl rfl rfl go24 (fun w hw => by have hcc := sRecords.calls K a0 ([] : List Int) Aa0 ca0 none 0 (ha0.suf [_, _, _, _] rfl) ka0 RdG.none_ (Nat.le_refl 0) t20 hC21 w hw; exact hcc) (fun e w1 h1 => ?_)
  obtain ⟨A22, c23, rfl, hw37⟩ := h1
  refine ⟨_, _, rfl, hw37, ?_⟩
  refine J.p rfl rfl rfl rfl (Y.asg rfl) ?_
  refine J.nx ?_
  refine C.rs ?_
  refine J.joinB H (fun (o27 : Bool) (j28 : Unit) => [(3, .bool t1), (4, .slice A5 t3.1.length c6), (5, .int .i64 t3.2), (9, .bool o27)]) (fun (o27 : Bool) (j28 : Unit) => own 5 1 A5 c6 (t3.1.map (Value.int .u8)) :: G) (fun (o27 : Bool) (j28 : Unit) => True) (fun o29 H HK30 => ?_) (fun o27 j28 H _ => ?_)
  · refine J.p rfl rfl rfl rfl (Y.mv rfl) ?_
    refine J.p rfl rfl rfl rfl (Y.lenS Try.underlying22 rfl) ?_
    refine J.p rfl rfl rfl rfl (Y.mv rfl) ?_
    refine J.p rfl rfl rfl rfl (Y.lenS Try.underlying22 rfl) ?_
    refine J.p rfl rfl rfl rfl (Y.bin rfl rfl rfl) ?_
    refine J.p rfl rfl rfl rfl (Y.mv rfl) ?_
    refine split2 H (fun c31 H => ?_) (fun c31 H => ?_)
    · refine J.as (k := 28) rfl (congrArg Value.bool (decide_eq_true c31)) ?_
      refine J.skip rfl rfl ?_
      refine J.skip rfl rfl ?_
      refine J.skip rfl rfl ?_
      refine J.skip rfl rfl ?_
      refine J.skip rfl rfl ?_
      refine J.p rfl rfl rfl rfl (Y.pickT rfl rfl) ?_
      refine J.p rfl rfl rfl rfl (Y.mv rfl) ?_
      refine J.skip rfl rfl ?_
      refine J.skip rfl rfl ?_
      refine J.skip rfl rfl ?_
      refine J.p rfl rfl rfl rfl (Y.pickT rfl rfl) ?_
      refine J.p rfl rfl rfl rfl (Y.asg rfl) ?_
      refine J.nil ?_
      obtain rfl := Option.some.inj H
      exact N.meet (true, ()) ⟨HK30, trivial⟩ (by exact ⟨rfl, rfl, rfl, rfl, trivial⟩) (by exact fun w h => (St.pick [4] [_, _, _, _, _] h rfl))
    · refine J.as (k := 28) rfl (congrArg Value.bool (decide_eq_false c31)) ?_
      refine J.p rfl rfl rfl rfl (Y.mv rfl) ?_
      refine J.p rfl rfl rfl rfl (Y.lenS Try.underlying56 rfl) ?_
      refine J.p rfl rfl rfl rfl (Y.mv rfl) ?_
      refine J.p rfl rfl rfl rfl (Y.lenS Try.underlying56 rfl) ?_
      refine J.p rfl rfl rfl rfl (Y.bin rfl rfl rfl) ?_
      refine J.p rfl rfl rfl rfl (Y.pickF rfl rfl) ?_
      refine J.p rfl rfl rfl rfl (Y.mv rfl) ?_
      refine split2 H (fun c32 H => ?_) (fun c32 H => ?_)
      · refine J.as (k := 35) rfl (congrArg Value.bool (decide_eq_true c32)) ?_
        refine J.skip rfl rfl ?_
        refine J.skip rfl rfl ?_
        refine J.skip rfl rfl ?_
        refine J.p rfl rfl rfl rfl (Y.pickT rfl rfl) ?_
        refine J.p rfl rfl rfl rfl (Y.asg rfl) ?_
        refine J.nil ?_
        obtain rfl := Option.some.inj H
        exact N.meet (true, ()) ⟨HK30, trivial⟩ (by exact ⟨rfl, rfl, rfl, rfl, trivial⟩) (by exact fun w h => (St.pick [4] [_, _, _, _, _] h rfl))
      · refine J.as (k := 35) rfl (congrArg Value.bool (decide_eq_false c32)) ?_
        refine J.p rfl rfl rfl rfl (Y.mv rfl) ?_
        refine J.p rfl rfl rfl rfl (Y.lenS Try.underlying22 rfl) ?_
        refine J.p rfl rfl rfl rfl (Y.bin rfl rfl rfl) ?_
        refine J.p rfl rfl rfl rfl (Y.pickF rfl rfl) ?_
        refine J.p rfl rfl rfl rfl (Y.asg rfl) ?_
        refine J.nil ?_
        obtain rfl := Option.some.inj H
        generalize decide (4194304 < (a0.length : Int)) = dd33 at HK30 ⊢
        exact N.meet (dd33, ()) ⟨HK30, trivial⟩ (by exact ⟨rfl, rfl, rfl, rfl, trivial⟩) (by exact fun w h => (St.pick [4] [_, _, _, _, _] h rfl))
  · refine C.at (s' := [(3, .bool t1), (4, .slice A5 t3.1.length c6), (5, .int .i64 t3.2), (9, .bool o27)]) (G' := own 5 1 A5 c6 (t3.1.map (Value.int .u8)) :: G) rfl rfl ?_
    refine C.rs ?_
    refine J.p rfl rfl rfl rfl (Y.mv rfl) ?_
    refine J.p rfl rfl rfl rfl (Y.mv rfl) ?_
    refine split2 H (fun c34 H => ?_) (fun c34 H => ?_)
    · refine J.as (k := 41) rfl (congrArg Value.bool (c34)) ?_
      refine J.p rfl rfl rfl rfl (Y.mv rfl) ?_
      refine J.p rfl rfl rfl rfl (Y.bin rfl rfl rfl) ?_
      refine J.p rfl rfl rfl rfl (Y.mv rfl) ?_
      refine J.p rfl rfl rfl rfl (Y.eqb Try.underlying4 rfl rfl) ?_
      refine J.p rfl rfl rfl rfl (Y.pickT rfl rfl) ?_
      refine J.p rfl rfl rfl rfl (Y.mv rfl) ?_
      refine split2 H (fun c35 H => ?_) (fun c35 H => ?_)
      · refine J.as (k := 47) rfl (congrArg Value.bool (decide_eq_true c35)) ?_
        refine J.p rfl rfl rfl rfl (Y.mv rfl) ?_
        refine J.p rfl rfl rfl rfl (Y.bin rfl rfl rfl) ?_
        refine J.p rfl rfl rfl rfl (Y.mv rfl) ?_
        refine J.p rfl rfl rfl rfl (Y.notb rfl) ?_
        refine J.p rfl rfl rfl rfl (Y.eqb Try.underlying4 rfl rfl) ?_
        refine J.p rfl rfl rfl rfl (Y.pickT rfl rfl) ?_
        refine J.p rfl rfl rfl rfl (Y.mv rfl) ?_
        refine split2 H (fun c36 H => ?_) (fun c36 H => ?_)
        · refine J.as (k := 54) rfl (congrArg Value.bool (decide_eq_true c36)) ?_
          refine J.p rfl rfl rfl rfl (Y.mv rfl) ?_
          refine J.p rfl rfl rfl rfl (Y.lenS Try.underlying22 rfl) ?_
          refine J.p rfl rfl rfl rfl (Y.bin rfl rfl rfl) ?_
          refine J.p rfl rfl rfl rfl (Y.mv rfl) ?_
          refine J.p rfl rfl rfl rfl (Y.eqb Try.underlying4 rfl rfl) ?_
          refine J.p rfl rfl rfl rfl (Y.pickT rfl rfl) ?_
          refine J.p rfl rfl rfl rfl (Y.asg rfl) ?_
          refine J.nx ?_
          refine C.ret ?_
          obtain rfl := Option.some.inj H
          exact ret_ok (ks := [2]) rfl rfl (fun w h => ⟨rfl, (St.pick [] [_] h rfl)⟩)
        · refine J.as (k := 54) rfl (congrArg Value.bool (decide_eq_false c36)) ?_
          refine J.skip rfl rfl ?_
          refine J.skip rfl rfl ?_
          refine J.skip rfl rfl ?_
          refine J.skip rfl rfl ?_
          refine J.skip rfl rfl ?_
          refine J.p rfl rfl rfl rfl (Y.pickF rfl rfl) ?_
          refine J.p rfl rfl rfl rfl (Y.asg rfl) ?_
          refine J.nx ?_
          refine C.ret ?_
          obtain rfl := Option.some.inj H
          exact ret_ok (ks := [2]) rfl rfl (fun w h => ⟨rfl, (St.pick [] [_] h rfl)⟩)
      · refine J.as (k := 47) rfl (congrArg Value.bool (decide_eq_false c35)) ?_
        refine J.skip rfl rfl ?_
        refine J.skip rfl rfl ?_
        refine J.skip rfl rfl ?_
        refine J.skip rfl rfl ?_
        refine J.skip rfl rfl ?_
        refine J.p rfl rfl rfl rfl (Y.pickF rfl rfl) ?_
        refine J.p rfl rfl rfl rfl (Y.mv rfl) ?_
        refine J.skip rfl rfl ?_
        refine J.skip rfl rfl ?_
        refine J.skip rfl rfl ?_
        refine J.skip rfl rfl ?_
        refine J.skip rfl rfl ?_
        refine J.p rfl rfl rfl rfl (Y.pickF rfl rfl) ?_
        refine J.p rfl rfl rfl rfl (Y.asg rfl) ?_
        refine J.nx ?_
        refine C.ret ?_
        obtain rfl := Option.some.inj H
        exact ret_ok (ks := [2]) rfl rfl (fun w h => ⟨rfl, (St.pick [] [_] h rfl)⟩)
    · refine J.as (k := 41) rfl (congrArg Value.bool (nt c34)) ?_
      refine J.skip rfl rfl ?_
      refine J.skip rfl rfl ?_
      refine J.skip rfl rfl ?_
      refine J.skip rfl rfl ?_
      refine J.p rfl rfl rfl rfl (Y.pickF rfl rfl) ?_
      refine J.p rfl rfl rfl rfl (Y.mv rfl) ?_
      refine J.skip rfl rfl ?_
      refine J.skip rfl rfl ?_
      refine J.skip rfl rfl ?_
      refine J.skip rfl rfl ?_
      refine J.skip rfl rfl ?_
      refine J.p rfl rfl rfl rfl (Y.pickF rfl rfl) ?_
      refine J.p rfl rfl rfl rfl (Y.mv rfl) ?_
      refine J.skip rfl rfl ?_
      refine J.skip rfl rfl ?_
      refine J.skip rfl rfl ?_
      refine J.skip rfl rfl ?_
      refine J.skip rfl rfl ?_
      refine J.p rfl rfl rfl rfl (Y.pickF rfl rfl) ?_
      refine J.p rfl rfl rfl rfl (Y.asg rfl) ?_
      refine J.nx ?_
      refine C.ret ?_
      obtain rfl := Option.some.inj H
      exact ret_ok (ks := [2]) rfl rfl (fun w h => ⟨rfl, (St.pick [] [_] h rfl)⟩)
end Go.Proofs.Ytmbhpcdamfdphaa
