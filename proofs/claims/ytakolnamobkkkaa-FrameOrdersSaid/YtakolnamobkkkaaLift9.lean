/- Own text, printed by the lifting program: each Go function beside a plain function, and the proof that a call of the one comes to the other. Conditions: what came in can be read. -/
import Derived.Test.YtakolnamobkkkaaLiftB
set_option linter.unusedVariables false
set_option linter.unusedSimpArgs false
set_option maxRecDepth 10000
set_option maxHeartbeats 4000000
namespace Go.Proofs.Ytakolnamobkkkaa
open Go Go.Sx
theorem go14 : GoF Try.prog 14 := GoF.of Try.func14 (by kernel_rfl) (by kernel_rfl)
theorem go17 : GoF Try.prog 17 := GoF.of Try.func17 (by kernel_rfl) (by kernel_rfl)
/-! ### salvor/salvorlaw4.FrameForged: function 9 -/
def FrameForged.l1 (a0 : List Int) : Nat → (Int × Int) → Option (Int)
  | 0, _ => none
  | k + 1, i65 => if i65.2 < (a0.length : Int) then (((gd ((0 : Int) ≤ i65.2 ∧ i65.2 < (a0.length : Int)) (if (rd a0 i65.2) = 167 then (some true) else (gd ((0 : Int) ≤ i65.2 ∧ i65.2 < (a0.length : Int)) (gd ((0 : Int) ≤ i65.2 ∧ i65.2 < (a0.length : Int)) (some (decide ((rd a0 i65.2) = 166))))))).bind fun o87 => if o87 = true then (some (IntKind.wrap .i64 (i65.1 + 1))) else (some i65.1)).bind fun o79 => FrameForged.l1 a0 k (o79, IntKind.wrap .i64 (i65.2 + 1))) else (some i65.1)
def FrameForged.l2 (a0 : List Int) : Nat → ((List Int) × Int) → Option ((List Int))
  | 0, _ => none
  | k + 1, i221 => if i221.2 < (a0.length : Int) then ((gd ((0 : Int) ≤ i221.2 ∧ i221.2 < (a0.length : Int)) (if (rd a0 i221.2) = 167 then (gd ((i221.1.length + [166, 1].length) * 1 ≤ 140737488355328) (some (i221.1 ++ [166, 1]))) else (if (rd a0 i221.2) = 166 then (gd ((i221.1.length + [166, 0].length) * 1 ≤ 140737488355328) (some (i221.1 ++ [166, 0]))) else (gd ((0 : Int) ≤ i221.2 ∧ i221.2 < (a0.length : Int)) (gd ((i221.1.length + [rd a0 i221.2].length) * 1 ≤ 140737488355328) (some (i221.1 ++ [rd a0 i221.2]))))))).bind fun o249 => FrameForged.l2 a0 k (o249, IntKind.wrap .i64 (i221.2 + 1))) else (some i221.1)
def FrameForged.f (K : Nat) (a0 : List Int) : Option (Bool) := (known.f K).bind fun t1 => if 16000 < (a0.length : Int) then (some t1) else ((FrameForged.l1 a0 K (0, 0)).bind fun o34 => (FrameForged.l2 a0 K ([IntKind.wrap .u8 (IntKind.wrap .i64 (Int.tdiv (IntKind.wrap .i64 (o34 + (a0.length : Int))) 16384)), IntKind.wrap .u8 (Int.tmod (IntKind.wrap .i64 (Int.tdiv (IntKind.wrap .i64 (o34 + (a0.length : Int))) 128)) 128), IntKind.wrap .u8 (Int.tmod (IntKind.wrap .i64 (o34 + (a0.length : Int))) 128)], 0)).bind fun o160 => (Sum.f K [o160]).bind fun t279 => gd (([167].length + o160.length) * 1 ≤ 140737488355328) (gd ((([167] ++ o160).length + [IntKind.wrap .u8 (Sx.shr .u32 t279 28), IntKind.wrap .u8 (Int.tmod (Sx.shr .u32 t279 21) 128), IntKind.wrap .u8 (Int.tmod (Sx.shr .u32 t279 14) 128), IntKind.wrap .u8 (Int.tmod (Sx.shr .u32 t279 7) 128), IntKind.wrap .u8 (Int.tmod t279 128)].length) * 1 ≤ 140737488355328) ((fDecode.f K (([167] ++ o160) ++ [IntKind.wrap .u8 (Sx.shr .u32 t279 28), IntKind.wrap .u8 (Int.tmod (Sx.shr .u32 t279 21) 128), IntKind.wrap .u8 (Int.tmod (Sx.shr .u32 t279 14) 128), IntKind.wrap .u8 (Int.tmod (Sx.shr .u32 t279 7) 128), IntKind.wrap .u8 (Int.tmod t279 128)]) 0).bind fun t294 => if t294.2.2.2.2.2.2.2.2.2.2.2.2.2.2.2 ≠ 0 then (if t1 = true then (some (decide (t294.2.2.2.2.2.2.2.2.2.2.2.2.2.2.2 = 45))) else (some false)) else ((fBody.f K t294.1 t294.2.1 t294.2.2.1 t294.2.2.2.1 t294.2.2.2.2.1 t294.2.2.2.2.2.1 t294.2.2.2.2.2.2.1 t294.2.2.2.2.2.2.2.1 t294.2.2.2.2.2.2.2.2.1 t294.2.2.2.2.2.2.2.2.2.1 t294.2.2.2.2.2.2.2.2.2.2.1 t294.2.2.2.2.2.2.2.2.2.2.2.1 t294.2.2.2.2.2.2.2.2.2.2.2.2.1 t294.2.2.2.2.2.2.2.2.2.2.2.2.2.1).bind fun t300 => (same.f K t300.1 a0).bind fun t306 => if t1 = true then (if t294.2.2.2.2.2.2.2.2.2.2.2.2.2.2.1 = ((([167] ++ o160) ++ [IntKind.wrap .u8 (Sx.shr .u32 t279 28), IntKind.wrap .u8 (Int.tmod (Sx.shr .u32 t279 21) 128), IntKind.wrap .u8 (Int.tmod (Sx.shr .u32 t279 14) 128), IntKind.wrap .u8 (Int.tmod (Sx.shr .u32 t279 7) 128), IntKind.wrap .u8 (Int.tmod t279 128)]).length : Int) then (if t300.2 = 0 then (some t306) else (some false)) else (some false)) else (some false)))))
theorem FrameForged.calls {B : Nat} {w0 : World} {G : List HP} (K : Nat) (a0 : List Int) (Aa0 : Option Addr) (ca0 : Nat) (ha0 : RdG B w0 G Aa0 (a0.map (Value.int .u8))) (ka0 : a0.length ≤ ca0) (r : Bool) (H : FrameForged.f K a0 = some r) (w : World) (hw : St B w0 (G) w) :
    Calls Try.prog 9 [.slice Aa0 a0.length ca0].toArray w (fun e w' => e = .returned (.bool r) ∧ St B w0 (G) w') := by
  unfold FrameForged.f at H
  refine calls_of (n := 146) (s := [(0, .slice Aa0 a0.length ca0)]) Try.func9 rfl rfl rfl rfl ?_ hw
  refine C.rs ?_
  refine J.p rfl rfl rfl rfl (Y.asg rfl) ?_
  refine J.nx ?_
  refine C.rs ?_
  obtain ⟨t1, hC2, H⟩ := bind_some H
  refine J.call (us := []) (cap := []) rfl rfl rfl go14 (fun w hw => by have hcc := known.calls K t1 hC2 w hw; exact hcc) (fun e w1 h1 => ?_)
  obtain ⟨rfl, hw315⟩ := h1
  refine ⟨_, _, rfl, hw315, ?_⟩
  refine J.p rfl rfl rfl rfl (Y.asg rfl) ?_
  refine J.nx ?_
  refine C.seq ?_
  refine C.rs ?_
  refine J.p rfl rfl rfl rfl (Y.mv rfl) ?_
  refine J.p rfl rfl rfl rfl (Y.lenS Try.underlying22 rfl) ?_
  refine J.p rfl rfl rfl rfl (Y.bin rfl rfl rfl) ?_
  refine J.nx ?_
  refine split2 H (fun c3 H => ?_) (fun c3 H => ?_)
  · refine C.condT (congrArg (fun b => some (Value.bool b)) (decide_eq_true c3)) ?_
    refine C.rs ?_
    refine J.p rfl rfl rfl rfl (Y.mv rfl) ?_
    refine J.p rfl rfl rfl rfl (Y.asg rfl) ?_
    refine J.nx ?_
    refine C.ret ?_
    obtain rfl := Option.some.inj H
    refine T.th ?_
    exact ret_ok (ks := [2]) rfl rfl (fun w h => ⟨rfl, h⟩)
  · refine C.condF (congrArg (fun b => some (Value.bool b)) (decide_eq_false c3)) ?_
    refine C.skip ?_
    refine N.nx ?_
    refine C.rs ?_
    refine J.p rfl rfl rfl rfl (Y.asg rfl) ?_
    refine J.nx ?_
    refine C.seq ?_
    refine C.rs ?_
    refine J.p rfl rfl rfl rfl (Y.asg rfl) ?_
    refine J.nx ?_
    refine C.joinN H (fun (o34 : Int) (j35 : Unit) => [(0, .slice Aa0 a0.length ca0), (3, .bool t1), (4, .int .i64 o34)]) (fun (o34 : Int) (j35 : Unit) => G) (fun (o34 : Int) (j35 : Unit) => True) (fun o32 H HK33 => ?_) (fun o34 j35 H _ => ?_)
    · refine C.blk ?_
      refine C.loop (fun (i : Nat × (Int × Int) × (Unit)) => [(0, .slice Aa0 a0.length ca0), (3, .bool t1), (4, .int .i64 i.2.1.1), (5, .int .i64 i.2.1.2)]) (fun (i : Nat × (Int × Int) × (Unit)) => G) (fun (i : Nat × (Int × Int) × (Unit)) => FrameForged.l1 a0 i.1 i.2.1 = some o32 ∧ (True)) (fun i => i.1) (K, (0, 0), ()) ⟨H, trivial⟩ (by exact ⟨rfl, rfl, rfl, rfl, trivial⟩) (by exact fun w h => h) ?_
      rintro ⟨k98, i65, j66⟩ ⟨H, _⟩
      replace H : FrameForged.l1 a0 k98 i65 = some o32 := H
      obtain ⟨k64, rfl⟩ : ∃ m, k98 = m + 1 := by cases k98 with | zero => exact absurd H (by simp [FrameForged.l1]) | succ m => exact ⟨m, rfl⟩
      rw [FrameForged.l1] at H
      refine C.at (s' := [(0, .slice Aa0 a0.length ca0), (3, .bool t1), (4, .int .i64 i65.1), (5, .int .i64 i65.2)]) (G' := G) rfl rfl ?_
      refine C.seq ?_
      refine C.rs ?_
      refine J.p rfl rfl rfl rfl (Y.mv rfl) ?_
      refine J.p rfl rfl rfl rfl (Y.mv rfl) ?_
      refine J.p rfl rfl rfl rfl (Y.lenS Try.underlying22 rfl) ?_
      refine J.p rfl rfl rfl rfl (Y.bin rfl rfl rfl) ?_
      refine J.nx ?_
      refine split2 H (fun c67 H => ?_) (fun c67 H => ?_)
      · refine C.condT (congrArg (fun b => some (Value.bool b)) (decide_eq_true c67)) ?_
        refine C.skip ?_
        refine N.nx ?_
        refine C.joinB H (fun (o79 : Int) (j80 : Unit) => [(0, .slice Aa0 a0.length ca0), (3, .bool t1), (4, .int .i64 o79), (5, .int .i64 i65.2)]) (fun (o79 : Int) (j80 : Unit) => G) (fun (o79 : Int) (j80 : Unit) => True) (fun o77 H HK78 => ?_) (fun o79 j80 H _ => ?_)
        · refine C.blk ?_
          refine C.rs ?_
          refine J.joinB H (fun (o87 : Bool) (j88 : Unit) => [(0, .slice Aa0 a0.length ca0), (3, .bool t1), (4, .int .i64 i65.1), (5, .int .i64 i65.2), (38, .bool o87)]) (fun (o87 : Bool) (j88 : Unit) => G) (fun (o87 : Bool) (j88 : Unit) => True) (fun o89 H HK90 => ?_) (fun o87 j88 H _ => ?_)
          · refine J.p rfl rfl rfl rfl (Y.mv rfl) ?_
            refine J.p rfl rfl rfl rfl (Y.mv rfl) ?_
            obtain ⟨p91, H⟩ := gd_some H
            refine J.el rfl rfl rfl Try.underlying22 ti5 Try.underlying5 rfl rfl rfl p91 ha0 ?_
            refine J.p rfl rfl rfl rfl (Y.bin rfl rfl rfl) ?_
            refine J.p rfl rfl rfl rfl (Y.mv rfl) ?_
            refine split2 H (fun c92 H => ?_) (fun c92 H => ?_)
            · refine J.as (k := 32) rfl (congrArg Value.bool (decide_eq_true c92)) ?_
              refine J.skip rfl rfl ?_
              refine J.skip rfl rfl ?_
              refine J.skip rfl rfl ?_
              refine J.skip rfl rfl ?_
              refine J.skip rfl rfl ?_
              refine J.p rfl rfl rfl rfl (Y.pickT rfl rfl) ?_
              refine J.nil ?_
              obtain rfl := Option.some.inj H
              exact N.meet (true, ()) ⟨HK90, trivial⟩ (by exact ⟨rfl, rfl, rfl, rfl, rfl, trivial⟩) (by exact fun w h => h)
            · refine J.as (k := 32) rfl (congrArg Value.bool (decide_eq_false c92)) ?_
              refine J.p rfl rfl rfl rfl (Y.mv rfl) ?_
              refine J.p rfl rfl rfl rfl (Y.mv rfl) ?_
              obtain ⟨p95, H⟩ := gd_some H
              refine J.know (ha0.some_ (j := Int.toNat i65.2) (by rw [List.length_map]; exact idx_lt p95)) (fun hh => ?_)
              obtain ⟨a93, ha94⟩ := hh
              refine J.p rfl rfl rfl rfl (Y.ixa Try.underlying22 ti5 rfl rfl p95 ha94) ?_
              obtain ⟨p96, H⟩ := gd_some H
              refine J.r rfl rfl rfl rfl (Y.ldE Try.underlying5 rfl rfl ha94 p96 ha0) ?_
              refine J.p rfl rfl rfl rfl (Y.bin rfl rfl rfl) ?_
              refine J.p rfl rfl rfl rfl (Y.pickF rfl rfl) ?_
              refine J.nil ?_
              obtain rfl := Option.some.inj H
              exact N.meet (decide ((rd a0 i65.2) = 166), ()) ⟨HK90, trivial⟩ (by exact ⟨rfl, rfl, rfl, rfl, rfl, trivial⟩) (by exact fun w h => h)
          · refine C.at (s' := [(0, .slice Aa0 a0.length ca0), (3, .bool t1), (4, .int .i64 i65.1), (5, .int .i64 i65.2), (38, .bool o87)]) (G' := G) rfl rfl ?_
            refine split2 H (fun c97 H => ?_) (fun c97 H => ?_)
            · refine C.condT (congrArg (fun b => some (Value.bool b)) (c97)) ?_
              refine C.reg ?_
              refine J.p rfl rfl rfl rfl (Y.mv rfl) ?_
              refine J.p rfl rfl rfl rfl (Y.bin rfl rfl rfl) ?_
              refine J.p rfl rfl rfl rfl (Y.asg rfl) ?_
              refine J.nil ?_
              refine N.ib ?_
              obtain rfl := Option.some.inj H
              exact N.meet (IntKind.wrap .i64 (i65.1 + 1), ()) ⟨HK78, trivial⟩ (by exact ⟨rfl, rfl, rfl, rfl, trivial⟩) (by exact fun w h => h)
            · refine C.condF (congrArg (fun b => some (Value.bool b)) (nt c97)) ?_
              refine C.skip ?_
              refine N.ib ?_
              obtain rfl := Option.some.inj H
              exact N.meet (i65.1, ()) ⟨HK78, trivial⟩ (by exact ⟨rfl, rfl, rfl, rfl, trivial⟩) (by exact fun w h => h)
        · refine C.at (s' := [(0, .slice Aa0 a0.length ca0), (3, .bool t1), (4, .int .i64 o79), (5, .int .i64 i65.2)]) (G' := G) rfl rfl ?_
          refine C.reg ?_
          refine J.p rfl rfl rfl rfl (Y.mv rfl) ?_
          refine J.p rfl rfl rfl rfl (Y.bin rfl rfl rfl) ?_
          refine J.p rfl rfl rfl rfl (Y.asg rfl) ?_
          refine J.nil ?_
          exact N.again (k64, (o79, IntKind.wrap .i64 (i65.2 + 1)), ()) ⟨H, trivial⟩ (Nat.lt_succ_self _) (by exact ⟨rfl, rfl, rfl, rfl, trivial⟩) (by exact fun w h => h)
      · refine C.condF (congrArg (fun b => some (Value.bool b)) (decide_eq_false c67)) ?_
        refine C.exit ?_
        refine X.th ?_
        refine X.th ?_
        refine X.hit ?_
        obtain rfl := Option.some.inj H
        exact N.meet (i65.1, ()) ⟨HK33, trivial⟩ (by exact ⟨rfl, rfl, rfl, trivial⟩) (by exact fun w h => h)
    · refine N.at (s' := [(0, .slice Aa0 a0.length ca0), (3, .bool t1), (4, .int .i64 o34)]) (G' := G) rfl rfl ?_
      refine N.nx ?_
      refine C.rs ?_
      refine J.p rfl rfl rfl rfl (Y.mv rfl) ?_
      refine J.p rfl rfl rfl rfl (Y.mv rfl) ?_
      refine J.p rfl rfl rfl rfl (Y.lenS Try.underlying22 rfl) ?_
      refine J.p rfl rfl rfl rfl (Y.bin rfl rfl rfl) ?_
      refine J.p rfl rfl rfl rfl (Y.asg rfl) ?_
      refine J.nx ?_
      refine C.rs ?_
      refine J.p rfl rfl rfl rfl (Y.mv rfl) ?_
      refine J.p rfl rfl rfl rfl (Y.quo rfl rfl (by decide)) ?_
      refine J.p rfl rfl rfl rfl (Y.conv Try.underlying3 Try.underlying5 rfl) ?_
      refine J.p rfl rfl rfl rfl (Y.mv rfl) ?_
      refine J.p rfl rfl rfl rfl (Y.quo rfl rfl (by decide)) ?_
      refine J.p rfl rfl rfl rfl (Y.rem rfl rfl (by decide)) ?_
      refine J.p rfl rfl rfl rfl (Y.conv Try.underlying3 Try.underlying5 rfl) ?_
      refine J.p rfl rfl rfl rfl (Y.mv rfl) ?_
      refine J.p rfl rfl rfl rfl (Y.rem rfl rfl (by decide)) ?_
      refine J.p rfl rfl rfl rfl (Y.conv Try.underlying3 Try.underlying5 rfl) ?_
      refine J.bsL (enc := (Value.int .u8)) (xs := [IntKind.wrap .u8 (IntKind.wrap .i64 (Int.tdiv (IntKind.wrap .i64 (o34 + (a0.length : Int))) 16384)), IntKind.wrap .u8 (Int.tmod (IntKind.wrap .i64 (Int.tdiv (IntKind.wrap .i64 (o34 + (a0.length : Int))) 128)) 128), IntKind.wrap .u8 (Int.tmod (IntKind.wrap .i64 (o34 + (a0.length : Int))) 128)]) rfl Try.underlying22 ti5 rfl rfl rfl rfl rfl (fun A99 => ?_)
      refine J.p rfl rfl rfl rfl (Y.asg rfl) ?_
      refine J.nx ?_
      refine C.seq ?_
      refine C.rs ?_
      refine J.p rfl rfl rfl rfl (Y.asg rfl) ?_
      refine J.nx ?_
      refine C.joinN H (fun (o160 : (List Int)) (j161 : (Option Addr) × Nat) => [(0, .slice Aa0 a0.length ca0), (3, .bool t1), (6, .slice j161.1 o160.length j161.2)]) (fun (o160 : (List Int)) (j161 : (Option Addr) × Nat) => own 5 1 j161.1 j161.2 (o160.map (Value.int .u8)) :: G) (fun (o160 : (List Int)) (j161 : (Option Addr) × Nat) => True) (fun o158 H HK159 => ?_) (fun o160 j161 H _ => ?_)
      · refine C.blk ?_
        refine C.loop (fun (i : Nat × ((List Int) × Int) × ((Option Addr) × Nat)) => [(0, .slice Aa0 a0.length ca0), (3, .bool t1), (6, .slice i.2.2.1 i.2.1.1.length i.2.2.2), (7, .int .i64 i.2.1.2)]) (fun (i : Nat × ((List Int) × Int) × ((Option Addr) × Nat)) => own 5 1 i.2.2.1 i.2.2.2 (i.2.1.1.map (Value.int .u8)) :: G) (fun (i : Nat × ((List Int) × Int) × ((Option Addr) × Nat)) => FrameForged.l2 a0 i.1 i.2.1 = some o158 ∧ (True)) (fun i => i.1) (K, ([IntKind.wrap .u8 (IntKind.wrap .i64 (Int.tdiv (IntKind.wrap .i64 (o34 + (a0.length : Int))) 16384)), IntKind.wrap .u8 (Int.tmod (IntKind.wrap .i64 (Int.tdiv (IntKind.wrap .i64 (o34 + (a0.length : Int))) 128)) 128), IntKind.wrap .u8 (Int.tmod (IntKind.wrap .i64 (o34 + (a0.length : Int))) 128)], 0), (A99, 3)) ⟨H, trivial⟩ (by exact ⟨rfl, rfl, rfl, rfl, trivial⟩) (by exact fun w h => h) ?_
        rintro ⟨k274, i221, j222⟩ ⟨H, _⟩
        replace H : FrameForged.l2 a0 k274 i221 = some o158 := H
        obtain ⟨k220, rfl⟩ : ∃ m, k274 = m + 1 := by cases k274 with | zero => exact absurd H (by simp [FrameForged.l2]) | succ m => exact ⟨m, rfl⟩
        rw [FrameForged.l2] at H
        refine C.at (s' := [(0, .slice Aa0 a0.length ca0), (3, .bool t1), (6, .slice j222.1 i221.1.length j222.2), (7, .int .i64 i221.2)]) (G' := own 5 1 j222.1 j222.2 (i221.1.map (Value.int .u8)) :: G) rfl rfl ?_
        refine C.seq ?_
        refine C.rs ?_
        refine J.p rfl rfl rfl rfl (Y.mv rfl) ?_
        refine J.p rfl rfl rfl rfl (Y.mv rfl) ?_
        refine J.p rfl rfl rfl rfl (Y.lenS Try.underlying22 rfl) ?_
        refine J.p rfl rfl rfl rfl (Y.bin rfl rfl rfl) ?_
        refine J.nx ?_
        refine split2 H (fun c224 H => ?_) (fun c224 H => ?_)
        · refine C.condT (congrArg (fun b => some (Value.bool b)) (decide_eq_true c224)) ?_
          refine C.skip ?_
          refine N.nx ?_
          refine C.joinB H (fun (o249 : (List Int)) (j250 : (Option Addr) × Nat) => [(0, .slice Aa0 a0.length ca0), (3, .bool t1), (6, .slice j250.1 o249.length j250.2), (7, .int .i64 i221.2)]) (fun (o249 : (List Int)) (j250 : (Option Addr) × Nat) => own 5 1 j250.1 j250.2 (o249.map (Value.int .u8)) :: G) (fun (o249 : (List Int)) (j250 : (Option Addr) × Nat) => True) (fun o247 H HK248 => ?_) (fun o249 j250 H _ => ?_)
          · refine C.blk ?_
            refine C.rs ?_
            refine J.p rfl rfl rfl rfl (Y.mv rfl) ?_
            refine J.p rfl rfl rfl rfl (Y.mv rfl) ?_
            obtain ⟨p252, H⟩ := gd_some H
            refine J.el rfl rfl rfl Try.underlying22 ti5 Try.underlying5 rfl rfl rfl p252 (ha0.suf [_] rfl) ?_
            refine J.nx ?_
            refine C.blk ?_
            refine C.rs ?_
            refine J.p rfl rfl rfl rfl (Y.bin rfl rfl rfl) ?_
            refine J.p rfl rfl rfl rfl (Y.asg rfl) ?_
            refine J.nx ?_
            refine split2 H (fun c253 H => ?_) (fun c253 H => ?_)
            · refine C.condT (congrArg (fun b => some (Value.bool b)) (decide_eq_true c253)) ?_
              refine C.reg ?_
              refine J.p rfl rfl rfl rfl (Y.mv rfl) ?_
              refine J.bsL (enc := (Value.int .u8)) (xs := [166, 1]) rfl Try.underlying22 ti5 rfl rfl rfl rfl rfl (fun A254 => ?_)
              refine J.pull 1 rfl rfl ?_
              obtain ⟨p258, H⟩ := gd_some H
              refine J.appL (enc := (Value.int .u8)) (xs := i221.1) (ys := [166, 1]) rfl Try.underlying22 ti5 rfl (by decide) rfl rfl (fun _ => rfl) (RdG.own 1 rfl) p258 (fun A256 c257 => ?_)
              refine J.pull 1 rfl rfl (J.drop ?_)
              refine J.p rfl rfl rfl rfl (Y.asg rfl) ?_
              refine J.nil ?_
              refine N.ib ?_
              refine N.ib ?_
              obtain rfl := Option.some.inj H
              exact N.meet ((i221.1 ++ [166, 1]), (A256, c257)) ⟨HK248, trivial⟩ (by exact ⟨rfl, rfl, rfl, rfl, trivial⟩) (by exact fun w h => h)
            · refine C.condF (congrArg (fun b => some (Value.bool b)) (decide_eq_false c253)) ?_
              refine C.rs ?_
              refine J.p rfl rfl rfl rfl (Y.bin rfl rfl rfl) ?_
              refine J.p rfl rfl rfl rfl (Y.asg rfl) ?_
              refine J.nx ?_
              refine split2 H (fun c260 H => ?_) (fun c260 H => ?_)
              · refine C.condT (congrArg (fun b => some (Value.bool b)) (decide_eq_true c260)) ?_
                refine C.reg ?_
                refine J.p rfl rfl rfl rfl (Y.mv rfl) ?_
                refine J.bsL (enc := (Value.int .u8)) (xs := [166, 0]) rfl Try.underlying22 ti5 rfl rfl rfl rfl rfl (fun A261 => ?_)
                refine J.pull 1 rfl rfl ?_
                obtain ⟨p265, H⟩ := gd_some H
                refine J.appL (enc := (Value.int .u8)) (xs := i221.1) (ys := [166, 0]) rfl Try.underlying22 ti5 rfl (by decide) rfl rfl (fun _ => rfl) (RdG.own 1 rfl) p265 (fun A263 c264 => ?_)
                refine J.pull 1 rfl rfl (J.drop ?_)
                refine J.p rfl rfl rfl rfl (Y.asg rfl) ?_
                refine J.nil ?_
                refine N.ib ?_
                refine N.ib ?_
                obtain rfl := Option.some.inj H
                exact N.meet ((i221.1 ++ [166, 0]), (A263, c264)) ⟨HK248, trivial⟩ (by exact ⟨rfl, rfl, rfl, rfl, trivial⟩) (by exact fun w h => h)
              · refine C.condF (congrArg (fun b => some (Value.bool b)) (decide_eq_false c260)) ?_
                refine C.reg ?_
                refine J.p rfl rfl rfl rfl (Y.mv rfl) ?_
                refine J.p rfl rfl rfl rfl (Y.mv rfl) ?_
                refine J.p rfl rfl rfl rfl (Y.mv rfl) ?_
                obtain ⟨p267, H⟩ := gd_some H
                refine J.el rfl rfl rfl Try.underlying22 ti5 Try.underlying5 rfl rfl rfl p267 (ha0.suf [_] rfl) ?_
                refine J.bsL (enc := (Value.int .u8)) (xs := [rd a0 i221.2]) rfl Try.underlying22 ti5 rfl rfl rfl rfl rfl (fun A268 => ?_)
                refine J.pull 1 rfl rfl ?_
                obtain ⟨p272, H⟩ := gd_some H
                refine J.appL (enc := (Value.int .u8)) (xs := i221.1) (ys := [rd a0 i221.2]) rfl Try.underlying22 ti5 rfl (by decide) rfl rfl (fun _ => rfl) (RdG.own 1 rfl) p272 (fun A270 c271 => ?_)
                refine J.pull 1 rfl rfl (J.drop ?_)
                refine J.p rfl rfl rfl rfl (Y.asg rfl) ?_
                refine J.nil ?_
                refine N.ib ?_
                refine N.ib ?_
                obtain rfl := Option.some.inj H
                exact N.meet ((i221.1 ++ [rd a0 i221.2]), (A270, c271)) ⟨HK248, trivial⟩ (by exact ⟨rfl, rfl, rfl, rfl, trivial⟩) (by exact fun w h => h)
          · refine C.at (s' := [(0, .slice Aa0 a0.length ca0), (3, .bool t1), (6, .slice j250.1 o249.length j250.2), (7, .int .i64 i221.2)]) (G' := own 5 1 j250.1 j250.2 (o249.map (Value.int .u8)) :: G) rfl rfl ?_
            refine C.reg ?_
            refine J.p rfl rfl rfl rfl (Y.mv rfl) ?_
            refine J.p rfl rfl rfl rfl (Y.bin rfl rfl rfl) ?_
            refine J.p rfl rfl rfl rfl (Y.asg rfl) ?_
            refine J.nil ?_
            exact N.again (k220, (o249, IntKind.wrap .i64 (i221.2 + 1)), (j250.1, j250.2)) ⟨H, trivial⟩ (Nat.lt_succ_self _) (by exact ⟨rfl, rfl, rfl, rfl, trivial⟩) (by exact fun w h => h)
        · refine C.condF (congrArg (fun b => some (Value.bool b)) (decide_eq_false c224)) ?_
          refine C.exit ?_
          refine X.th ?_
          refine X.th ?_
          refine X.hit ?_
          obtain rfl := Option.some.inj H
          exact N.meet (i221.1, (j222.1, j222.2)) ⟨HK159, trivial⟩ (by exact ⟨rfl, rfl, rfl, trivial⟩) (by exact fun w h => h)
      · refine N.at (s' := [(0, .slice Aa0 a0.length ca0), (3, .bool t1), (6, .slice j161.1 o160.length j161.2)]) (G' := own 5 1 j161.1 j161.2 (o160.map (Value.int .u8)) :: G) rfl rfl ?_
        refine N.nx ?_
        refine C.rs ?_
        refine J.p rfl rfl rfl rfl (Y.mv rfl) ?_
        refine J.know (own_leL 0 rfl) (fun hc276 => ?_)
        refine J.bsV (L := [.slice j161.1 o160.length j161.2]) rfl Try.underlying56 ti22 rfl rfl rfl rfl rfl (fun A275 => ?_)
        refine J.know (own_leL 1 rfl) (fun hc278 => ?_)
        obtain ⟨t279, hC280, H⟩ := bind_some H
        refine J.call (us := []) (cap := []) rfl rfl rfl go19 (fun w hw => by have hcc := Sum.calls K [o160] A275 1 [.slice j161.1 o160.length j161.2] (RdG.own 0 rfl) (VV.cons (RdG.own 1 rfl) hc278 VV.nil) (Nat.le_refl _) t279 hC280 w hw; exact hcc) (fun e w1 h1 => ?_)
        obtain ⟨rfl, hw314⟩ := h1
        refine ⟨_, _, rfl, hw314, ?_⟩
        refine J.p rfl rfl rfl rfl (Y.asg rfl) ?_
        refine J.nx ?_
        refine C.rs ?_
        refine J.bsL (enc := (Value.int .u8)) (xs := [167]) rfl Try.underlying22 ti5 rfl rfl rfl rfl rfl (fun A281 => ?_)
        refine J.p rfl rfl rfl rfl (Y.asg rfl) ?_
        refine J.nx ?_
        refine C.rs ?_
        refine J.p rfl rfl rfl rfl (Y.mv rfl) ?_
        refine J.p rfl rfl rfl rfl (Y.mv rfl) ?_
        obtain ⟨p285, H⟩ := gd_some H
        refine J.appL (enc := (Value.int .u8)) (xs := [167]) (ys := o160) rfl Try.underlying22 ti5 rfl (by decide) rfl rfl (fun _ => rfl) (RdG.own 2 rfl) p285 (fun A283 c284 => ?_)
        refine J.pull 2 rfl rfl (J.drop ?_)
        refine J.p rfl rfl rfl rfl (Y.asg rfl) ?_
        refine J.nx ?_
        refine C.rs ?_
        refine J.p rfl rfl rfl rfl (Y.mv rfl) ?_
        refine J.p rfl rfl rfl rfl (Y.mv rfl) ?_
        refine J.p rfl rfl rfl rfl (Y.shr rfl rfl (by decide)) ?_
        refine J.p rfl rfl rfl rfl (Y.conv Try.underlying30 Try.underlying5 rfl) ?_
        refine J.p rfl rfl rfl rfl (Y.mv rfl) ?_
        refine J.p rfl rfl rfl rfl (Y.shr rfl rfl (by decide)) ?_
        refine J.p rfl rfl rfl rfl (Y.rem rfl rfl (by decide)) ?_
        refine J.p rfl rfl rfl rfl (Y.conv Try.underlying30 Try.underlying5 rfl) ?_
        refine J.p rfl rfl rfl rfl (Y.mv rfl) ?_
        refine J.p rfl rfl rfl rfl (Y.shr rfl rfl (by decide)) ?_
        refine J.p rfl rfl rfl rfl (Y.rem rfl rfl (by decide)) ?_
        refine J.p rfl rfl rfl rfl (Y.conv Try.underlying30 Try.underlying5 rfl) ?_
        refine J.p rfl rfl rfl rfl (Y.mv rfl) ?_
        refine J.p rfl rfl rfl rfl (Y.shr rfl rfl (by decide)) ?_
        refine J.p rfl rfl rfl rfl (Y.rem rfl rfl (by decide)) ?_
        refine J.p rfl rfl rfl rfl (Y.conv Try.underlying30 Try.underlying5 rfl) ?_
        refine J.p rfl rfl rfl rfl (Y.mv rfl) ?_
        refine J.p rfl rfl rfl rfl (Y.rem rfl rfl (by decide)) ?_
        refine J.p rfl rfl rfl rfl (Y.conv Try.underlying30 Try.underlying5 rfl) ?_
        refine J.bsL (enc := (Value.int .u8)) (xs := [IntKind.wrap .u8 (Sx.shr .u32 t279 28), IntKind.wrap .u8 (Int.tmod (Sx.shr .u32 t279 21) 128), IntKind.wrap .u8 (Int.tmod (Sx.shr .u32 t279 14) 128), IntKind.wrap .u8 (Int.tmod (Sx.shr .u32 t279 7) 128), IntKind.wrap .u8 (Int.tmod t279 128)]) rfl Try.underlying22 ti5 rfl rfl rfl rfl rfl (fun A287 => ?_)
        refine J.pull 1 rfl rfl ?_
        obtain ⟨p291, H⟩ := gd_some H
        refine J.appL (enc := (Value.int .u8)) (xs := ([167] ++ o160)) (ys := [IntKind.wrap .u8 (Sx.shr .u32 t279 28), IntKind.wrap .u8 (Int.tmod (Sx.shr .u32 t279 21) 128), IntKind.wrap .u8 (Int.tmod (Sx.shr .u32 t279 14) 128), IntKind.wrap .u8 (Int.tmod (Sx.shr .u32 t279 7) 128), IntKind.wrap .u8 (Int.tmod t279 128)]) rfl Try.underlying22 ti5 rfl (by decide) rfl rfl (fun _ => rfl) (RdG.own 1 rfl) p291 (fun A289 c290 => ?_)
        refine J.pull 1 rfl rfl (J.drop ?_)
        refine J.p rfl rfl rfl rfl (Y.asg rfl) ?_
        refine J.nx ?_
        refine C.rs ?_
        refine J.p rfl rfl rfl rfl (Y.mv rfl) ?_
        refine J.know (own_leL 0 rfl) (fun hc293 => ?_)
        obtain ⟨t294, hC295, H⟩ := bind_some H
        refine J.call (us := []) (cap := []) rfl rfl rfl go15 (fun w hw => by have hcc := fDecode.calls K (([167] ++ o160) ++ [IntKind.wrap .u8 (Sx.shr .u32 t279 28), IntKind.wrap .u8 (Int.tmod (Sx.shr .u32 t279 21) 128), IntKind.wrap .u8 (Int.tmod (Sx.shr .u32 t279 14) 128), IntKind.wrap .u8 (Int.tmod (Sx.shr .u32 t279 7) 128), IntKind.wrap .u8 (Int.tmod t279 128)]) 0 A289 c290 (RdG.own 0 rfl) hc293 t294 hC295 w hw; exact hcc) (fun e w1 h1 => ?_)
        obtain ⟨rfl, hw313⟩ := h1
        refine ⟨_, _, rfl, hw313, ?_⟩
        refine J.p rfl rfl rfl rfl (Y.mv rfl) ?_
        refine J.p rfl rfl rfl rfl (Y.ext rfl rfl) ?_
        refine J.p rfl rfl rfl rfl (Y.ext rfl rfl) ?_
        refine J.p rfl rfl rfl rfl (Y.ext rfl rfl) ?_
        refine J.alloc (L := [.int .i64 0, .int .u64 0, .int .i64 0, .string ByteArray.empty, .string ByteArray.empty, .int .u64 0, .int .i64 0, .int .i64 0, .int .i64 0, .string ByteArray.empty, .int .i64 0, .int .i64 0, .int .i64 0, .int .u32 0]) rfl ti36 rfl (fun g296 => ?_)
        refine J.stA (us := [.int .i64 t294.1, .int .u64 t294.2.1, .int .i64 t294.2.2.1, .string t294.2.2.2.1, .string t294.2.2.2.2.1, .int .u64 t294.2.2.2.2.2.1, .int .i64 t294.2.2.2.2.2.2.1, .int .i64 t294.2.2.2.2.2.2.2.1, .int .i64 t294.2.2.2.2.2.2.2.2.1, .string t294.2.2.2.2.2.2.2.2.2.1, .int .i64 t294.2.2.2.2.2.2.2.2.2.2.1, .int .i64 t294.2.2.2.2.2.2.2.2.2.2.2.1, .int .i64 t294.2.2.2.2.2.2.2.2.2.2.2.2.1, .int .u32 t294.2.2.2.2.2.2.2.2.2.2.2.2.2.1]) (L' := [.int .i64 t294.1, .int .u64 t294.2.1, .int .i64 t294.2.2.1, .string t294.2.2.2.1, .string t294.2.2.2.2.1, .int .u64 t294.2.2.2.2.2.1, .int .i64 t294.2.2.2.2.2.2.1, .int .i64 t294.2.2.2.2.2.2.2.1, .int .i64 t294.2.2.2.2.2.2.2.2.1, .string t294.2.2.2.2.2.2.2.2.2.1, .int .i64 t294.2.2.2.2.2.2.2.2.2.2.1, .int .i64 t294.2.2.2.2.2.2.2.2.2.2.2.1, .int .i64 t294.2.2.2.2.2.2.2.2.2.2.2.2.1, .int .u32 t294.2.2.2.2.2.2.2.2.2.2.2.2.2.1]) ti36 rfl rfl rfl rfl rfl rfl ?_
        refine J.p rfl rfl rfl rfl (Y.asg rfl) ?_
        refine J.p rfl rfl rfl rfl (Y.asg rfl) ?_
        refine J.nx ?_
        refine C.seq ?_
        refine C.rs ?_
        refine J.p rfl rfl rfl rfl (Y.mv rfl) ?_
        refine J.p rfl rfl rfl rfl (Y.bin rfl rfl rfl) ?_
        refine J.nx ?_
        refine split2 H (fun c298 H => ?_) (fun c298 H => ?_)
        · refine C.condT (congrArg (fun b => some (Value.bool b)) (decide_eq_true c298)) ?_
          refine C.rs ?_
          refine J.p rfl rfl rfl rfl (Y.mv rfl) ?_
          refine J.p rfl rfl rfl rfl (Y.mv rfl) ?_
          refine split2 H (fun c299 H => ?_) (fun c299 H => ?_)
          · refine J.as (k := 120) rfl (congrArg Value.bool (c299)) ?_
            refine J.p rfl rfl rfl rfl (Y.mv rfl) ?_
            refine J.p rfl rfl rfl rfl (Y.bin rfl rfl rfl) ?_
            refine J.p rfl rfl rfl rfl (Y.pickT rfl rfl) ?_
            refine J.p rfl rfl rfl rfl (Y.asg rfl) ?_
            refine J.nx ?_
            refine C.ret ?_
            obtain rfl := Option.some.inj H
            refine T.th ?_
            exact ret_ok (ks := [2]) rfl rfl (fun w h => ⟨rfl, (St.pick [] [_, _, _] h rfl)⟩)
          · refine J.as (k := 120) rfl (congrArg Value.bool (nt c299)) ?_
            refine J.skip rfl rfl ?_
            refine J.skip rfl rfl ?_
            refine J.p rfl rfl rfl rfl (Y.pickF rfl rfl) ?_
            refine J.p rfl rfl rfl rfl (Y.asg rfl) ?_
            refine J.nx ?_
            refine C.ret ?_
            obtain rfl := Option.some.inj H
            refine T.th ?_
            exact ret_ok (ks := [2]) rfl rfl (fun w h => ⟨rfl, (St.pick [] [_, _, _] h rfl)⟩)
        · refine C.condF (congrArg (fun b => some (Value.bool b)) (decide_eq_false c298)) ?_
          refine C.skip ?_
          refine N.nx ?_
          refine C.rs ?_
          refine J.r rfl rfl rfl rfl (Y.ldCA (us := [.int .i64 t294.1, .int .u64 t294.2.1, .int .i64 t294.2.2.1, .string t294.2.2.2.1, .string t294.2.2.2.2.1, .int .u64 t294.2.2.2.2.2.1, .int .i64 t294.2.2.2.2.2.2.1, .int .i64 t294.2.2.2.2.2.2.2.1, .int .i64 t294.2.2.2.2.2.2.2.2.1, .string t294.2.2.2.2.2.2.2.2.2.1, .int .i64 t294.2.2.2.2.2.2.2.2.2.2.1, .int .i64 t294.2.2.2.2.2.2.2.2.2.2.2.1, .int .i64 t294.2.2.2.2.2.2.2.2.2.2.2.2.1, .int .u32 t294.2.2.2.2.2.2.2.2.2.2.2.2.2.1]) 0 Try.underlying36 rfl ti36 rfl rfl rfl rfl) ?_
          obtain ⟨t300, hC301, H⟩ := bind_some H
          refine J.call (us := []) (cap := []) rfl rfl rfl go20 (fun w hw => by have hcc := fBody.calls K t294.1 t294.2.1 t294.2.2.1 t294.2.2.2.1 t294.2.2.2.2.1 t294.2.2.2.2.2.1 t294.2.2.2.2.2.2.1 t294.2.2.2.2.2.2.2.1 t294.2.2.2.2.2.2.2.2.1 t294.2.2.2.2.2.2.2.2.2.1 t294.2.2.2.2.2.2.2.2.2.2.1 t294.2.2.2.2.2.2.2.2.2.2.2.1 t294.2.2.2.2.2.2.2.2.2.2.2.2.1 t294.2.2.2.2.2.2.2.2.2.2.2.2.2.1 t300 hC301 w hw; exact hcc) (fun e w1 h1 => ?_)
          obtain ⟨A302, c303, rfl, hw312⟩ := h1
          refine ⟨_, _, rfl, hw312, ?_⟩
          refine J.p rfl rfl rfl rfl (Y.mv rfl) ?_
          refine J.p rfl rfl rfl rfl (Y.ext rfl rfl) ?_
          refine J.p rfl rfl rfl rfl (Y.ext rfl rfl) ?_
          refine J.p rfl rfl rfl rfl (Y.asg rfl) ?_
          refine J.p rfl rfl rfl rfl (Y.asg rfl) ?_
          refine J.nx ?_
          refine C.rs ?_
          refine J.p rfl rfl rfl rfl (Y.mv rfl) ?_
          refine J.p rfl rfl rfl rfl (Y.mv rfl) ?_
          refine J.know (own_leL 0 rfl) (fun hc305 => ?_)
          obtain ⟨t306, hC307, H⟩ := bind_some H
          refine J.call (us := []) (cap := []) rfl rfl rfl go17 (fun w hw => by have hcc := same.calls K t300.1 a0 A302 c303 Aa0 ca0 (RdG.own 0 rfl) hc305 (ha0.suf [_, _, _, _] rfl) ka0 t306 hC307 w hw; exact hcc) (fun e w1 h1 => ?_)
          obtain ⟨rfl, hw311⟩ := h1
          refine ⟨_, _, rfl, hw311, ?_⟩
          refine J.p rfl rfl rfl rfl (Y.asg rfl) ?_
          refine J.nx ?_
          refine C.rs ?_
          refine J.p rfl rfl rfl rfl (Y.mv rfl) ?_
          refine J.p rfl rfl rfl rfl (Y.mv rfl) ?_
          refine split2 H (fun c308 H => ?_) (fun c308 H => ?_)
          · refine J.as (k := 133) rfl (congrArg Value.bool (c308)) ?_
            refine J.p rfl rfl rfl rfl (Y.mv rfl) ?_
            refine J.p rfl rfl rfl rfl (Y.mv rfl) ?_
            refine J.p rfl rfl rfl rfl (Y.lenS Try.underlying22 rfl) ?_
            refine J.p rfl rfl rfl rfl (Y.bin rfl rfl rfl) ?_
            refine J.p rfl rfl rfl rfl (Y.pickT rfl rfl) ?_
            refine J.p rfl rfl rfl rfl (Y.mv rfl) ?_
            refine split2 H (fun c309 H => ?_) (fun c309 H => ?_)
            · refine J.as (k := 139) rfl (congrArg Value.bool (decide_eq_true c309)) ?_
              refine J.p rfl rfl rfl rfl (Y.mv rfl) ?_
              refine J.p rfl rfl rfl rfl (Y.bin rfl rfl rfl) ?_
              refine J.p rfl rfl rfl rfl (Y.pickT rfl rfl) ?_
              refine J.p rfl rfl rfl rfl (Y.mv rfl) ?_
              refine split2 H (fun c310 H => ?_) (fun c310 H => ?_)
              · refine J.as (k := 143) rfl (congrArg Value.bool (decide_eq_true c310)) ?_
                refine J.p rfl rfl rfl rfl (Y.mv rfl) ?_
                refine J.p rfl rfl rfl rfl (Y.pickT rfl rfl) ?_
                refine J.p rfl rfl rfl rfl (Y.asg rfl) ?_
                refine J.nx ?_
                refine C.ret ?_
                obtain rfl := Option.some.inj H
                exact ret_ok (ks := [2]) rfl rfl (fun w h => ⟨rfl, (St.pick [] [_, _, _, _] h rfl)⟩)
              · refine J.as (k := 143) rfl (congrArg Value.bool (decide_eq_false c310)) ?_
                refine J.skip rfl rfl ?_
                refine J.p rfl rfl rfl rfl (Y.pickF rfl rfl) ?_
                refine J.p rfl rfl rfl rfl (Y.asg rfl) ?_
                refine J.nx ?_
                refine C.ret ?_
                obtain rfl := Option.some.inj H
                exact ret_ok (ks := [2]) rfl rfl (fun w h => ⟨rfl, (St.pick [] [_, _, _, _] h rfl)⟩)
            · refine J.as (k := 139) rfl (congrArg Value.bool (decide_eq_false c309)) ?_
              refine J.skip rfl rfl ?_
              refine J.skip rfl rfl ?_
              refine J.p rfl rfl rfl rfl (Y.pickF rfl rfl) ?_
              refine J.p rfl rfl rfl rfl (Y.mv rfl) ?_
              refine J.skip rfl rfl ?_
              refine J.p rfl rfl rfl rfl (Y.pickF rfl rfl) ?_
              refine J.p rfl rfl rfl rfl (Y.asg rfl) ?_
              refine J.nx ?_
              refine C.ret ?_
              obtain rfl := Option.some.inj H
              exact ret_ok (ks := [2]) rfl rfl (fun w h => ⟨rfl, (St.pick [] [_, _, _, _] h rfl)⟩)
          · refine J.as (k := 133) rfl (congrArg Value.bool (nt c308)) ?_
            refine J.skip rfl rfl ?_
            refine J.skip rfl rfl ?_
            refine J.skip rfl rfl ?_
            refine J.skip rfl rfl ?_
            refine J.p rfl rfl rfl rfl (Y.pickF rfl rfl) ?_
            refine J.p rfl rfl rfl rfl (Y.mv rfl) ?_
            refine J.skip rfl rfl ?_
            refine J.skip rfl rfl ?_
            refine J.p rfl rfl rfl rfl (Y.pickF rfl rfl) ?_
            refine J.p rfl rfl rfl rfl (Y.mv rfl) ?_
            refine J.skip rfl rfl ?_
            refine J.p rfl rfl rfl rfl (Y.pickF rfl rfl) ?_
            refine J.p rfl rfl rfl rfl (Y.asg rfl) ?_
            refine J.nx ?_
            refine C.ret ?_
            obtain rfl := Option.some.inj H
            exact ret_ok (ks := [2]) rfl rfl (fun w h => ⟨rfl, (St.pick [] [_, _, _, _] h rfl)⟩)
end Go.Proofs.Ytakolnamobkkkaa
