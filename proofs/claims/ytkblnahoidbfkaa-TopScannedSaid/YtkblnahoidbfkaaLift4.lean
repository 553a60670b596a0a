/- Own text, printed by the lifting program: each Go function beside a plain function, and the proof that a call of the one comes to the other. Conditions: what came in can be read. -/
import Derived.Test.YtkblnahoidbfkaaLiftF
set_option linter.unusedVariables false
set_option linter.unusedSimpArgs false
set_option maxRecDepth 10000
set_option maxHeartbeats 4000000
namespace Go.Proofs.Ytkblnahoidbfkaa
open Go Go.Sx
theorem go28 : GoF Try.prog 28 := GoF.of Try.func28 (by kernel_rfl) (by kernel_rfl)
/-! ### salvor/salvorlaw5.ScanCover: function 4 -/
def ScanCover.l2 (K : Nat) (t1 : (List T40_)) (i235 : Int × Int) (a0 : List Int) : Nat → (Int) → Option (((Bool) ⊕ (Int)) ⊕ (Unit))
  | 0, _ => none
  | k + 1, i336 => if i336 < (IntKind.wrap .i64 (((rd t1 i235.2).2.1) + ((rd t1 i235.2).2.2))) then ((fDecode.f K a0 i336).bind fun t339 => (if ((rd t1 i235.2).1) = true then (some false) else (some (decide (i336 = ((rd t1 i235.2).2.1))))).bind fun o344 => (if o344 ≠ (decide (t339.2.2.2.2.2.2.2.2.2.2.2.2.2.2.2 = 0)) then (some true) else (if o344 = true then (some (decide (t339.2.2.2.2.2.2.2.2.2.2.2.2.2.2.1 ≠ ((rd t1 i235.2).2.2)))) else (some false))).bind fun o351 => if o351 = true then (some (.inl (.inl (false)))) else (ScanCover.l2 K t1 i235 a0 k (IntKind.wrap .i64 (i336 + 1)))) else (some (.inr ()))
def ScanCover.l1 (K : Nat) (t1 : (List T40_)) (a0 : List Int) : Nat → (Int × Int) → Option ((Bool) ⊕ (Int))
  | 0, _ => none
  | k + 1, i235 => if i235.2 < (t1.length : Int) then (gd ((0 : Int) ≤ i235.2 ∧ i235.2 < (t1.length : Int)) (gd ((0 : Int) ≤ i235.2 ∧ i235.2 < (t1.length : Int)) ((if ((rd t1 i235.2).2.1) ≠ i235.1 then (some true) else (if ((rd t1 i235.2).2.2) < 1 then (some true) else (if (IntKind.wrap .i64 ((a0.length : Int) - i235.1)) < ((rd t1 i235.2).2.2) then (some true) else (if ((rd t1 i235.2).1) = true then (if 0 < i235.2 then (gd ((0 : Int) ≤ (IntKind.wrap .i64 (i235.2 - 1)) ∧ (IntKind.wrap .i64 (i235.2 - 1)) < (t1.length : Int)) (gd ((0 : Int) ≤ (IntKind.wrap .i64 (i235.2 - 1)) ∧ (IntKind.wrap .i64 (i235.2 - 1)) < (t1.length : Int)) (some ((rd t1 (IntKind.wrap .i64 (i235.2 - 1))).1)))) else (some false)) else (some false))))).bind fun o253 => if o253 = true then (some (.inl (false))) else (thn (ScanCover.l2 K t1 i235 a0 K ((rd t1 i235.2).2.1)) fun o301 => ScanCover.l1 K t1 a0 k (IntKind.wrap .i64 (i235.1 + ((rd t1 i235.2).2.2)), IntKind.wrap .i64 (i235.2 + 1)))))) else (some (.inr i235.1))
def ScanCover.f (K : Nat) (a0 : List Int) : Option (Bool) := (sExtents.f K a0).bind fun t1 => (works.f K).bind fun t6 => thn (ScanCover.l1 K t1 a0 K (0, 0)) fun o122 => if o122 = (a0.length : Int) then (some t6) else (some false)
theorem ScanCover.calls {B : Nat} {w0 : World} {G : List HP} (K : Nat) (a0 : List Int) (Aa0 : Option Addr) (ca0 : Nat) (ha0 : RdG B w0 G Aa0 (a0.map (Value.int .u8))) (ka0 : a0.length ≤ ca0) (r : Bool) (H : ScanCover.f K a0 = some r) (w : World) (hw : St B w0 (G) w) :
    Calls Try.prog 4 [.slice Aa0 a0.length ca0].toArray w (fun e w' => e = .returned (.bool r) ∧ St B w0 (G) w') := by
  unfold ScanCover.f at H
  refine calls_of (n := 111) (s := [(0, .slice Aa0 a0.length ca0)]) Try.func4 rfl rfl rfl rfl ?_ hw
  refine C.rs ?_
  refine J.p rfl rfl rfl rfl (Y.asg rfl) ?_
  refine J.nx ?_
  refine C.rs ?_
  refine J.p rfl rfl rfl rfl (Y.mv rfl) ?_
  obtain ⟨t1, hC2, H⟩ := bind_some H
  refine J.call (us := []) (cap := []) rfl rfl rfl go14 (fun w hw => by have hcc := sExtents.calls K a0 Aa0 ca0 ha0 ka0 t1 hC2 w hw; exact hcc) (fun e w1 h1 => ?_)
  obtain ⟨A3, c4, rfl, hw363⟩ := h1
  refine ⟨_, _, rfl, hw363, ?_⟩
  refine J.p rfl rfl rfl rfl (Y.asg rfl) ?_
  refine J.nx ?_
  refine C.rs ?_
  obtain ⟨t6, hC7, H⟩ := bind_some H
  refine J.call (us := []) (cap := []) rfl rfl rfl go28 (fun w hw => by have hcc := works.calls K t6 hC7 w hw; exact hcc) (fun e w1 h1 => ?_)
  obtain ⟨rfl, hw362⟩ := h1
  refine ⟨_, _, rfl, hw362, ?_⟩
  refine J.p rfl rfl rfl rfl (Y.asg rfl) ?_
  refine J.nx ?_
  refine C.rs ?_
  refine J.p rfl rfl rfl rfl (Y.asg rfl) ?_
  refine J.nx ?_
  refine C.seq ?_
  refine C.rs ?_
  refine J.p rfl rfl rfl rfl (Y.asg rfl) ?_
  refine J.nx ?_
  refine C.joinNR H (fun (o122 : Int) (j123 : Unit) => [(0, .slice Aa0 a0.length ca0), (4, .bool t6), (5, .int .i64 o122)]) (fun (o122 : Int) (j123 : Unit) => G) (fun (o122 : Int) (j123 : Unit) => True) (fun o120 H HK121 => ?_) (fun o122 j123 H _ => ?_)
  · refine C.blk ?_
    refine C.loop (fun (i : Nat × (Int × Int) × (Unit)) => [(0, .slice Aa0 a0.length ca0), (3, .slice A3 t1.length c4), (4, .bool t6), (5, .int .i64 i.2.1.1), (6, .int .i64 i.2.1.2)]) (fun (i : Nat × (Int × Int) × (Unit)) => own 40 3 A3 c4 (t1.flatMap encT40_) :: G) (fun (i : Nat × (Int × Int) × (Unit)) => ScanCover.l1 K t1 a0 i.1 i.2.1 = some o120 ∧ (True)) (fun i => i.1) (K, (0, 0), ()) ⟨H, trivial⟩ (by exact ⟨rfl, rfl, rfl, rfl, rfl, trivial⟩) (by exact fun w h => h) ?_
    rintro ⟨k360, i235, j236⟩ ⟨H, _⟩
    replace H : ScanCover.l1 K t1 a0 k360 i235 = some o120 := H
    obtain ⟨k234, rfl⟩ : ∃ m, k360 = m + 1 := by cases k360 with | zero => exact absurd H (by simp [ScanCover.l1]) | succ m => exact ⟨m, rfl⟩
    rw [ScanCover.l1] at H
    refine C.at (s' := [(0, .slice Aa0 a0.length ca0), (3, .slice A3 t1.length c4), (4, .bool t6), (5, .int .i64 i235.1), (6, .int .i64 i235.2)]) (G' := own 40 3 A3 c4 (t1.flatMap encT40_) :: G) rfl rfl ?_
    refine C.seq ?_
    refine C.rs ?_
    refine J.p rfl rfl rfl rfl (Y.mv rfl) ?_
    refine J.p rfl rfl rfl rfl (Y.mv rfl) ?_
    refine J.p rfl rfl rfl rfl (Y.lenS Try.underlying28 rfl) ?_
    refine J.p rfl rfl rfl rfl (Y.bin rfl rfl rfl) ?_
    refine J.nx ?_
    refine split2 H (fun c237 H => ?_) (fun c237 H => ?_)
    · refine C.condT (congrArg (fun b => some (Value.bool b)) (decide_eq_true c237)) ?_
      refine C.skip ?_
      refine N.nx ?_
      refine C.seq ?_
      refine C.blk ?_
      refine C.rs ?_
      refine J.p rfl rfl rfl rfl (Y.mv rfl) ?_
      refine J.p rfl rfl rfl rfl (Y.mv rfl) ?_
      obtain ⟨p240, H⟩ := gd_some H
      refine J.know (RdG.someM lenT40_ (by decide) (RdG.own 0 rfl) p240) (fun hh => ?_)
      obtain ⟨a238, ha239⟩ := hh
      refine J.p rfl rfl rfl rfl (Y.ixa Try.underlying28 ti40 rfl rfl p240 ha239) ?_
      obtain ⟨p241, H⟩ := gd_some H
      refine J.r rfl rfl rfl rfl (Y.ldM (us := [.bool ((rd t1 i235.2).1), .int .i64 ((rd t1 i235.2).2.1), .int .i64 ((rd t1 i235.2).2.2)]) lenT40_ Try.underlying40 rfl ti40 rfl ha239 p241 (RdG.own 0 rfl) rfl) ?_
      refine J.alloc (L := [.bool false, .int .i64 0, .int .i64 0]) rfl ti40 rfl (fun g242 => ?_)
      refine J.stA (us := [.bool ((rd t1 i235.2).1), .int .i64 ((rd t1 i235.2).2.1), .int .i64 ((rd t1 i235.2).2.2)]) (L' := [.bool ((rd t1 i235.2).1), .int .i64 ((rd t1 i235.2).2.1), .int .i64 ((rd t1 i235.2).2.2)]) ti40 rfl rfl rfl rfl rfl rfl ?_
      refine J.nx ?_
      refine C.seq ?_
      refine C.rs ?_
      refine J.joinB H (fun (o253 : Bool) (j254 : Unit) => [(0, .slice Aa0 a0.length ca0), (3, .slice A3 t1.length c4), (4, .bool t6), (5, .int .i64 i235.1), (6, .int .i64 i235.2), (7, .pointer (some ⟨g242, 0, none⟩)), (59, .bool o253)]) (fun (o253 : Bool) (j254 : Unit) => own 40 3 A3 c4 (t1.flatMap encT40_) :: cells g242 40 [.bool ((rd t1 i235.2).1), .int .i64 ((rd t1 i235.2).2.1), .int .i64 ((rd t1 i235.2).2.2)] :: G) (fun (o253 : Bool) (j254 : Unit) => True) (fun o255 H HK256 => ?_) (fun o253 j254 H _ => ?_)
      · refine J.p rfl rfl rfl rfl (Y.fa0 fa40_1 rfl rfl) ?_
        refine J.r rfl rfl rfl rfl (Y.ldC 0 Try.underlying3 rfl rfl rfl rfl) ?_
        refine J.p rfl rfl rfl rfl (Y.mv rfl) ?_
        refine J.p rfl rfl rfl rfl (Y.bin rfl rfl rfl) ?_
        refine J.p rfl rfl rfl rfl (Y.mv rfl) ?_
        refine split2 H (fun c257 H => ?_) (fun c257 H => ?_)
        · refine J.as (k := 30) rfl (congrArg Value.bool (decide_eq_true c257)) ?_
          refine J.skip rfl rfl ?_
          refine J.skip rfl rfl ?_
          refine J.skip rfl rfl ?_
          refine J.p rfl rfl rfl rfl (Y.pickT rfl rfl) ?_
          refine J.p rfl rfl rfl rfl (Y.mv rfl) ?_
          refine J.skip rfl rfl ?_
          refine J.skip rfl rfl ?_
          refine J.skip rfl rfl ?_
          refine J.skip rfl rfl ?_
          refine J.skip rfl rfl ?_
          refine J.skip rfl rfl ?_
          refine J.skip rfl rfl ?_
          refine J.p rfl rfl rfl rfl (Y.pickT rfl rfl) ?_
          refine J.p rfl rfl rfl rfl (Y.mv rfl) ?_
          refine J.skip rfl rfl ?_
          refine J.skip rfl rfl ?_
          refine J.skip rfl rfl ?_
          refine J.skip rfl rfl ?_
          refine J.skip rfl rfl ?_
          refine J.skip rfl rfl ?_
          refine J.skip rfl rfl ?_
          refine J.skip rfl rfl ?_
          refine J.skip rfl rfl ?_
          refine J.skip rfl rfl ?_
          refine J.skip rfl rfl ?_
          refine J.skip rfl rfl ?_
          refine J.skip rfl rfl ?_
          refine J.skip rfl rfl ?_
          refine J.p rfl rfl rfl rfl (Y.pickT rfl rfl) ?_
          refine J.nil ?_
          obtain rfl := Option.some.inj H
          exact N.meet (true, ()) ⟨HK256, trivial⟩ (by exact ⟨rfl, rfl, rfl, rfl, rfl, rfl, rfl, trivial⟩) (by exact fun w h => (St.pick [1, 0] [_, _] h rfl))
        · refine J.as (k := 30) rfl (congrArg Value.bool (decide_eq_false c257)) ?_
          refine J.p rfl rfl rfl rfl (Y.fa0 fa40_2 rfl rfl) ?_
          refine J.r rfl rfl rfl rfl (Y.ldC 0 Try.underlying3 rfl rfl rfl rfl) ?_
          refine J.p rfl rfl rfl rfl (Y.bin rfl rfl rfl) ?_
          refine J.p rfl rfl rfl rfl (Y.pickF rfl rfl) ?_
          refine J.p rfl rfl rfl rfl (Y.mv rfl) ?_
          refine split2 H (fun c258 H => ?_) (fun c258 H => ?_)
          · refine J.as (k := 35) rfl (congrArg Value.bool (decide_eq_true c258)) ?_
            refine J.skip rfl rfl ?_
            refine J.skip rfl rfl ?_
            refine J.skip rfl rfl ?_
            refine J.skip rfl rfl ?_
            refine J.skip rfl rfl ?_
            refine J.skip rfl rfl ?_
            refine J.skip rfl rfl ?_
            refine J.p rfl rfl rfl rfl (Y.pickT rfl rfl) ?_
            refine J.p rfl rfl rfl rfl (Y.mv rfl) ?_
            refine J.skip rfl rfl ?_
            refine J.skip rfl rfl ?_
            refine J.skip rfl rfl ?_
            refine J.skip rfl rfl ?_
            refine J.skip rfl rfl ?_
            refine J.skip rfl rfl ?_
            refine J.skip rfl rfl ?_
            refine J.skip rfl rfl ?_
            refine J.skip rfl rfl ?_
            refine J.skip rfl rfl ?_
            refine J.skip rfl rfl ?_
            refine J.skip rfl rfl ?_
            refine J.skip rfl rfl ?_
            refine J.skip rfl rfl ?_
            refine J.p rfl rfl rfl rfl (Y.pickT rfl rfl) ?_
            refine J.nil ?_
            obtain rfl := Option.some.inj H
            exact N.meet (true, ()) ⟨HK256, trivial⟩ (by exact ⟨rfl, rfl, rfl, rfl, rfl, rfl, rfl, trivial⟩) (by exact fun w h => (St.pick [1, 0] [_, _] h rfl))
          · refine J.as (k := 35) rfl (congrArg Value.bool (decide_eq_false c258)) ?_
            refine J.p rfl rfl rfl rfl (Y.fa0 fa40_2 rfl rfl) ?_
            refine J.r rfl rfl rfl rfl (Y.ldC 0 Try.underlying3 rfl rfl rfl rfl) ?_
            refine J.p rfl rfl rfl rfl (Y.mv rfl) ?_
            refine J.p rfl rfl rfl rfl (Y.lenS Try.underlying22 rfl) ?_
            refine J.p rfl rfl rfl rfl (Y.mv rfl) ?_
            refine J.p rfl rfl rfl rfl (Y.bin rfl rfl rfl) ?_
            refine J.p rfl rfl rfl rfl (Y.bin rfl rfl rfl) ?_
            refine J.p rfl rfl rfl rfl (Y.pickF rfl rfl) ?_
            refine J.p rfl rfl rfl rfl (Y.mv rfl) ?_
            refine split2 H (fun c259 H => ?_) (fun c259 H => ?_)
            · refine J.as (k := 44) rfl (congrArg Value.bool (decide_eq_true c259)) ?_
              refine J.skip rfl rfl ?_
              refine J.skip rfl rfl ?_
              refine J.skip rfl rfl ?_
              refine J.skip rfl rfl ?_
              refine J.skip rfl rfl ?_
              refine J.skip rfl rfl ?_
              refine J.skip rfl rfl ?_
              refine J.skip rfl rfl ?_
              refine J.skip rfl rfl ?_
              refine J.skip rfl rfl ?_
              refine J.skip rfl rfl ?_
              refine J.skip rfl rfl ?_
              refine J.skip rfl rfl ?_
              refine J.skip rfl rfl ?_
              refine J.p rfl rfl rfl rfl (Y.pickT rfl rfl) ?_
              refine J.nil ?_
              obtain rfl := Option.some.inj H
              exact N.meet (true, ()) ⟨HK256, trivial⟩ (by exact ⟨rfl, rfl, rfl, rfl, rfl, rfl, rfl, trivial⟩) (by exact fun w h => (St.pick [1, 0] [_, _] h rfl))
            · refine J.as (k := 44) rfl (congrArg Value.bool (decide_eq_false c259)) ?_
              refine J.p rfl rfl rfl rfl (Y.fa0 fa40_0 rfl rfl) ?_
              refine J.r rfl rfl rfl rfl (Y.ldC 0 Try.underlying4 rfl rfl rfl rfl) ?_
              refine J.p rfl rfl rfl rfl (Y.mv rfl) ?_
              refine split2 H (fun c260 H => ?_) (fun c260 H => ?_)
              · refine J.as (k := 47) rfl (congrArg Value.bool (c260)) ?_
                refine J.p rfl rfl rfl rfl (Y.mv rfl) ?_
                refine J.p rfl rfl rfl rfl (Y.bin rfl rfl rfl) ?_
                refine J.p rfl rfl rfl rfl (Y.pickT rfl rfl) ?_
                refine J.p rfl rfl rfl rfl (Y.mv rfl) ?_
                refine split2 H (fun c261 H => ?_) (fun c261 H => ?_)
                · refine J.as (k := 51) rfl (congrArg Value.bool (decide_eq_true c261)) ?_
                  refine J.p rfl rfl rfl rfl (Y.mv rfl) ?_
                  refine J.p rfl rfl rfl rfl (Y.mv rfl) ?_
                  refine J.p rfl rfl rfl rfl (Y.bin rfl rfl rfl) ?_
                  obtain ⟨p264, H⟩ := gd_some H
                  refine J.know (RdG.someM lenT40_ (by decide) (RdG.own 1 rfl) p264) (fun hh => ?_)
                  obtain ⟨a262, ha263⟩ := hh
                  refine J.p rfl rfl rfl rfl (Y.ixa Try.underlying28 ti40 rfl rfl p264 ha263) ?_
                  refine J.p rfl rfl rfl rfl (Y.faA fa40_0 rfl) ?_
                  obtain ⟨p265, H⟩ := gd_some H
                  refine J.r rfl rfl rfl rfl (Y.ldF lenT40_ Try.underlying4 rfl rfl ha263 p265 (by decide) (RdG.own 1 rfl) rfl) ?_
                  refine J.p rfl rfl rfl rfl (Y.pickT rfl rfl) ?_
                  refine J.p rfl rfl rfl rfl (Y.pickF rfl rfl) ?_
                  refine J.nil ?_
                  obtain rfl := Option.some.inj H
                  exact N.meet ((rd t1 (IntKind.wrap .i64 (i235.2 - 1))).1, ()) ⟨HK256, trivial⟩ (by exact ⟨rfl, rfl, rfl, rfl, rfl, rfl, rfl, trivial⟩) (by exact fun w h => (St.pick [1, 0] [_, _] h rfl))
                · refine J.as (k := 51) rfl (congrArg Value.bool (decide_eq_false c261)) ?_
                  refine J.skip rfl rfl ?_
                  refine J.skip rfl rfl ?_
                  refine J.skip rfl rfl ?_
                  refine J.skip rfl rfl ?_
                  refine J.skip rfl rfl ?_
                  refine J.skip rfl rfl ?_
                  refine J.p rfl rfl rfl rfl (Y.pickF rfl rfl) ?_
                  refine J.p rfl rfl rfl rfl (Y.pickF rfl rfl) ?_
                  refine J.nil ?_
                  obtain rfl := Option.some.inj H
                  exact N.meet (false, ()) ⟨HK256, trivial⟩ (by exact ⟨rfl, rfl, rfl, rfl, rfl, rfl, rfl, trivial⟩) (by exact fun w h => (St.pick [1, 0] [_, _] h rfl))
              · refine J.as (k := 47) rfl (congrArg Value.bool (nt c260)) ?_
                refine J.skip rfl rfl ?_
                refine J.skip rfl rfl ?_
                refine J.p rfl rfl rfl rfl (Y.pickF rfl rfl) ?_
                refine J.p rfl rfl rfl rfl (Y.mv rfl) ?_
                refine J.skip rfl rfl ?_
                refine J.skip rfl rfl ?_
                refine J.skip rfl rfl ?_
                refine J.skip rfl rfl ?_
                refine J.skip rfl rfl ?_
                refine J.skip rfl rfl ?_
                refine J.p rfl rfl rfl rfl (Y.pickF rfl rfl) ?_
                refine J.p rfl rfl rfl rfl (Y.pickF rfl rfl) ?_
                refine J.nil ?_
                obtain rfl := Option.some.inj H
                exact N.meet (false, ()) ⟨HK256, trivial⟩ (by exact ⟨rfl, rfl, rfl, rfl, rfl, rfl, rfl, trivial⟩) (by exact fun w h => (St.pick [1, 0] [_, _] h rfl))
      · refine C.at (s' := [(0, .slice Aa0 a0.length ca0), (3, .slice A3 t1.length c4), (4, .bool t6), (5, .int .i64 i235.1), (6, .int .i64 i235.2), (7, .pointer (some ⟨g242, 0, none⟩)), (59, .bool o253)]) (G' := own 40 3 A3 c4 (t1.flatMap encT40_) :: cells g242 40 [.bool ((rd t1 i235.2).1), .int .i64 ((rd t1 i235.2).2.1), .int .i64 ((rd t1 i235.2).2.2)] :: G) rfl rfl ?_
        refine split2 H (fun c266 H => ?_) (fun c266 H => ?_)
        · refine C.condT (congrArg (fun b => some (Value.bool b)) (c266)) ?_
          refine C.rs ?_
          refine J.p rfl rfl rfl rfl (Y.asg rfl) ?_
          refine J.nx ?_
          refine C.ret ?_
          obtain rfl := Option.some.inj H
          obtain rfl := fin_inl HK121
          refine T.th ?_
          refine T.ib ?_
          refine T.th ?_
          refine T.th ?_
          refine T.ib ?_
          refine T.th ?_
          refine T.th ?_
          exact ret_ok (ks := [2]) rfl rfl (fun w h => ⟨rfl, (St.pick [] [_, _] h rfl)⟩)
        · refine C.condF (congrArg (fun b => some (Value.bool b)) (nt c266)) ?_
          refine C.skip ?_
          refine N.nx ?_
          refine C.seq ?_
          refine C.rs ?_
          refine J.p rfl rfl rfl rfl (Y.fa0 fa40_1 rfl rfl) ?_
          refine J.r rfl rfl rfl rfl (Y.ldC 1 Try.underlying3 rfl rfl rfl rfl) ?_
          refine J.p rfl rfl rfl rfl (Y.asg rfl) ?_
          refine J.nx ?_
          refine C.joinNR H (fun (o301 : Unit) (j302 : Unit) => [(0, .slice Aa0 a0.length ca0), (3, .slice A3 t1.length c4), (4, .bool t6), (5, .int .i64 i235.1), (6, .int .i64 i235.2), (7, .pointer (some ⟨g242, 0, none⟩))]) (fun (o301 : Unit) (j302 : Unit) => own 40 3 A3 c4 (t1.flatMap encT40_) :: cells g242 40 [.bool ((rd t1 i235.2).1), .int .i64 ((rd t1 i235.2).2.1), .int .i64 ((rd t1 i235.2).2.2)] :: G) (fun (o301 : Unit) (j302 : Unit) => True) (fun o299 H HK300 => ?_) (fun o301 j302 H _ => ?_)
          · refine C.blk ?_
            refine C.loop (fun (i : Nat × (Int) × (Unit)) => [(0, .slice Aa0 a0.length ca0), (3, .slice A3 t1.length c4), (4, .bool t6), (5, .int .i64 i235.1), (6, .int .i64 i235.2), (7, .pointer (some ⟨g242, 0, none⟩)), (8, .int .i64 i.2.1)]) (fun (i : Nat × (Int) × (Unit)) => own 40 3 A3 c4 (t1.flatMap encT40_) :: cells g242 40 [.bool ((rd t1 i235.2).1), .int .i64 ((rd t1 i235.2).2.1), .int .i64 ((rd t1 i235.2).2.2)] :: G) (fun (i : Nat × (Int) × (Unit)) => ScanCover.l2 K t1 i235 a0 i.1 i.2.1 = some o299 ∧ (True)) (fun i => i.1) (K, (rd t1 i235.2).2.1, ()) ⟨H, trivial⟩ (by exact ⟨rfl, rfl, rfl, rfl, rfl, rfl, rfl, trivial⟩) (by exact fun w h => h) ?_
            rintro ⟨k359, i336, j337⟩ ⟨H, _⟩
            replace H : ScanCover.l2 K t1 i235 a0 k359 i336 = some o299 := H
            obtain ⟨k335, rfl⟩ : ∃ m, k359 = m + 1 := by cases k359 with | zero => exact absurd H (by simp [ScanCover.l2]) | succ m => exact ⟨m, rfl⟩
            rw [ScanCover.l2] at H
            refine C.at (s' := [(0, .slice Aa0 a0.length ca0), (3, .slice A3 t1.length c4), (4, .bool t6), (5, .int .i64 i235.1), (6, .int .i64 i235.2), (7, .pointer (some ⟨g242, 0, none⟩)), (8, .int .i64 i336)]) (G' := own 40 3 A3 c4 (t1.flatMap encT40_) :: cells g242 40 [.bool ((rd t1 i235.2).1), .int .i64 ((rd t1 i235.2).2.1), .int .i64 ((rd t1 i235.2).2.2)] :: G) rfl rfl ?_
            refine C.seq ?_
            refine C.rs ?_
            refine J.p rfl rfl rfl rfl (Y.mv rfl) ?_
            refine J.p rfl rfl rfl rfl (Y.fa0 fa40_1 rfl rfl) ?_
            refine J.r rfl rfl rfl rfl (Y.ldC 1 Try.underlying3 rfl rfl rfl rfl) ?_
            refine J.p rfl rfl rfl rfl (Y.fa0 fa40_2 rfl rfl) ?_
            refine J.r rfl rfl rfl rfl (Y.ldC 1 Try.underlying3 rfl rfl rfl rfl) ?_
            refine J.p rfl rfl rfl rfl (Y.bin rfl rfl rfl) ?_
            refine J.p rfl rfl rfl rfl (Y.bin rfl rfl rfl) ?_
            refine J.nx ?_
            refine split2 H (fun c338 H => ?_) (fun c338 H => ?_)
            · refine C.condT (congrArg (fun b => some (Value.bool b)) (decide_eq_true c338)) ?_
              refine C.skip ?_
              refine N.nx ?_
              refine C.seq ?_
              refine C.blk ?_
              refine C.rs ?_
              refine J.p rfl rfl rfl rfl (Y.mv rfl) ?_
              refine J.p rfl rfl rfl rfl (Y.mv rfl) ?_
              obtain ⟨t339, hC340, H⟩ := bind_some H
              refine J.call (us := []) (cap := []) rfl rfl rfl go29 (fun w hw => by have hcc := fDecode.calls K a0 i336 Aa0 ca0 (ha0.suf [_, _] rfl) ka0 t339 hC340 w hw; exact hcc) (fun e w1 h1 => ?_)
              obtain ⟨rfl, hw358⟩ := h1
              refine ⟨_, _, rfl, hw358, ?_⟩
              refine J.p rfl rfl rfl rfl (Y.mv rfl) ?_
              refine J.p rfl rfl rfl rfl (Y.ext rfl rfl) ?_
              refine J.p rfl rfl rfl rfl (Y.ext rfl rfl) ?_
              refine J.p rfl rfl rfl rfl (Y.ext rfl rfl) ?_
              refine J.alloc (L := [.int .i64 0, .int .u64 0, .int .i64 0, .string ByteArray.empty, .string ByteArray.empty, .int .u64 0, .int .i64 0, .int .i64 0, .int .i64 0, .string ByteArray.empty, .int .i64 0, .int .i64 0, .int .i64 0, .int .u32 0]) rfl ti53 rfl (fun g341 => ?_)
              refine J.stA (us := [.int .i64 t339.1, .int .u64 t339.2.1, .int .i64 t339.2.2.1, .string t339.2.2.2.1, .string t339.2.2.2.2.1, .int .u64 t339.2.2.2.2.2.1, .int .i64 t339.2.2.2.2.2.2.1, .int .i64 t339.2.2.2.2.2.2.2.1, .int .i64 t339.2.2.2.2.2.2.2.2.1, .string t339.2.2.2.2.2.2.2.2.2.1, .int .i64 t339.2.2.2.2.2.2.2.2.2.2.1, .int .i64 t339.2.2.2.2.2.2.2.2.2.2.2.1, .int .i64 t339.2.2.2.2.2.2.2.2.2.2.2.2.1, .int .u32 t339.2.2.2.2.2.2.2.2.2.2.2.2.2.1]) (L' := [.int .i64 t339.1, .int .u64 t339.2.1, .int .i64 t339.2.2.1, .string t339.2.2.2.1, .string t339.2.2.2.2.1, .int .u64 t339.2.2.2.2.2.1, .int .i64 t339.2.2.2.2.2.2.1, .int .i64 t339.2.2.2.2.2.2.2.1, .int .i64 t339.2.2.2.2.2.2.2.2.1, .string t339.2.2.2.2.2.2.2.2.2.1, .int .i64 t339.2.2.2.2.2.2.2.2.2.2.1, .int .i64 t339.2.2.2.2.2.2.2.2.2.2.2.1, .int .i64 t339.2.2.2.2.2.2.2.2.2.2.2.2.1, .int .u32 t339.2.2.2.2.2.2.2.2.2.2.2.2.2.1]) ti53 rfl rfl rfl rfl rfl rfl ?_
              refine J.p rfl rfl rfl rfl (Y.asg rfl) ?_
              refine J.p rfl rfl rfl rfl (Y.asg rfl) ?_
              refine J.nx ?_
              refine C.rs ?_
              refine J.joinB H (fun (o344 : Bool) (j345 : Unit) => [(0, .slice Aa0 a0.length ca0), (3, .slice A3 t1.length c4), (4, .bool t6), (5, .int .i64 i235.1), (6, .int .i64 i235.2), (7, .pointer (some ⟨g242, 0, none⟩)), (8, .int .i64 i336), (10, .int .i64 t339.2.2.2.2.2.2.2.2.2.2.2.2.2.2.1), (11, .int .i64 t339.2.2.2.2.2.2.2.2.2.2.2.2.2.2.2), (12, .bool o344)]) (fun (o344 : Bool) (j345 : Unit) => own 40 3 A3 c4 (t1.flatMap encT40_) :: cells g242 40 [.bool ((rd t1 i235.2).1), .int .i64 ((rd t1 i235.2).2.1), .int .i64 ((rd t1 i235.2).2.2)] :: G) (fun (o344 : Bool) (j345 : Unit) => True) (fun o346 H HK347 => ?_) (fun o344 j345 H _ => ?_)
              · refine J.p rfl rfl rfl rfl (Y.fa0 fa40_0 rfl rfl) ?_
                refine J.r rfl rfl rfl rfl (Y.ldC 2 Try.underlying4 rfl rfl rfl rfl) ?_
                refine J.p rfl rfl rfl rfl (Y.notb rfl) ?_
                refine J.p rfl rfl rfl rfl (Y.mv rfl) ?_
                refine split2 H (fun c348 H => ?_) (fun c348 H => ?_)
                · refine J.as (k := 81) rfl (congrArg Value.bool (congrArg Bool.not (c348))) ?_
                  refine J.skip rfl rfl ?_
                  refine J.skip rfl rfl ?_
                  refine J.skip rfl rfl ?_
                  refine J.skip rfl rfl ?_
                  refine J.p rfl rfl rfl rfl (Y.pickF rfl rfl) ?_
                  refine J.p rfl rfl rfl rfl (Y.asg rfl) ?_
                  refine J.nil ?_
                  obtain rfl := Option.some.inj H
                  exact N.meet (false, ()) ⟨HK347, trivial⟩ (by exact ⟨rfl, rfl, rfl, rfl, rfl, rfl, rfl, rfl, rfl, rfl, trivial⟩) (by exact fun w h => (St.pick [1, 2] [_, _, _] h rfl))
                · refine J.as (k := 81) rfl (congrArg Value.bool (congrArg Bool.not (nt c348))) ?_
                  refine J.p rfl rfl rfl rfl (Y.mv rfl) ?_
                  refine J.p rfl rfl rfl rfl (Y.fa0 fa40_1 rfl rfl) ?_
                  refine J.r rfl rfl rfl rfl (Y.ldC 2 Try.underlying3 rfl rfl rfl rfl) ?_
                  refine J.p rfl rfl rfl rfl (Y.bin rfl rfl rfl) ?_
                  refine J.p rfl rfl rfl rfl (Y.pickT rfl rfl) ?_
                  refine J.p rfl rfl rfl rfl (Y.asg rfl) ?_
                  refine J.nil ?_
                  obtain rfl := Option.some.inj H
                  exact N.meet (decide (i336 = ((rd t1 i235.2).2.1)), ()) ⟨HK347, trivial⟩ (by exact ⟨rfl, rfl, rfl, rfl, rfl, rfl, rfl, rfl, rfl, rfl, trivial⟩) (by exact fun w h => (St.pick [1, 2] [_, _, _] h rfl))
              · refine C.at (s' := [(0, .slice Aa0 a0.length ca0), (3, .slice A3 t1.length c4), (4, .bool t6), (5, .int .i64 i235.1), (6, .int .i64 i235.2), (7, .pointer (some ⟨g242, 0, none⟩)), (8, .int .i64 i336), (10, .int .i64 t339.2.2.2.2.2.2.2.2.2.2.2.2.2.2.1), (11, .int .i64 t339.2.2.2.2.2.2.2.2.2.2.2.2.2.2.2), (12, .bool o344)]) (G' := own 40 3 A3 c4 (t1.flatMap encT40_) :: cells g242 40 [.bool ((rd t1 i235.2).1), .int .i64 ((rd t1 i235.2).2.1), .int .i64 ((rd t1 i235.2).2.2)] :: G) rfl rfl ?_
                refine C.rs ?_
                refine J.joinB H (fun (o351 : Bool) (j352 : Unit) => [(0, .slice Aa0 a0.length ca0), (3, .slice A3 t1.length c4), (4, .bool t6), (5, .int .i64 i235.1), (6, .int .i64 i235.2), (7, .pointer (some ⟨g242, 0, none⟩)), (8, .int .i64 i336), (99, .bool o351)]) (fun (o351 : Bool) (j352 : Unit) => own 40 3 A3 c4 (t1.flatMap encT40_) :: cells g242 40 [.bool ((rd t1 i235.2).1), .int .i64 ((rd t1 i235.2).2.1), .int .i64 ((rd t1 i235.2).2.2)] :: G) (fun (o351 : Bool) (j352 : Unit) => True) (fun o353 H HK354 => ?_) (fun o351 j352 H _ => ?_)
                · refine J.p rfl rfl rfl rfl (Y.mv rfl) ?_
                  refine J.p rfl rfl rfl rfl (Y.mv rfl) ?_
                  refine J.p rfl rfl rfl rfl (Y.bin rfl rfl rfl) ?_
                  refine J.p rfl rfl rfl rfl (Y.neb Try.underlying4 rfl rfl) ?_
                  refine J.p rfl rfl rfl rfl (Y.mv rfl) ?_
                  refine split2 H (fun c355 H => ?_) (fun c355 H => ?_)
                  · refine J.as (k := 91) rfl (congrArg Value.bool (decide_eq_true c355)) ?_
                    refine J.skip rfl rfl ?_
                    refine J.skip rfl rfl ?_
                    refine J.skip rfl rfl ?_
                    refine J.skip rfl rfl ?_
                    refine J.skip rfl rfl ?_
                    refine J.skip rfl rfl ?_
                    refine J.skip rfl rfl ?_
                    refine J.p rfl rfl rfl rfl (Y.pickT rfl rfl) ?_
                    refine J.nil ?_
                    obtain rfl := Option.some.inj H
                    exact N.meet (true, ()) ⟨HK354, trivial⟩ (by exact ⟨rfl, rfl, rfl, rfl, rfl, rfl, rfl, rfl, trivial⟩) (by exact fun w h => h)
                  · refine J.as (k := 91) rfl (congrArg Value.bool (decide_eq_false c355)) ?_
                    refine J.p rfl rfl rfl rfl (Y.mv rfl) ?_
                    refine J.p rfl rfl rfl rfl (Y.mv rfl) ?_
                    refine split2 H (fun c356 H => ?_) (fun c356 H => ?_)
                    · refine J.as (k := 93) rfl (congrArg Value.bool (c356)) ?_
                      refine J.p rfl rfl rfl rfl (Y.mv rfl) ?_
                      refine J.p rfl rfl rfl rfl (Y.fa0 fa40_2 rfl rfl) ?_
                      refine J.r rfl rfl rfl rfl (Y.ldC 1 Try.underlying3 rfl rfl rfl rfl) ?_
                      refine J.p rfl rfl rfl rfl (Y.bin rfl rfl rfl) ?_
                      refine J.p rfl rfl rfl rfl (Y.pickT rfl rfl) ?_
                      refine J.p rfl rfl rfl rfl (Y.pickF rfl rfl) ?_
                      refine J.nil ?_
                      obtain rfl := Option.some.inj H
                      exact N.meet (decide (t339.2.2.2.2.2.2.2.2.2.2.2.2.2.2.1 ≠ ((rd t1 i235.2).2.2)), ()) ⟨HK354, trivial⟩ (by exact ⟨rfl, rfl, rfl, rfl, rfl, rfl, rfl, rfl, trivial⟩) (by exact fun w h => h)
                    · refine J.as (k := 93) rfl (congrArg Value.bool (nt c356)) ?_
                      refine J.skip rfl rfl ?_
                      refine J.skip rfl rfl ?_
                      refine J.skip rfl rfl ?_
                      refine J.skip rfl rfl ?_
                      refine J.p rfl rfl rfl rfl (Y.pickF rfl rfl) ?_
                      refine J.p rfl rfl rfl rfl (Y.pickF rfl rfl) ?_
                      refine J.nil ?_
                      obtain rfl := Option.some.inj H
                      exact N.meet (false, ()) ⟨HK354, trivial⟩ (by exact ⟨rfl, rfl, rfl, rfl, rfl, rfl, rfl, rfl, trivial⟩) (by exact fun w h => h)
                · refine C.at (s' := [(0, .slice Aa0 a0.length ca0), (3, .slice A3 t1.length c4), (4, .bool t6), (5, .int .i64 i235.1), (6, .int .i64 i235.2), (7, .pointer (some ⟨g242, 0, none⟩)), (8, .int .i64 i336), (99, .bool o351)]) (G' := own 40 3 A3 c4 (t1.flatMap encT40_) :: cells g242 40 [.bool ((rd t1 i235.2).1), .int .i64 ((rd t1 i235.2).2.1), .int .i64 ((rd t1 i235.2).2.2)] :: G) rfl rfl ?_
                  refine split2 H (fun c357 H => ?_) (fun c357 H => ?_)
                  · refine C.condT (congrArg (fun b => some (Value.bool b)) (c357)) ?_
                    refine C.rs ?_
                    refine J.p rfl rfl rfl rfl (Y.asg rfl) ?_
                    refine J.nx ?_
                    refine C.ret ?_
                    obtain rfl := Option.some.inj H
                    obtain rfl := fin_inl HK300
                    obtain rfl := fin_inl HK121
                    refine T.ib ?_
                    refine T.th ?_
                    refine T.th ?_
                    refine T.ib ?_
                    refine T.th ?_
                    refine T.th ?_
                    refine T.ib ?_
                    refine T.th ?_
                    refine T.th ?_
                    refine T.ib ?_
                    refine T.th ?_
                    refine T.th ?_
                    exact ret_ok (ks := [2]) rfl rfl (fun w h => ⟨rfl, (St.pick [] [_, _] h rfl)⟩)
                  · refine C.condF (congrArg (fun b => some (Value.bool b)) (nt c357)) ?_
                    refine C.skip ?_
                    refine N.ib ?_
                    refine N.nx ?_
                    refine C.reg ?_
                    refine J.p rfl rfl rfl rfl (Y.mv rfl) ?_
                    refine J.p rfl rfl rfl rfl (Y.bin rfl rfl rfl) ?_
                    refine J.p rfl rfl rfl rfl (Y.asg rfl) ?_
                    refine J.nil ?_
                    exact N.again (k335, IntKind.wrap .i64 (i336 + 1), ()) ⟨H, trivial⟩ (Nat.lt_succ_self _) (by exact ⟨rfl, rfl, rfl, rfl, rfl, rfl, rfl, trivial⟩) (by exact fun w h => h)
            · refine C.condF (congrArg (fun b => some (Value.bool b)) (decide_eq_false c338)) ?_
              refine C.exit ?_
              refine X.th ?_
              refine X.th ?_
              refine X.hit ?_
              obtain rfl := Option.some.inj H
              exact N.meet ((), ()) ⟨fin_inr HK300, trivial⟩ (by exact ⟨rfl, rfl, rfl, rfl, rfl, rfl, trivial⟩) (by exact fun w h => h)
          · refine N.at (s' := [(0, .slice Aa0 a0.length ca0), (3, .slice A3 t1.length c4), (4, .bool t6), (5, .int .i64 i235.1), (6, .int .i64 i235.2), (7, .pointer (some ⟨g242, 0, none⟩))]) (G' := own 40 3 A3 c4 (t1.flatMap encT40_) :: cells g242 40 [.bool ((rd t1 i235.2).1), .int .i64 ((rd t1 i235.2).2.1), .int .i64 ((rd t1 i235.2).2.2)] :: G) rfl rfl ?_
            refine N.nx ?_
            refine C.reg ?_
            refine J.p rfl rfl rfl rfl (Y.mv rfl) ?_
            refine J.p rfl rfl rfl rfl (Y.fa0 fa40_2 rfl rfl) ?_
            refine J.r rfl rfl rfl rfl (Y.ldC 1 Try.underlying3 rfl rfl rfl rfl) ?_
            refine J.p rfl rfl rfl rfl (Y.bin rfl rfl rfl) ?_
            refine J.p rfl rfl rfl rfl (Y.asg rfl) ?_
            refine J.nil ?_
            refine N.ib ?_
            refine N.nx ?_
            refine C.reg ?_
            refine J.p rfl rfl rfl rfl (Y.mv rfl) ?_
            refine J.p rfl rfl rfl rfl (Y.bin rfl rfl rfl) ?_
            refine J.p rfl rfl rfl rfl (Y.asg rfl) ?_
            refine J.nil ?_
            exact N.again (k234, (IntKind.wrap .i64 (i235.1 + ((rd t1 i235.2).2.2)), IntKind.wrap .i64 (i235.2 + 1)), ()) ⟨H, trivial⟩ (Nat.lt_succ_self _) (by exact ⟨rfl, rfl, rfl, rfl, rfl, trivial⟩) (by exact fun w h => (St.pick [0] [_, _] h rfl))
    · refine C.condF (congrArg (fun b => some (Value.bool b)) (decide_eq_false c237)) ?_
      refine C.exit ?_
      refine X.th ?_
      refine X.th ?_
      refine X.hit ?_
      obtain rfl := Option.some.inj H
      exact N.meet (i235.1, ()) ⟨fin_inr HK121, trivial⟩ (by exact ⟨rfl, rfl, rfl, trivial⟩) (by exact fun w h => (St.pick [] [_] h rfl))
  · refine N.at (s' := [(0, .slice Aa0 a0.length ca0), (4, .bool t6), (5, .int .i64 o122)]) (G' := G) rfl rfl ?_
    refine N.nx ?_
    refine C.rs ?_
    refine J.p rfl rfl rfl rfl (Y.mv rfl) ?_
    refine J.p rfl rfl rfl rfl (Y.mv rfl) ?_
    refine J.p rfl rfl rfl rfl (Y.lenS Try.underlying22 rfl) ?_
    refine J.p rfl rfl rfl rfl (Y.bin rfl rfl rfl) ?_
    refine J.p rfl rfl rfl rfl (Y.mv rfl) ?_
    refine split2 H (fun c361 H => ?_) (fun c361 H => ?_)
    · refine J.as (k := 108) rfl (congrArg Value.bool (decide_eq_true c361)) ?_
      refine J.p rfl rfl rfl rfl (Y.mv rfl) ?_
      refine J.p rfl rfl rfl rfl (Y.pickT rfl rfl) ?_
      refine J.p rfl rfl rfl rfl (Y.asg rfl) ?_
      refine J.nx ?_
      refine C.ret ?_
      obtain rfl := Option.some.inj H
      exact ret_ok (ks := [2]) rfl rfl (fun w h => ⟨rfl, h⟩)
    · refine J.as (k := 108) rfl (congrArg Value.bool (decide_eq_false c361)) ?_
      refine J.skip rfl rfl ?_
      refine J.p rfl rfl rfl rfl (Y.pickF rfl rfl) ?_
      refine J.p rfl rfl rfl rfl (Y.asg rfl) ?_
      refine J.nx ?_
      refine C.ret ?_
      obtain rfl := Option.some.inj H
      exact ret_ok (ks := [2]) rfl rfl (fun w h => ⟨rfl, h⟩)
end Go.Proofs.Ytkblnahoidbfkaa
