/- Own text, printed by the lifting program: each Go function beside a plain function, and the proof that a call of the one comes to the other. Conditions: what came in can be read. -/
import Derived.Test.YtghlmkbchdmnoaaLiftA
set_option linter.unusedVariables false
set_option linter.unusedSimpArgs false
set_option maxRecDepth 10000
set_option maxHeartbeats 4000000
namespace Go.Proofs.Ytghlmkbchdmnoaa
open Go Go.Sx
theorem go8 : GoF Try.prog 8 := GoF.of Try.func8 (by kernel_rfl) (by kernel_rfl)
theorem go20 : GoF Try.prog 20 := GoF.of Try.func20 (by kernel_rfl) (by kernel_rfl)
/-! ### salvor/salvorlaw1.lent: function 13 -/
def lent.f (a0 : List Int) : Option ((List Int) × (List Int)) := gd ((([] : List Int).length + a0.length) * 1 ≤ 140737488355328) (gd (((([] : List Int) ++ a0).length + [90, 165, 119].length) * 1 ≤ 140737488355328) (gd ((0 : Int) ≤ (a0.length : Int) ∧ (0 ≤ (Int.toNat (a0.length : Int)) ∧ (Int.toNat (a0.length : Int)) ≤ ((([] : List Int) ++ a0) ++ [90, 165, 119]).length)) (some (((([] : List Int) ++ a0) ++ [90, 165, 119]).take (Int.toNat (a0.length : Int)), ((([] : List Int) ++ a0) ++ [90, 165, 119]).drop (Int.toNat (a0.length : Int))))))
theorem lent.calls {B : Nat} {w0 : World} {G : List HP} (a0 : List Int) (Aa0 : Option Addr) (ca0 : Nat) (ha0 : RdG B w0 G Aa0 (a0.map (Value.int .u8))) (ka0 : a0.length ≤ ca0) (r : (List Int) × (List Int)) (H : lent.f a0 = some r) (w : World) (hw : St B w0 (G) w) :
    Calls Try.prog 13 [.slice Aa0 a0.length ca0].toArray w (fun e w' => ∃ A0 c0, e = .returned (.slice A0 r.1.length c0) ∧ St B w0 (own 5 1 A0 c0 ((r.1 ++ r.2).map (Value.int .u8)) :: G) w') := by
  unfold lent.f at H
  refine calls_of (n := 14) (s := [(0, .slice Aa0 a0.length ca0)]) Try.func13 rfl rfl rfl rfl ?_ hw
  refine C.rs ?_
  refine J.p rfl rfl rfl rfl (Y.asg rfl) ?_
  refine J.nx ?_
  refine C.rs ?_
  refine J.p rfl rfl rfl rfl (Y.asg rfl) ?_
  refine J.nx ?_
  refine C.rs ?_
  refine J.p rfl rfl rfl rfl (Y.mv rfl) ?_
  refine J.p rfl rfl rfl rfl (Y.mv rfl) ?_
  refine J.nilOwn 5 1 ?_
  obtain ⟨p4, H⟩ := gd_some H
  refine J.appL (enc := (Value.int .u8)) (xs := ([] : List Int)) (ys := a0) rfl Try.underlying26 ti5 rfl (by decide) rfl rfl (fun _ => rfl) (ha0.suf [_] rfl) p4 (fun A2 c3 => ?_)
  refine J.p rfl rfl rfl rfl (Y.asg rfl) ?_
  refine J.nx ?_
  refine C.rs ?_
  refine J.p rfl rfl rfl rfl (Y.mv rfl) ?_
  refine J.bsL (enc := (Value.int .u8)) (xs := [90, 165, 119]) rfl Try.underlying26 ti5 rfl rfl rfl rfl rfl (fun A6 => ?_)
  refine J.pull 1 rfl rfl ?_
  obtain ⟨p10, H⟩ := gd_some H
  refine J.appL (enc := (Value.int .u8)) (xs := (([] : List Int) ++ a0)) (ys := [90, 165, 119]) rfl Try.underlying26 ti5 rfl (by decide) rfl rfl (fun _ => rfl) (RdG.own 1 rfl) p10 (fun A8 c9 => ?_)
  refine J.pull 1 rfl rfl (J.drop ?_)
  refine J.p rfl rfl rfl rfl (Y.asg rfl) ?_
  refine J.nx ?_
  refine C.rs ?_
  refine J.p rfl rfl rfl rfl (Y.mv rfl) ?_
  refine J.p rfl rfl rfl rfl (Y.mv rfl) ?_
  refine J.p rfl rfl rfl rfl (Y.lenS Try.underlying26 rfl) ?_
  obtain ⟨p13, H⟩ := gd_some H
  refine J.know (own_leL 0 rfl) (fun hc12 => ?_)
  refine J.p rfl rfl rfl rfl (Y.slcL Try.underlying26 ti5 rfl bnd.no (bnd.yes rfl p13.1) p13.2 hc12) ?_
  refine J.p rfl rfl rfl rfl (Y.asg rfl) ?_
  refine J.nx ?_
  refine C.ret ?_
  obtain rfl := Option.some.inj H
  refine T.as (k := 2) rfl (slc0 A8 c9 ((([] : List Int) ++ a0) ++ [90, 165, 119]) (Int.toNat (a0.length : Int))) ?_
  exact ret_ok (ks := [2]) rfl rfl (fun w h => ⟨A8, c9, rfl, (St.split (n := (Int.toNat (a0.length : Int))) h)⟩)
/-! ### salvor/salvorlaw1.kept: function 17 -/
def kept.l1 (a1 : List Int) (a0 : List Int) : Nat → (Bool × Int) → Option (Bool)
  | 0, _ => none
  | k + 1, i81 => if i81.2 < (a1.length : Int) then (if i81.1 = true then (gd ((0 : Int) ≤ i81.2 ∧ i81.2 < (a0.length : Int)) (gd ((0 : Int) ≤ i81.2 ∧ i81.2 < (a0.length : Int)) (gd ((0 : Int) ≤ i81.2 ∧ i81.2 < (a1.length : Int)) (gd ((0 : Int) ≤ i81.2 ∧ i81.2 < (a1.length : Int)) (kept.l1 a1 a0 k (decide ((rd a0 i81.2) = (rd a1 i81.2)), IntKind.wrap .i64 (i81.2 + 1))))))) else (kept.l1 a1 a0 k (false, IntKind.wrap .i64 (i81.2 + 1)))) else (some i81.1)
def kept.f (K : Nat) (a0 : List Int) (z0 : List Int) (a1 : List Int) : Option (Bool) := gd ((0 : Int) ≤ (IntKind.wrap .i64 ((a1.length : Int) + 3)) ∧ (0 ≤ (Int.toNat (IntKind.wrap .i64 ((a1.length : Int) + 3))) ∧ (Int.toNat (IntKind.wrap .i64 ((a1.length : Int) + 3))) ≤ (a0 ++ z0).length)) ((gd ((0 : Int) ≤ (a1.length : Int) ∧ (a1.length : Int) < ((((a0 ++ z0).take (Int.toNat (IntKind.wrap .i64 ((a1.length : Int) + 3)))).drop 0).length : Int)) (if (rd (((a0 ++ z0).take (Int.toNat (IntKind.wrap .i64 ((a1.length : Int) + 3)))).drop 0) (a1.length : Int)) = 90 then (gd ((0 : Int) ≤ (IntKind.wrap .i64 ((a1.length : Int) + 1)) ∧ (IntKind.wrap .i64 ((a1.length : Int) + 1)) < ((((a0 ++ z0).take (Int.toNat (IntKind.wrap .i64 ((a1.length : Int) + 3)))).drop 0).length : Int)) (gd ((0 : Int) ≤ (IntKind.wrap .i64 ((a1.length : Int) + 1)) ∧ (IntKind.wrap .i64 ((a1.length : Int) + 1)) < ((((a0 ++ z0).take (Int.toNat (IntKind.wrap .i64 ((a1.length : Int) + 3)))).drop 0).length : Int)) (if (rd (((a0 ++ z0).take (Int.toNat (IntKind.wrap .i64 ((a1.length : Int) + 3)))).drop 0) (IntKind.wrap .i64 ((a1.length : Int) + 1))) = 165 then (gd ((0 : Int) ≤ (IntKind.wrap .i64 ((a1.length : Int) + 2)) ∧ (IntKind.wrap .i64 ((a1.length : Int) + 2)) < ((((a0 ++ z0).take (Int.toNat (IntKind.wrap .i64 ((a1.length : Int) + 3)))).drop 0).length : Int)) (gd ((0 : Int) ≤ (IntKind.wrap .i64 ((a1.length : Int) + 2)) ∧ (IntKind.wrap .i64 ((a1.length : Int) + 2)) < ((((a0 ++ z0).take (Int.toNat (IntKind.wrap .i64 ((a1.length : Int) + 3)))).drop 0).length : Int)) (some (decide ((rd (((a0 ++ z0).take (Int.toNat (IntKind.wrap .i64 ((a1.length : Int) + 3)))).drop 0) (IntKind.wrap .i64 ((a1.length : Int) + 2))) = 119))))) else (some false)))) else (some false))).bind fun o13 => (kept.l1 a1 a0 K (o13, 0)).bind fun o54 => some o54)
theorem kept.calls {B : Nat} {w0 : World} {G : List HP} (K : Nat) (a0 : List Int) (z0 : List Int) (a1 : List Int) (Aa0 : Option Addr) (ca0 : Nat) (Aa1 : Option Addr) (ca1 : Nat) (ha0 : RdG B w0 G Aa0 ((a0 ++ z0).map (Value.int .u8))) (ka0 : (a0 ++ z0).length ≤ ca0) (ha1 : RdG B w0 G Aa1 (a1.map (Value.int .u8))) (ka1 : a1.length ≤ ca1) (r : Bool) (H : kept.f K a0 z0 a1 = some r) (w : World) (hw : St B w0 (G) w) :
    Calls Try.prog 17 [.slice Aa0 a0.length ca0, .slice Aa1 a1.length ca1].toArray w (fun e w' => e = .returned (.bool r) ∧ St B w0 (G) w') := by
  unfold kept.f at H
  refine calls_of (n := 56) (s := [(0, .slice Aa0 a0.length ca0), (1, .slice Aa1 a1.length ca1)]) Try.func17 rfl rfl rfl rfl ?_ hw
  refine C.rs ?_
  refine J.p rfl rfl rfl rfl (Y.asg rfl) ?_
  refine J.nx ?_
  refine C.rs ?_
  refine J.p rfl rfl rfl rfl (Y.mv rfl) ?_
  refine J.p rfl rfl rfl rfl (Y.mv rfl) ?_
  refine J.p rfl rfl rfl rfl (Y.lenS Try.underlying26 rfl) ?_
  refine J.p rfl rfl rfl rfl (Y.bin rfl rfl rfl) ?_
  obtain ⟨p1, H⟩ := gd_some H
  refine J.p rfl rfl rfl rfl (Y.slcW (xs := (a0 ++ z0)) Try.underlying26 ti5 rfl bnd.no (bnd.yes rfl p1.1) p1.2 ka0) ?_
  refine J.p rfl rfl rfl rfl (Y.asg rfl) ?_
  refine J.nx ?_
  refine C.rs ?_
  refine J.joinB H (fun (o13 : Bool) (j14 : Unit) => [(0, .slice Aa0 a0.length ca0), (1, .slice Aa1 a1.length ca1), (6, .bool o13)]) (fun (o13 : Bool) (j14 : Unit) => G) (fun (o13 : Bool) (j14 : Unit) => True) (fun o15 H HK16 => ?_) (fun o13 j14 H _ => ?_)
  · refine J.p rfl rfl rfl rfl (Y.mv rfl) ?_
    refine J.p rfl rfl rfl rfl (Y.mv rfl) ?_
    refine J.p rfl rfl rfl rfl (Y.lenS Try.underlying26 rfl) ?_
    obtain ⟨p17, H⟩ := gd_some H
    refine J.el rfl rfl rfl Try.underlying26 ti5 Try.underlying5 rfl rfl rfl p17 (RdG.subL (l := 0) (h := (Int.toNat (IntKind.wrap .i64 ((a1.length : Int) + 3)))) ha0 ka0) ?_
    refine J.p rfl rfl rfl rfl (Y.bin rfl rfl rfl) ?_
    refine J.p rfl rfl rfl rfl (Y.mv rfl) ?_
    refine split2 H (fun c18 H => ?_) (fun c18 H => ?_)
    · refine J.as (k := 19) rfl (congrArg Value.bool (decide_eq_true c18)) ?_
      refine J.p rfl rfl rfl rfl (Y.mv rfl) ?_
      refine J.p rfl rfl rfl rfl (Y.mv rfl) ?_
      refine J.p rfl rfl rfl rfl (Y.lenS Try.underlying26 rfl) ?_
      refine J.p rfl rfl rfl rfl (Y.bin rfl rfl rfl) ?_
      obtain ⟨p21, H⟩ := gd_some H
      refine J.know ((RdG.subL (l := 0) (h := (Int.toNat (IntKind.wrap .i64 ((a1.length : Int) + 3)))) ha0 ka0).some_ (j := Int.toNat (IntKind.wrap .i64 ((a1.length : Int) + 1))) (by rw [List.length_map]; exact idx_lt p21)) (fun hh => ?_)
      obtain ⟨a19, ha20⟩ := hh
      refine J.p rfl rfl rfl rfl (Y.ixa Try.underlying26 ti5 rfl rfl p21 ha20) ?_
      obtain ⟨p22, H⟩ := gd_some H
      refine J.r rfl rfl rfl rfl (Y.ldE Try.underlying5 rfl rfl ha20 p22 (RdG.subL (l := 0) (h := (Int.toNat (IntKind.wrap .i64 ((a1.length : Int) + 3)))) ha0 ka0)) ?_
      refine J.p rfl rfl rfl rfl (Y.bin rfl rfl rfl) ?_
      refine J.p rfl rfl rfl rfl (Y.pickT rfl rfl) ?_
      refine J.p rfl rfl rfl rfl (Y.mv rfl) ?_
      refine split2 H (fun c23 H => ?_) (fun c23 H => ?_)
      · refine J.as (k := 28) rfl (congrArg Value.bool (decide_eq_true c23)) ?_
        refine J.p rfl rfl rfl rfl (Y.mv rfl) ?_
        refine J.p rfl rfl rfl rfl (Y.mv rfl) ?_
        refine J.p rfl rfl rfl rfl (Y.lenS Try.underlying26 rfl) ?_
        refine J.p rfl rfl rfl rfl (Y.bin rfl rfl rfl) ?_
        obtain ⟨p26, H⟩ := gd_some H
        refine J.know ((RdG.subL (l := 0) (h := (Int.toNat (IntKind.wrap .i64 ((a1.length : Int) + 3)))) ha0 ka0).some_ (j := Int.toNat (IntKind.wrap .i64 ((a1.length : Int) + 2))) (by rw [List.length_map]; exact idx_lt p26)) (fun hh => ?_)
        obtain ⟨a24, ha25⟩ := hh
        refine J.p rfl rfl rfl rfl (Y.ixa Try.underlying26 ti5 rfl rfl p26 ha25) ?_
        obtain ⟨p27, H⟩ := gd_some H
        refine J.r rfl rfl rfl rfl (Y.ldE Try.underlying5 rfl rfl ha25 p27 (RdG.subL (l := 0) (h := (Int.toNat (IntKind.wrap .i64 ((a1.length : Int) + 3)))) ha0 ka0)) ?_
        refine J.p rfl rfl rfl rfl (Y.bin rfl rfl rfl) ?_
        refine J.p rfl rfl rfl rfl (Y.pickT rfl rfl) ?_
        refine J.p rfl rfl rfl rfl (Y.asg rfl) ?_
        refine J.nil ?_
        obtain rfl := Option.some.inj H
        exact N.meet (decide ((rd (((a0 ++ z0).take (Int.toNat (IntKind.wrap .i64 ((a1.length : Int) + 3)))).drop 0) (IntKind.wrap .i64 ((a1.length : Int) + 2))) = 119), ()) ⟨HK16, trivial⟩ (by exact ⟨rfl, rfl, rfl, trivial⟩) (by exact fun w h => h)
      · refine J.as (k := 28) rfl (congrArg Value.bool (decide_eq_false c23)) ?_
        refine J.skip rfl rfl ?_
        refine J.skip rfl rfl ?_
        refine J.skip rfl rfl ?_
        refine J.skip rfl rfl ?_
        refine J.skip rfl rfl ?_
        refine J.skip rfl rfl ?_
        refine J.skip rfl rfl ?_
        refine J.p rfl rfl rfl rfl (Y.pickF rfl rfl) ?_
        refine J.p rfl rfl rfl rfl (Y.asg rfl) ?_
        refine J.nil ?_
        obtain rfl := Option.some.inj H
        exact N.meet (false, ()) ⟨HK16, trivial⟩ (by exact ⟨rfl, rfl, rfl, trivial⟩) (by exact fun w h => h)
    · refine J.as (k := 19) rfl (congrArg Value.bool (decide_eq_false c18)) ?_
      refine J.skip rfl rfl ?_
      refine J.skip rfl rfl ?_
      refine J.skip rfl rfl ?_
      refine J.skip rfl rfl ?_
      refine J.skip rfl rfl ?_
      refine J.skip rfl rfl ?_
      refine J.skip rfl rfl ?_
      refine J.p rfl rfl rfl rfl (Y.pickF rfl rfl) ?_
      refine J.p rfl rfl rfl rfl (Y.mv rfl) ?_
      refine J.skip rfl rfl ?_
      refine J.skip rfl rfl ?_
      refine J.skip rfl rfl ?_
      refine J.skip rfl rfl ?_
      refine J.skip rfl rfl ?_
      refine J.skip rfl rfl ?_
      refine J.skip rfl rfl ?_
      refine J.p rfl rfl rfl rfl (Y.pickF rfl rfl) ?_
      refine J.p rfl rfl rfl rfl (Y.asg rfl) ?_
      refine J.nil ?_
      obtain rfl := Option.some.inj H
      exact N.meet (false, ()) ⟨HK16, trivial⟩ (by exact ⟨rfl, rfl, rfl, trivial⟩) (by exact fun w h => h)
  · refine C.at (s' := [(0, .slice Aa0 a0.length ca0), (1, .slice Aa1 a1.length ca1), (6, .bool o13)]) (G' := G) rfl rfl ?_
    refine C.seq ?_
    refine C.rs ?_
    refine J.p rfl rfl rfl rfl (Y.asg rfl) ?_
    refine J.nx ?_
    refine C.joinN H (fun (o54 : Bool) (j55 : Unit) => [(6, .bool o54)]) (fun (o54 : Bool) (j55 : Unit) => G) (fun (o54 : Bool) (j55 : Unit) => True) (fun o52 H HK53 => ?_) (fun o54 j55 H _ => ?_)
    · refine C.blk ?_
      refine C.loop (fun (i : Nat × (Bool × Int) × (Unit)) => [(0, .slice Aa0 a0.length ca0), (1, .slice Aa1 a1.length ca1), (6, .bool i.2.1.1), (7, .int .i64 i.2.1.2)]) (fun (i : Nat × (Bool × Int) × (Unit)) => G) (fun (i : Nat × (Bool × Int) × (Unit)) => kept.l1 a1 a0 i.1 i.2.1 = some o52 ∧ (True)) (fun i => i.1) (K, (o13, 0), ()) ⟨H, trivial⟩ (by exact ⟨rfl, rfl, rfl, rfl, trivial⟩) (by exact fun w h => h) ?_
      rintro ⟨k93, i81, j82⟩ ⟨H, _⟩
      replace H : kept.l1 a1 a0 k93 i81 = some o52 := H
      obtain ⟨k80, rfl⟩ : ∃ m, k93 = m + 1 := by cases k93 with | zero => exact absurd H (by simp [kept.l1]) | succ m => exact ⟨m, rfl⟩
      rw [kept.l1] at H
      refine C.at (s' := [(0, .slice Aa0 a0.length ca0), (1, .slice Aa1 a1.length ca1), (6, .bool i81.1), (7, .int .i64 i81.2)]) (G' := G) rfl rfl ?_
      refine C.seq ?_
      refine C.rs ?_
      refine J.p rfl rfl rfl rfl (Y.mv rfl) ?_
      refine J.p rfl rfl rfl rfl (Y.mv rfl) ?_
      refine J.p rfl rfl rfl rfl (Y.lenS Try.underlying26 rfl) ?_
      refine J.p rfl rfl rfl rfl (Y.bin rfl rfl rfl) ?_
      refine J.nx ?_
      refine split2 H (fun c83 H => ?_) (fun c83 H => ?_)
      · refine C.condT (congrArg (fun b => some (Value.bool b)) (decide_eq_true c83)) ?_
        refine C.skip ?_
        refine N.nx ?_
        refine C.seq ?_
        refine C.blk ?_
        refine C.drawn (fuel := 13) (ls := [false, false, false, false, false, false, false, false, false, false, false, false, false]) [] (G) mx rfl rfl ?_
        refine D.p (ls' := [true, false, false, false, false, false, false, false, false, false, false, false, false]) 0 rfl rfl rfl rfl (by kernel_rfl) rfl (Y.mv rfl) ?_
        refine D.p (ls' := [true, true, false, false, false, false, false, false, false, false, false, false, false]) 1 rfl rfl rfl rfl (by kernel_rfl) rfl (Y.mv rfl) ?_
        refine split2 H (fun c84 H => ?_) (fun c84 H => ?_)
        · refine D.as (k := 44) rfl (congrArg Value.bool (c84)) ?_
          refine D.p (ls' := [true, true, true, false, false, false, false, false, false, false, false, false, false]) 2 rfl rfl rfl rfl (by kernel_rfl) rfl (Y.mv rfl) ?_
          refine D.p (ls' := [true, true, true, true, false, false, false, false, false, false, false, false, false]) 3 rfl rfl rfl rfl (by kernel_rfl) rfl (Y.mv rfl) ?_
          obtain ⟨p87, H⟩ := gd_some H
          refine D.know ((RdG.pre ha0).some_ (j := Int.toNat i81.2) (by rw [List.length_map]; exact idx_lt p87)) (fun hh => ?_)
          obtain ⟨a85, ha86⟩ := hh
          refine D.p (ls' := [true, true, true, true, true, false, false, false, false, false, false, false, false]) 4 rfl rfl rfl rfl (by kernel_rfl) rfl (Y.ixa Try.underlying26 ti5 rfl rfl p87 ha86) ?_
          obtain ⟨p88, H⟩ := gd_some H
          refine D.r (ls' := [true, true, true, true, true, true, false, false, false, false, false, false, false]) 5 1 0 rfl rfl rfl rfl (by kernel_rfl) (by kernel_rfl) rfl rfl (Y.ldE Try.underlying5 rfl rfl ha86 p88 (RdG.pre ha0)) ?_
          refine D.p (ls' := [true, true, true, true, true, true, true, false, false, false, false, false, false]) 6 rfl rfl rfl rfl (by kernel_rfl) rfl (Y.mv rfl) ?_
          refine D.p (ls' := [true, true, true, true, true, true, true, true, false, false, false, false, false]) 7 rfl rfl rfl rfl (by kernel_rfl) rfl (Y.mv rfl) ?_
          obtain ⟨p91, H⟩ := gd_some H
          refine D.know (ha1.some_ (j := Int.toNat i81.2) (by rw [List.length_map]; exact idx_lt p91)) (fun hh => ?_)
          obtain ⟨a89, ha90⟩ := hh
          refine D.p (ls' := [true, true, true, true, true, true, true, true, true, false, false, false, false]) 8 rfl rfl rfl rfl (by kernel_rfl) rfl (Y.ixa Try.underlying26 ti5 rfl rfl p91 ha90) ?_
          obtain ⟨p92, H⟩ := gd_some H
          refine D.r (ls' := [true, true, true, true, true, true, true, true, true, true, false, false, false]) 9 1 0 rfl rfl rfl rfl (by kernel_rfl) (by kernel_rfl) rfl rfl (Y.ldE Try.underlying5 rfl rfl ha90 p92 ha1) ?_
          refine D.p (ls' := [true, true, true, true, true, true, true, true, true, true, true, false, false]) 10 rfl rfl rfl rfl (by kernel_rfl) rfl (Y.bin rfl rfl rfl) ?_
          refine D.p (ls' := [true, true, true, true, true, true, true, true, true, true, true, true, false]) 11 rfl rfl rfl rfl (by kernel_rfl) rfl (Y.pickT rfl rfl) ?_
          refine D.p (ls' := [true, true, true, true, true, true, true, true, true, true, true, true, true]) 12 rfl rfl rfl rfl (by kernel_rfl) rfl (Y.asg rfl) ?_
          refine D.nil (by kernel_rfl) ?_
          refine N.ib ?_
          refine N.nx ?_
          refine C.reg ?_
          refine J.p rfl rfl rfl rfl (Y.mv rfl) ?_
          refine J.p rfl rfl rfl rfl (Y.bin rfl rfl rfl) ?_
          refine J.p rfl rfl rfl rfl (Y.asg rfl) ?_
          refine J.nil ?_
          exact N.again (k80, (decide ((rd a0 i81.2) = (rd a1 i81.2)), IntKind.wrap .i64 (i81.2 + 1)), ()) ⟨H, trivial⟩ (Nat.lt_succ_self _) (by exact ⟨rfl, rfl, rfl, rfl, trivial⟩) (by exact fun w h => h)
        · refine D.as (k := 44) rfl (congrArg Value.bool (nt c84)) ?_
          refine D.off (ls' := [true, true, true, false, false, false, false, false, false, false, false, false, false]) 2 rfl rfl rfl rfl (by kernel_rfl) rfl ?_
          refine D.off (ls' := [true, true, true, true, false, false, false, false, false, false, false, false, false]) 3 rfl rfl rfl rfl (by kernel_rfl) rfl ?_
          refine D.off (ls' := [true, true, true, true, true, false, false, false, false, false, false, false, false]) 4 rfl rfl rfl rfl (by kernel_rfl) rfl ?_
          refine D.off (ls' := [true, true, true, true, true, true, false, false, false, false, false, false, false]) 5 rfl rfl rfl rfl (by kernel_rfl) rfl ?_
          refine D.off (ls' := [true, true, true, true, true, true, true, false, false, false, false, false, false]) 6 rfl rfl rfl rfl (by kernel_rfl) rfl ?_
          refine D.off (ls' := [true, true, true, true, true, true, true, true, false, false, false, false, false]) 7 rfl rfl rfl rfl (by kernel_rfl) rfl ?_
          refine D.off (ls' := [true, true, true, true, true, true, true, true, true, false, false, false, false]) 8 rfl rfl rfl rfl (by kernel_rfl) rfl ?_
          refine D.off (ls' := [true, true, true, true, true, true, true, true, true, true, false, false, false]) 9 rfl rfl rfl rfl (by kernel_rfl) rfl ?_
          refine D.off (ls' := [true, true, true, true, true, true, true, true, true, true, true, false, false]) 10 rfl rfl rfl rfl (by kernel_rfl) rfl ?_
          refine D.p (ls' := [true, true, true, true, true, true, true, true, true, true, true, true, false]) 11 rfl rfl rfl rfl (by kernel_rfl) rfl (Y.pickF rfl rfl) ?_
          refine D.p (ls' := [true, true, true, true, true, true, true, true, true, true, true, true, true]) 12 rfl rfl rfl rfl (by kernel_rfl) rfl (Y.asg rfl) ?_
          refine D.nil (by kernel_rfl) ?_
          refine N.ib ?_
          refine N.nx ?_
          refine C.reg ?_
          refine J.p rfl rfl rfl rfl (Y.mv rfl) ?_
          refine J.p rfl rfl rfl rfl (Y.bin rfl rfl rfl) ?_
          refine J.p rfl rfl rfl rfl (Y.asg rfl) ?_
          refine J.nil ?_
          exact N.again (k80, (false, IntKind.wrap .i64 (i81.2 + 1)), ()) ⟨H, trivial⟩ (Nat.lt_succ_self _) (by exact ⟨rfl, rfl, rfl, rfl, trivial⟩) (by exact fun w h => h)
      · refine C.condF (congrArg (fun b => some (Value.bool b)) (decide_eq_false c83)) ?_
        refine C.exit ?_
        refine X.th ?_
        refine X.th ?_
        refine X.hit ?_
        obtain rfl := Option.some.inj H
        exact N.meet (i81.1, ()) ⟨HK53, trivial⟩ (by exact ⟨rfl, trivial⟩) (by exact fun w h => h)
    · refine N.at (s' := [(6, .bool o54)]) (G' := G) rfl rfl ?_
      refine N.nx ?_
      refine C.rs ?_
      refine J.p rfl rfl rfl rfl (Y.mv rfl) ?_
      refine J.p rfl rfl rfl rfl (Y.asg rfl) ?_
      refine J.nx ?_
      refine C.ret ?_
      obtain rfl := Option.some.inj H
      exact ret_ok (ks := [4]) rfl rfl (fun w h => ⟨rfl, h⟩)
/-! ### salvor/salvorlaw1.much: function 9 -/
def much.l1 (a0 : List (List Int)) : Nat → (Int × Int) → Option (Int)
  | 0, _ => none
  | k + 1, i62 => (if i62.2 < (a0.length : Int) then (some (decide (i62.1 ≤ 4194304))) else (some false)).bind fun o65 => if o65 = true then (gd ((0 : Int) ≤ i62.2 ∧ i62.2 < (a0.length : Int)) (much.l1 a0 k (IntKind.wrap .i64 ((IntKind.wrap .i64 (i62.1 + 16)) + ((rd a0 i62.2).length : Int)), IntKind.wrap .i64 (i62.2 + 1)))) else (some i62.1)
def much.f (K : Nat) (a0 : List (List Int)) : Option (Bool) := (much.l1 a0 K (0, 0)).bind fun o31 => some (decide (4194304 < o31))
theorem much.calls {B : Nat} {w0 : World} {G : List HP} (K : Nat) (a0 : List (List Int)) (Aa0 : Option Addr) (ca0 : Nat) (va0 : List Value) (ha0 : RdG B w0 G Aa0 va0) (hva0 : VV B w0 G (Value.int .u8) va0 a0) (ka0 : a0.length ≤ ca0) (r : Bool) (H : much.f K a0 = some r) (w : World) (hw : St B w0 (G) w) :
    Calls Try.prog 9 [.slice Aa0 a0.length ca0].toArray w (fun e w' => e = .returned (.bool r) ∧ St B w0 (G) w') := by
  unfold much.f at H
  refine calls_of (n := 25) (s := [(0, .slice Aa0 a0.length ca0)]) Try.func9 rfl rfl rfl rfl ?_ hw
  refine C.rs ?_
  refine J.p rfl rfl rfl rfl (Y.asg rfl) ?_
  refine J.nx ?_
  refine C.rs ?_
  refine J.p rfl rfl rfl rfl (Y.asg rfl) ?_
  refine J.nx ?_
  refine C.seq ?_
  refine C.rs ?_
  refine J.p rfl rfl rfl rfl (Y.asg rfl) ?_
  refine J.nx ?_
  refine C.joinN H (fun (o31 : Int) (j32 : Unit) => [(3, .int .i64 o31)]) (fun (o31 : Int) (j32 : Unit) => G) (fun (o31 : Int) (j32 : Unit) => True) (fun o29 H HK30 => ?_) (fun o31 j32 H _ => ?_)
  · refine C.blk ?_
    refine C.loop (fun (i : Nat × (Int × Int) × (Unit)) => [(0, .slice Aa0 a0.length ca0), (3, .int .i64 i.2.1.1), (4, .int .i64 i.2.1.2)]) (fun (i : Nat × (Int × Int) × (Unit)) => G) (fun (i : Nat × (Int × Int) × (Unit)) => much.l1 a0 i.1 i.2.1 = some o29 ∧ (True)) (fun i => i.1) (K, (0, 0), ()) ⟨H, trivial⟩ (by exact ⟨rfl, rfl, rfl, trivial⟩) (by exact fun w h => h) ?_
    rintro ⟨k79, i62, j63⟩ ⟨H, _⟩
    replace H : much.l1 a0 k79 i62 = some o29 := H
    obtain ⟨k61, rfl⟩ : ∃ m, k79 = m + 1 := by cases k79 with | zero => exact absurd H (by simp [much.l1]) | succ m => exact ⟨m, rfl⟩
    rw [much.l1] at H
    refine C.at (s' := [(0, .slice Aa0 a0.length ca0), (3, .int .i64 i62.1), (4, .int .i64 i62.2)]) (G' := G) rfl rfl ?_
    refine C.seq ?_
    refine C.rs ?_
    refine J.joinB H (fun (o65 : Bool) (j66 : Unit) => [(0, .slice Aa0 a0.length ca0), (3, .int .i64 i62.1), (4, .int .i64 i62.2), (12, .bool o65)]) (fun (o65 : Bool) (j66 : Unit) => G) (fun (o65 : Bool) (j66 : Unit) => True) (fun o67 H HK68 => ?_) (fun o65 j66 H _ => ?_)
    · refine J.p rfl rfl rfl rfl (Y.mv rfl) ?_
      refine J.p rfl rfl rfl rfl (Y.mv rfl) ?_
      refine J.p rfl rfl rfl rfl (Y.lenS Try.underlying23 rfl) ?_
      refine J.p rfl rfl rfl rfl (Y.bin rfl rfl rfl) ?_
      refine J.p rfl rfl rfl rfl (Y.mv rfl) ?_
      refine split2 H (fun c69 H => ?_) (fun c69 H => ?_)
      · refine J.as (k := 9) rfl (congrArg Value.bool (decide_eq_true c69)) ?_
        refine J.p rfl rfl rfl rfl (Y.mv rfl) ?_
        refine J.p rfl rfl rfl rfl (Y.bin rfl rfl rfl) ?_
        refine J.p rfl rfl rfl rfl (Y.pickT rfl rfl) ?_
        refine J.nil ?_
        obtain rfl := Option.some.inj H
        exact N.meet (decide (i62.1 ≤ 4194304), ()) ⟨HK68, trivial⟩ (by exact ⟨rfl, rfl, rfl, rfl, trivial⟩) (by exact fun w h => h)
      · refine J.as (k := 9) rfl (congrArg Value.bool (decide_eq_false c69)) ?_
        refine J.skip rfl rfl ?_
        refine J.skip rfl rfl ?_
        refine J.p rfl rfl rfl rfl (Y.pickF rfl rfl) ?_
        refine J.nil ?_
        obtain rfl := Option.some.inj H
        exact N.meet (false, ()) ⟨HK68, trivial⟩ (by exact ⟨rfl, rfl, rfl, rfl, trivial⟩) (by exact fun w h => h)
    · refine C.at (s' := [(0, .slice Aa0 a0.length ca0), (3, .int .i64 i62.1), (4, .int .i64 i62.2), (12, .bool o65)]) (G' := G) rfl rfl ?_
      refine split2 H (fun c70 H => ?_) (fun c70 H => ?_)
      · refine C.condT (congrArg (fun b => some (Value.bool b)) (c70)) ?_
        refine C.skip ?_
        refine N.nx ?_
        refine C.seq ?_
        refine C.blk ?_
        refine C.reg ?_
        refine J.p rfl rfl rfl rfl (Y.mv rfl) ?_
        refine J.p rfl rfl rfl rfl (Y.bin rfl rfl rfl) ?_
        refine J.p rfl rfl rfl rfl (Y.mv rfl) ?_
        refine J.p rfl rfl rfl rfl (Y.mv rfl) ?_
        obtain ⟨p73, H⟩ := gd_some H
        refine J.know (VV.some_ (ha0.suf [] rfl) (hva0.suf [] rfl) (idx_lt p73)) (fun hh => ?_)
        obtain ⟨a71, ha72⟩ := hh
        refine J.p rfl rfl rfl rfl (Y.ixa Try.underlying23 ti26 rfl rfl p73 ha72) ?_
        obtain ⟨A74, c75, hv76, hr77, hc78⟩ := VV.get hva0 p73
        refine J.r rfl rfl rfl rfl (Y.ld Try.underlying26 rfl rfl ha0 ha72 hv76) ?_
        refine J.p rfl rfl rfl rfl (Y.lenS Try.underlying26 rfl) ?_
        refine J.p rfl rfl rfl rfl (Y.bin rfl rfl rfl) ?_
        refine J.p rfl rfl rfl rfl (Y.asg rfl) ?_
        refine J.nil ?_
        refine N.ib ?_
        refine N.nx ?_
        refine C.reg ?_
        refine J.p rfl rfl rfl rfl (Y.mv rfl) ?_
        refine J.p rfl rfl rfl rfl (Y.bin rfl rfl rfl) ?_
        refine J.p rfl rfl rfl rfl (Y.asg rfl) ?_
        refine J.nil ?_
        exact N.again (k61, (IntKind.wrap .i64 ((IntKind.wrap .i64 (i62.1 + 16)) + ((rd a0 i62.2).length : Int)), IntKind.wrap .i64 (i62.2 + 1)), ()) ⟨H, trivial⟩ (Nat.lt_succ_self _) (by exact ⟨rfl, rfl, rfl, trivial⟩) (by exact fun w h => h)
      · refine C.condF (congrArg (fun b => some (Value.bool b)) (nt c70)) ?_
        refine C.exit ?_
        refine X.th ?_
        refine X.th ?_
        refine X.hit ?_
        obtain rfl := Option.some.inj H
        exact N.meet (i62.1, ()) ⟨HK30, trivial⟩ (by exact ⟨rfl, trivial⟩) (by exact fun w h => h)
  · refine N.at (s' := [(3, .int .i64 o31)]) (G' := G) rfl rfl ?_
    refine N.nx ?_
    refine C.rs ?_
    refine J.p rfl rfl rfl rfl (Y.mv rfl) ?_
    refine J.p rfl rfl rfl rfl (Y.bin rfl rfl rfl) ?_
    refine J.p rfl rfl rfl rfl (Y.asg rfl) ?_
    refine J.nx ?_
    refine C.ret ?_
    obtain rfl := Option.some.inj H
    exact ret_ok (ks := [2]) rfl rfl (fun w h => ⟨rfl, h⟩)
/-! ### salvor/salvorlaw1.joined: function 10 -/
def joined.l1 (a0 : List (List Int)) : Nat → ((List Int) × Int) → Option ((List Int))
  | 0, _ => none
  | k + 1, i71 => if i71.2 < (a0.length : Int) then (gd ((0 : Int) ≤ i71.2 ∧ i71.2 < (a0.length : Int)) (gd ((i71.1.length + (rd a0 i71.2).length) * 1 ≤ 140737488355328) (joined.l1 a0 k ((i71.1 ++ (rd a0 i71.2)), IntKind.wrap .i64 (i71.2 + 1))))) else (some i71.1)
def joined.f (K : Nat) (a0 : List (List Int)) : Option ((List Int)) := (joined.l1 a0 K (([] : List Int), 0)).bind fun o35 => some o35
theorem joined.calls {B : Nat} {w0 : World} {G : List HP} (K : Nat) (a0 : List (List Int)) (Aa0 : Option Addr) (ca0 : Nat) (va0 : List Value) (ha0 : RdG B w0 G Aa0 va0) (hva0 : VV B w0 G (Value.int .u8) va0 a0) (ka0 : a0.length ≤ ca0) (r : (List Int)) (H : joined.f K a0 = some r) (w : World) (hw : St B w0 (G) w) :
    Calls Try.prog 10 [.slice Aa0 a0.length ca0].toArray w (fun e w' => ∃ A0 c0, e = .returned (.slice A0 r.length c0) ∧ St B w0 (own 5 1 A0 c0 (r.map (Value.int .u8)) :: G) w') := by
  unfold joined.f at H
  refine calls_of (n := 18) (s := [(0, .slice Aa0 a0.length ca0)]) Try.func10 rfl rfl rfl rfl ?_ hw
  refine C.rs ?_
  refine J.p rfl rfl rfl rfl (Y.asg rfl) ?_
  refine J.nx ?_
  refine C.rs ?_
  refine J.p rfl rfl rfl rfl (Y.asg rfl) ?_
  refine J.nx ?_
  refine C.seq ?_
  refine C.rs ?_
  refine J.p rfl rfl rfl rfl (Y.asg rfl) ?_
  refine J.nx ?_
  refine C.joinN H (fun (o35 : (List Int)) (j36 : (Option Addr) × Nat) => [(3, .slice j36.1 o35.length j36.2)]) (fun (o35 : (List Int)) (j36 : (Option Addr) × Nat) => own 5 1 j36.1 j36.2 (o35.map (Value.int .u8)) :: G) (fun (o35 : (List Int)) (j36 : (Option Addr) × Nat) => True) (fun o33 H HK34 => ?_) (fun o35 j36 H _ => ?_)
  · refine C.blk ?_
    refine C.loop (fun (i : Nat × ((List Int) × Int) × ((Option Addr) × Nat)) => [(0, .slice Aa0 a0.length ca0), (3, .slice i.2.2.1 i.2.1.1.length i.2.2.2), (4, .int .i64 i.2.1.2)]) (fun (i : Nat × ((List Int) × Int) × ((Option Addr) × Nat)) => own 5 1 i.2.2.1 i.2.2.2 (i.2.1.1.map (Value.int .u8)) :: G) (fun (i : Nat × ((List Int) × Int) × ((Option Addr) × Nat)) => joined.l1 a0 i.1 i.2.1 = some o33 ∧ (True)) (fun i => i.1) (K, (([] : List Int), 0), (none, 0)) ⟨H, trivial⟩ (by exact ⟨rfl, rfl, rfl, trivial⟩) (by exact fun w h => (h.nilOwn 5 1)) ?_
    rintro ⟨k88, i71, j72⟩ ⟨H, _⟩
    replace H : joined.l1 a0 k88 i71 = some o33 := H
    obtain ⟨k70, rfl⟩ : ∃ m, k88 = m + 1 := by cases k88 with | zero => exact absurd H (by simp [joined.l1]) | succ m => exact ⟨m, rfl⟩
    rw [joined.l1] at H
    refine C.at (s' := [(0, .slice Aa0 a0.length ca0), (3, .slice j72.1 i71.1.length j72.2), (4, .int .i64 i71.2)]) (G' := own 5 1 j72.1 j72.2 (i71.1.map (Value.int .u8)) :: G) rfl rfl ?_
    refine C.seq ?_
    refine C.rs ?_
    refine J.p rfl rfl rfl rfl (Y.mv rfl) ?_
    refine J.p rfl rfl rfl rfl (Y.mv rfl) ?_
    refine J.p rfl rfl rfl rfl (Y.lenS Try.underlying23 rfl) ?_
    refine J.p rfl rfl rfl rfl (Y.bin rfl rfl rfl) ?_
    refine J.nx ?_
    refine split2 H (fun c75 H => ?_) (fun c75 H => ?_)
    · refine C.condT (congrArg (fun b => some (Value.bool b)) (decide_eq_true c75)) ?_
      refine C.skip ?_
      refine N.nx ?_
      refine C.seq ?_
      refine C.blk ?_
      refine C.reg ?_
      refine J.p rfl rfl rfl rfl (Y.mv rfl) ?_
      refine J.p rfl rfl rfl rfl (Y.mv rfl) ?_
      refine J.p rfl rfl rfl rfl (Y.mv rfl) ?_
      obtain ⟨p78, H⟩ := gd_some H
      refine J.know (VV.some_ (ha0.suf [_] rfl) (hva0.suf [_] rfl) (idx_lt p78)) (fun hh => ?_)
      obtain ⟨a76, ha77⟩ := hh
      refine J.p rfl rfl rfl rfl (Y.ixa Try.underlying23 ti26 rfl rfl p78 ha77) ?_
      obtain ⟨A79, c80, hv81, hr82, hc83⟩ := VV.get hva0 p78
      refine J.r rfl rfl rfl rfl (Y.ld Try.underlying26 rfl rfl (ha0.suf [_] rfl) ha77 hv81) ?_
      obtain ⟨p86, H⟩ := gd_some H
      refine J.appL (enc := (Value.int .u8)) (xs := i71.1) (ys := (rd a0 i71.2)) rfl Try.underlying26 ti5 rfl (by decide) rfl rfl (fun _ => rfl) (hr82.suf [_] rfl) p86 (fun A84 c85 => ?_)
      refine J.p rfl rfl rfl rfl (Y.asg rfl) ?_
      refine J.nil ?_
      refine N.ib ?_
      refine N.nx ?_
      refine C.reg ?_
      refine J.p rfl rfl rfl rfl (Y.mv rfl) ?_
      refine J.p rfl rfl rfl rfl (Y.bin rfl rfl rfl) ?_
      refine J.p rfl rfl rfl rfl (Y.asg rfl) ?_
      refine J.nil ?_
      exact N.again (k70, ((i71.1 ++ (rd a0 i71.2)), IntKind.wrap .i64 (i71.2 + 1)), (A84, c85)) ⟨H, trivial⟩ (Nat.lt_succ_self _) (by exact ⟨rfl, rfl, rfl, trivial⟩) (by exact fun w h => h)
    · refine C.condF (congrArg (fun b => some (Value.bool b)) (decide_eq_false c75)) ?_
      refine C.exit ?_
      refine X.th ?_
      refine X.th ?_
      refine X.hit ?_
      obtain rfl := Option.some.inj H
      exact N.meet (i71.1, (j72.1, j72.2)) ⟨HK34, trivial⟩ (by exact ⟨rfl, trivial⟩) (by exact fun w h => h)
  · refine N.at (s' := [(3, .slice j36.1 o35.length j36.2)]) (G' := own 5 1 j36.1 j36.2 (o35.map (Value.int .u8)) :: G) rfl rfl ?_
    refine N.nx ?_
    refine C.rs ?_
    refine J.p rfl rfl rfl rfl (Y.mv rfl) ?_
    refine J.p rfl rfl rfl rfl (Y.asg rfl) ?_
    refine J.nx ?_
    refine C.ret ?_
    obtain rfl := Option.some.inj H
    exact ret_ok (ks := [2]) rfl rfl (fun w h => ⟨j36.1, j36.2, rfl, h⟩)
/-! ### salvor/salvorlaw1.CrcBursts: function 4 -/
def CrcBursts.l1 (a1 : Int) (a0 : List Int) (a2 : Int) : Nat → ((List Int) × Int) → Option ((List Int))
  | 0, _ => none
  | k + 1, i97 => (if i97.2 < 32 then (some (decide ((IntKind.wrap .i64 ((IntKind.wrap .i64 (0 - (Int.tmod a1 (IntKind.wrap .i64 (8 * (a0.length : Int)))))) + i97.2)) < (IntKind.wrap .i64 (8 * (a0.length : Int)))))) else (some false)).bind fun o101 => if o101 = true then ((gd ((0 : Int) ≤ i97.2) (if (Int.tmod (Sx.shr .u32 (Sx.bits .or .u32 a2 1) i97.2) 2) = 1 then (gd ((0 : Int) ≤ (IntKind.wrap .i64 (Int.tdiv (IntKind.wrap .i64 ((IntKind.wrap .i64 (0 - (Int.tmod a1 (IntKind.wrap .i64 (8 * (a0.length : Int)))))) + i97.2)) 8)) ∧ (IntKind.wrap .i64 (Int.tdiv (IntKind.wrap .i64 ((IntKind.wrap .i64 (0 - (Int.tmod a1 (IntKind.wrap .i64 (8 * (a0.length : Int)))))) + i97.2)) 8)) < (i97.1.length : Int)) (gd ((0 : Int) ≤ (Int.tmod (IntKind.wrap .i64 ((IntKind.wrap .i64 (0 - (Int.tmod a1 (IntKind.wrap .i64 (8 * (a0.length : Int)))))) + i97.2)) 8)) (gd ((0 : Int) ≤ (IntKind.wrap .i64 (Int.tdiv (IntKind.wrap .i64 ((IntKind.wrap .i64 (0 - (Int.tmod a1 (IntKind.wrap .i64 (8 * (a0.length : Int)))))) + i97.2)) 8)) ∧ (IntKind.wrap .i64 (Int.tdiv (IntKind.wrap .i64 ((IntKind.wrap .i64 (0 - (Int.tmod a1 (IntKind.wrap .i64 (8 * (a0.length : Int)))))) + i97.2)) 8)) < (i97.1.length : Int)) (gd ((0 : Int) ≤ (IntKind.wrap .i64 (Int.tdiv (IntKind.wrap .i64 ((IntKind.wrap .i64 (0 - (Int.tmod a1 (IntKind.wrap .i64 (8 * (a0.length : Int)))))) + i97.2)) 8)) ∧ (IntKind.wrap .i64 (Int.tdiv (IntKind.wrap .i64 ((IntKind.wrap .i64 (0 - (Int.tmod a1 (IntKind.wrap .i64 (8 * (a0.length : Int)))))) + i97.2)) 8)) < (i97.1.length : Int)) (gd ((0 : Int) ≤ (IntKind.wrap .i64 (Int.tdiv (IntKind.wrap .i64 ((IntKind.wrap .i64 (0 - (Int.tmod a1 (IntKind.wrap .i64 (8 * (a0.length : Int)))))) + i97.2)) 8)) ∧ (IntKind.wrap .i64 (Int.tdiv (IntKind.wrap .i64 ((IntKind.wrap .i64 (0 - (Int.tmod a1 (IntKind.wrap .i64 (8 * (a0.length : Int)))))) + i97.2)) 8)) < (i97.1.length : Int)) (some (i97.1.set (Int.toNat (IntKind.wrap .i64 (Int.tdiv (IntKind.wrap .i64 ((IntKind.wrap .i64 (0 - (Int.tmod a1 (IntKind.wrap .i64 (8 * (a0.length : Int)))))) + i97.2)) 8))) (Sx.bits .xor .u8 (rd i97.1 (IntKind.wrap .i64 (Int.tdiv (IntKind.wrap .i64 ((IntKind.wrap .i64 (0 - (Int.tmod a1 (IntKind.wrap .i64 (8 * (a0.length : Int)))))) + i97.2)) 8))) (Sx.shl .u8 1 (Int.tmod (IntKind.wrap .i64 ((IntKind.wrap .i64 (0 - (Int.tmod a1 (IntKind.wrap .i64 (8 * (a0.length : Int)))))) + i97.2)) 8)))))))))) else (some i97.1))).bind fun o120 => CrcBursts.l1 a1 a0 a2 k (o120, IntKind.wrap .i64 (i97.2 + 1))) else (some i97.1)
def CrcBursts.l2 (a1 : Int) (a0 : List Int) (a2 : Int) : Nat → ((List Int) × Int) → Option ((List Int))
  | 0, _ => none
  | k + 1, i238 => (if i238.2 < 32 then (some (decide ((IntKind.wrap .i64 ((Int.tmod a1 (IntKind.wrap .i64 (8 * (a0.length : Int)))) + i238.2)) < (IntKind.wrap .i64 (8 * (a0.length : Int)))))) else (some false)).bind fun o242 => if o242 = true then ((gd ((0 : Int) ≤ i238.2) (if (Int.tmod (Sx.shr .u32 (Sx.bits .or .u32 a2 1) i238.2) 2) = 1 then (gd ((0 : Int) ≤ (IntKind.wrap .i64 (Int.tdiv (IntKind.wrap .i64 ((Int.tmod a1 (IntKind.wrap .i64 (8 * (a0.length : Int)))) + i238.2)) 8)) ∧ (IntKind.wrap .i64 (Int.tdiv (IntKind.wrap .i64 ((Int.tmod a1 (IntKind.wrap .i64 (8 * (a0.length : Int)))) + i238.2)) 8)) < (i238.1.length : Int)) (gd ((0 : Int) ≤ (Int.tmod (IntKind.wrap .i64 ((Int.tmod a1 (IntKind.wrap .i64 (8 * (a0.length : Int)))) + i238.2)) 8)) (gd ((0 : Int) ≤ (IntKind.wrap .i64 (Int.tdiv (IntKind.wrap .i64 ((Int.tmod a1 (IntKind.wrap .i64 (8 * (a0.length : Int)))) + i238.2)) 8)) ∧ (IntKind.wrap .i64 (Int.tdiv (IntKind.wrap .i64 ((Int.tmod a1 (IntKind.wrap .i64 (8 * (a0.length : Int)))) + i238.2)) 8)) < (i238.1.length : Int)) (gd ((0 : Int) ≤ (IntKind.wrap .i64 (Int.tdiv (IntKind.wrap .i64 ((Int.tmod a1 (IntKind.wrap .i64 (8 * (a0.length : Int)))) + i238.2)) 8)) ∧ (IntKind.wrap .i64 (Int.tdiv (IntKind.wrap .i64 ((Int.tmod a1 (IntKind.wrap .i64 (8 * (a0.length : Int)))) + i238.2)) 8)) < (i238.1.length : Int)) (gd ((0 : Int) ≤ (IntKind.wrap .i64 (Int.tdiv (IntKind.wrap .i64 ((Int.tmod a1 (IntKind.wrap .i64 (8 * (a0.length : Int)))) + i238.2)) 8)) ∧ (IntKind.wrap .i64 (Int.tdiv (IntKind.wrap .i64 ((Int.tmod a1 (IntKind.wrap .i64 (8 * (a0.length : Int)))) + i238.2)) 8)) < (i238.1.length : Int)) (some (i238.1.set (Int.toNat (IntKind.wrap .i64 (Int.tdiv (IntKind.wrap .i64 ((Int.tmod a1 (IntKind.wrap .i64 (8 * (a0.length : Int)))) + i238.2)) 8))) (Sx.bits .xor .u8 (rd i238.1 (IntKind.wrap .i64 (Int.tdiv (IntKind.wrap .i64 ((Int.tmod a1 (IntKind.wrap .i64 (8 * (a0.length : Int)))) + i238.2)) 8))) (Sx.shl .u8 1 (Int.tmod (IntKind.wrap .i64 ((Int.tmod a1 (IntKind.wrap .i64 (8 * (a0.length : Int)))) + i238.2)) 8)))))))))) else (some i238.1))).bind fun o261 => CrcBursts.l2 a1 a0 a2 k (o261, IntKind.wrap .i64 (i238.2 + 1))) else (some i238.1)
def CrcBursts.f (K : Nat) (a0 : List Int) (a1 : Int) (a2 : Int) : Option (Bool) := (known.f K).bind fun t1 => if (a0.length : Int) = 0 then (some t1) else (gd ((IntKind.wrap .i64 (8 * (a0.length : Int))) ≠ (0 : Int)) (if (Int.tmod a1 (IntKind.wrap .i64 (8 * (a0.length : Int)))) < 0 then (gd ((([] : List Int).length + a0.length) * 1 ≤ 140737488355328) ((CrcBursts.l1 a1 a0 a2 K ((([] : List Int) ++ a0), 0)).bind fun o53 => if t1 = true then ((Sum.f K [a0]).bind fun t138 => (Sum.f K [o53]).bind fun t143 => some (decide (t138 ≠ t143))) else (some false))) else (gd ((([] : List Int).length + a0.length) * 1 ≤ 140737488355328) ((CrcBursts.l2 a1 a0 a2 K ((([] : List Int) ++ a0), 0)).bind fun o194 => if t1 = true then ((Sum.f K [a0]).bind fun t279 => (Sum.f K [o194]).bind fun t284 => some (decide (t279 ≠ t284))) else (some false)))))
theorem CrcBursts.calls {B : Nat} {w0 : World} {G : List HP} (K : Nat) (a0 : List Int) (a1 : Int) (a2 : Int) (Aa0 : Option Addr) (ca0 : Nat) (ha0 : RdG B w0 G Aa0 (a0.map (Value.int .u8))) (ka0 : a0.length ≤ ca0) (r : Bool) (H : CrcBursts.f K a0 a1 a2 = some r) (w : World) (hw : St B w0 (G) w) :
    Calls Try.prog 4 [.slice Aa0 a0.length ca0, .int .i64 a1, .int .u32 a2].toArray w (fun e w' => e = .returned (.bool r) ∧ St B w0 (G) w') := by
  unfold CrcBursts.f at H
  refine calls_of (n := 76) (s := [(0, .slice Aa0 a0.length ca0), (1, .int .i64 a1), (2, .int .u32 a2)]) Try.func4 rfl rfl rfl rfl ?_ hw
  refine C.rs ?_
  refine J.p rfl rfl rfl rfl (Y.asg rfl) ?_
  refine J.nx ?_
  refine C.rs ?_
  obtain ⟨t1, hC2, H⟩ := bind_some H
  refine J.call (us := []) (cap := []) rfl rfl rfl go8 (fun w hw => by have hcc := known.calls K t1 hC2 w hw; exact hcc) (fun e w1 h1 => ?_)
  obtain ⟨rfl, hw288⟩ := h1
  refine ⟨_, _, rfl, hw288, ?_⟩
  refine J.p rfl rfl rfl rfl (Y.asg rfl) ?_
  refine J.nx ?_
  refine C.seq ?_
  refine C.rs ?_
  refine J.p rfl rfl rfl rfl (Y.mv rfl) ?_
  refine J.p rfl rfl rfl rfl (Y.lenS Try.underlying26 rfl) ?_
  refine J.p rfl rfl rfl rfl (Y.bin rfl rfl rfl) ?_
  refine J.nx ?_
  refine split2 H (fun c3 H => ?_) (fun c3 H => ?_)
  · refine C.condT (congrArg (fun b => some (Value.bool b)) (decide_eq_true c3)) ?_
    refine C.rs ?_
    refine J.p rfl rfl rfl rfl (Y.mv rfl) ?_
    refine J.p rfl rfl rfl rfl (Y.asg rfl) ?_
    refine J.nx ?_
    refine C.ret ?_
    obtain rfl := Option.some.inj H
    refine T.th ?_
    exact ret_ok (ks := [6]) rfl rfl (fun w h => ⟨rfl, h⟩)
  · refine C.condF (congrArg (fun b => some (Value.bool b)) (decide_eq_false c3)) ?_
    refine C.skip ?_
    refine N.nx ?_
    refine C.rs ?_
    refine J.p rfl rfl rfl rfl (Y.mv rfl) ?_
    refine J.p rfl rfl rfl rfl (Y.lenS Try.underlying26 rfl) ?_
    refine J.p rfl rfl rfl rfl (Y.bin rfl rfl rfl) ?_
    refine J.p rfl rfl rfl rfl (Y.asg rfl) ?_
    refine J.nx ?_
    refine C.rs ?_
    refine J.p rfl rfl rfl rfl (Y.mv rfl) ?_
    refine J.p rfl rfl rfl rfl (Y.mv rfl) ?_
    obtain ⟨p4, H⟩ := gd_some H
    refine J.p rfl rfl rfl rfl (Y.rem rfl rfl p4) ?_
    refine J.p rfl rfl rfl rfl (Y.asg rfl) ?_
    refine J.nx ?_
    refine C.seq ?_
    refine C.rs ?_
    refine J.p rfl rfl rfl rfl (Y.mv rfl) ?_
    refine J.p rfl rfl rfl rfl (Y.bin rfl rfl rfl) ?_
    refine J.nx ?_
    refine split2 H (fun c5 H => ?_) (fun c5 H => ?_)
    · refine C.condT (congrArg (fun b => some (Value.bool b)) (decide_eq_true c5)) ?_
      refine C.reg ?_
      refine J.p rfl rfl rfl rfl (Y.mv rfl) ?_
      refine J.p rfl rfl rfl rfl (Y.neg rfl) ?_
      refine J.p rfl rfl rfl rfl (Y.asg rfl) ?_
      refine J.nx ?_
      refine C.rs ?_
      refine J.p rfl rfl rfl rfl (Y.asg rfl) ?_
      refine J.nx ?_
      refine C.rs ?_
      refine J.p rfl rfl rfl rfl (Y.mv rfl) ?_
      refine J.p rfl rfl rfl rfl (Y.mv rfl) ?_
      refine J.nilOwn 5 1 ?_
      obtain ⟨p9, H⟩ := gd_some H
      refine J.appL (enc := (Value.int .u8)) (xs := ([] : List Int)) (ys := a0) rfl Try.underlying26 ti5 rfl (by decide) rfl rfl (fun _ => rfl) (ha0.suf [_] rfl) p9 (fun A7 c8 => ?_)
      refine J.p rfl rfl rfl rfl (Y.asg rfl) ?_
      refine J.nx ?_
      refine C.rs ?_
      refine J.p rfl rfl rfl rfl (Y.mv rfl) ?_
      refine J.p rfl rfl rfl rfl (Y.bin rfl rfl rfl) ?_
      refine J.p rfl rfl rfl rfl (Y.asg rfl) ?_
      refine J.nx ?_
      refine C.seq ?_
      refine C.rs ?_
      refine J.p rfl rfl rfl rfl (Y.asg rfl) ?_
      refine J.nx ?_
      refine C.joinN H (fun (o53 : (List Int)) (j54 : (Option Addr) × Nat) => [(0, .slice Aa0 a0.length ca0), (7, .bool t1), (9, .slice j54.1 o53.length j54.2)]) (fun (o53 : (List Int)) (j54 : (Option Addr) × Nat) => own 5 1 j54.1 j54.2 (o53.map (Value.int .u8)) :: G) (fun (o53 : (List Int)) (j54 : (Option Addr) × Nat) => True) (fun o51 H HK52 => ?_) (fun o53 j54 H _ => ?_)
      · refine C.blk ?_
        refine C.loop (fun (i : Nat × ((List Int) × Int) × ((Option Addr) × Nat)) => [(0, .slice Aa0 a0.length ca0), (1, .int .i64 (IntKind.wrap .i64 (0 - (Int.tmod a1 (IntKind.wrap .i64 (8 * (a0.length : Int))))))), (2, .int .u32 (Sx.bits .or .u32 a2 1)), (7, .bool t1), (8, .int .i64 (IntKind.wrap .i64 (8 * (a0.length : Int)))), (9, .slice i.2.2.1 i.2.1.1.length i.2.2.2), (10, .int .i64 i.2.1.2)]) (fun (i : Nat × ((List Int) × Int) × ((Option Addr) × Nat)) => own 5 1 i.2.2.1 i.2.2.2 (i.2.1.1.map (Value.int .u8)) :: G) (fun (i : Nat × ((List Int) × Int) × ((Option Addr) × Nat)) => CrcBursts.l1 a1 a0 a2 i.1 i.2.1 = some o51 ∧ (True)) (fun i => i.1) (K, ((([] : List Int) ++ a0), 0), (A7, c8)) ⟨H, trivial⟩ (by exact ⟨rfl, rfl, rfl, rfl, rfl, rfl, rfl, trivial⟩) (by exact fun w h => h) ?_
        rintro ⟨k134, i97, j98⟩ ⟨H, _⟩
        replace H : CrcBursts.l1 a1 a0 a2 k134 i97 = some o51 := H
        obtain ⟨k96, rfl⟩ : ∃ m, k134 = m + 1 := by cases k134 with | zero => exact absurd H (by simp [CrcBursts.l1]) | succ m => exact ⟨m, rfl⟩
        rw [CrcBursts.l1] at H
        refine C.at (s' := [(0, .slice Aa0 a0.length ca0), (1, .int .i64 (IntKind.wrap .i64 (0 - (Int.tmod a1 (IntKind.wrap .i64 (8 * (a0.length : Int))))))), (2, .int .u32 (Sx.bits .or .u32 a2 1)), (7, .bool t1), (8, .int .i64 (IntKind.wrap .i64 (8 * (a0.length : Int)))), (9, .slice j98.1 i97.1.length j98.2), (10, .int .i64 i97.2)]) (G' := own 5 1 j98.1 j98.2 (i97.1.map (Value.int .u8)) :: G) rfl rfl ?_
        refine C.seq ?_
        refine C.rs ?_
        refine J.joinB H (fun (o101 : Bool) (j102 : Unit) => [(0, .slice Aa0 a0.length ca0), (1, .int .i64 (IntKind.wrap .i64 (0 - (Int.tmod a1 (IntKind.wrap .i64 (8 * (a0.length : Int))))))), (2, .int .u32 (Sx.bits .or .u32 a2 1)), (7, .bool t1), (8, .int .i64 (IntKind.wrap .i64 (8 * (a0.length : Int)))), (9, .slice j98.1 i97.1.length j98.2), (10, .int .i64 i97.2), (39, .bool o101)]) (fun (o101 : Bool) (j102 : Unit) => own 5 1 j98.1 j98.2 (i97.1.map (Value.int .u8)) :: G) (fun (o101 : Bool) (j102 : Unit) => True) (fun o103 H HK104 => ?_) (fun o101 j102 H _ => ?_)
        · refine J.p rfl rfl rfl rfl (Y.mv rfl) ?_
          refine J.p rfl rfl rfl rfl (Y.bin rfl rfl rfl) ?_
          refine J.p rfl rfl rfl rfl (Y.mv rfl) ?_
          refine split2 H (fun c105 H => ?_) (fun c105 H => ?_)
          · refine J.as (k := 33) rfl (congrArg Value.bool (decide_eq_true c105)) ?_
            refine J.p rfl rfl rfl rfl (Y.mv rfl) ?_
            refine J.p rfl rfl rfl rfl (Y.mv rfl) ?_
            refine J.p rfl rfl rfl rfl (Y.bin rfl rfl rfl) ?_
            refine J.p rfl rfl rfl rfl (Y.mv rfl) ?_
            refine J.p rfl rfl rfl rfl (Y.bin rfl rfl rfl) ?_
            refine J.p rfl rfl rfl rfl (Y.pickT rfl rfl) ?_
            refine J.nil ?_
            obtain rfl := Option.some.inj H
            exact N.meet (decide ((IntKind.wrap .i64 ((IntKind.wrap .i64 (0 - (Int.tmod a1 (IntKind.wrap .i64 (8 * (a0.length : Int)))))) + i97.2)) < (IntKind.wrap .i64 (8 * (a0.length : Int)))), ()) ⟨HK104, trivial⟩ (by exact ⟨rfl, rfl, rfl, rfl, rfl, rfl, rfl, rfl, trivial⟩) (by exact fun w h => h)
          · refine J.as (k := 33) rfl (congrArg Value.bool (decide_eq_false c105)) ?_
            refine J.skip rfl rfl ?_
            refine J.skip rfl rfl ?_
            refine J.skip rfl rfl ?_
            refine J.skip rfl rfl ?_
            refine J.skip rfl rfl ?_
            refine J.p rfl rfl rfl rfl (Y.pickF rfl rfl) ?_
            refine J.nil ?_
            obtain rfl := Option.some.inj H
            exact N.meet (false, ()) ⟨HK104, trivial⟩ (by exact ⟨rfl, rfl, rfl, rfl, rfl, rfl, rfl, rfl, trivial⟩) (by exact fun w h => h)
        · refine C.at (s' := [(0, .slice Aa0 a0.length ca0), (1, .int .i64 (IntKind.wrap .i64 (0 - (Int.tmod a1 (IntKind.wrap .i64 (8 * (a0.length : Int))))))), (2, .int .u32 (Sx.bits .or .u32 a2 1)), (7, .bool t1), (8, .int .i64 (IntKind.wrap .i64 (8 * (a0.length : Int)))), (9, .slice j98.1 i97.1.length j98.2), (10, .int .i64 i97.2), (39, .bool o101)]) (G' := own 5 1 j98.1 j98.2 (i97.1.map (Value.int .u8)) :: G) rfl rfl ?_
          refine split2 H (fun c106 H => ?_) (fun c106 H => ?_)
          · refine C.condT (congrArg (fun b => some (Value.bool b)) (c106)) ?_
            refine C.skip ?_
            refine N.nx ?_
            refine C.joinB H (fun (o120 : (List Int)) (j121 : (Option Addr) × Nat) => [(0, .slice Aa0 a0.length ca0), (1, .int .i64 (IntKind.wrap .i64 (0 - (Int.tmod a1 (IntKind.wrap .i64 (8 * (a0.length : Int))))))), (2, .int .u32 (Sx.bits .or .u32 a2 1)), (7, .bool t1), (8, .int .i64 (IntKind.wrap .i64 (8 * (a0.length : Int)))), (9, .slice j121.1 o120.length j121.2), (10, .int .i64 i97.2)]) (fun (o120 : (List Int)) (j121 : (Option Addr) × Nat) => own 5 1 j121.1 j121.2 (o120.map (Value.int .u8)) :: G) (fun (o120 : (List Int)) (j121 : (Option Addr) × Nat) => True) (fun o118 H HK119 => ?_) (fun o120 j121 H _ => ?_)
            · refine C.blk ?_
              refine C.rs ?_
              refine J.p rfl rfl rfl rfl (Y.mv rfl) ?_
              refine J.p rfl rfl rfl rfl (Y.mv rfl) ?_
              obtain ⟨p123, H⟩ := gd_some H
              refine J.p rfl rfl rfl rfl (Y.shr rfl rfl p123) ?_
              refine J.p rfl rfl rfl rfl (Y.rem rfl rfl (by decide)) ?_
              refine J.p rfl rfl rfl rfl (Y.bin rfl rfl rfl) ?_
              refine J.nx ?_
              refine split2 H (fun c124 H => ?_) (fun c124 H => ?_)
              · refine C.condT (congrArg (fun b => some (Value.bool b)) (decide_eq_true c124)) ?_
                refine C.drawn (fuel := 20) (ls := [false, false, false, false, false, false, false, false, false, false, false, false, false, false, false, false, false, false, false, false]) [] (G) mx rfl rfl ?_
                refine D.p (ls' := [true, false, false, false, false, false, false, false, false, false, false, false, false, false, false, false, false, false, false, false]) 0 rfl rfl rfl rfl (by kernel_rfl) rfl (Y.mv rfl) ?_
                refine D.p (ls' := [true, true, false, false, false, false, false, false, false, false, false, false, false, false, false, false, false, false, false, false]) 1 rfl rfl rfl rfl (by kernel_rfl) rfl (Y.mv rfl) ?_
                refine D.p (ls' := [true, true, true, false, false, false, false, false, false, false, false, false, false, false, false, false, false, false, false, false]) 2 rfl rfl rfl rfl (by kernel_rfl) rfl (Y.mv rfl) ?_
                refine D.p (ls' := [true, true, true, true, false, false, false, false, false, false, false, false, false, false, false, false, false, false, false, false]) 3 rfl rfl rfl rfl (by kernel_rfl) rfl (Y.bin rfl rfl rfl) ?_
                refine D.p (ls' := [true, true, true, true, true, false, false, false, false, false, false, false, false, false, false, false, false, false, false, false]) 4 rfl rfl rfl rfl (by kernel_rfl) rfl (Y.quo rfl rfl (by decide)) ?_
                refine D.p (ls' := [true, true, true, true, true, true, false, false, false, false, false, false, false, false, false, false, false, false, false, false]) 5 rfl rfl rfl rfl (by kernel_rfl) rfl (Y.mv rfl) ?_
                refine D.p (ls' := [true, true, true, true, true, true, true, false, false, false, false, false, false, false, false, false, false, false, false, false]) 6 rfl rfl rfl rfl (by kernel_rfl) rfl (Y.mv rfl) ?_
                refine D.p (ls' := [true, true, true, true, true, true, true, true, false, false, false, false, false, false, false, false, false, false, false, false]) 7 rfl rfl rfl rfl (by kernel_rfl) rfl (Y.mv rfl) ?_
                refine D.p (ls' := [true, true, true, true, true, true, true, true, true, false, false, false, false, false, false, false, false, false, false, false]) 8 rfl rfl rfl rfl (by kernel_rfl) rfl (Y.bin rfl rfl rfl) ?_
                refine D.p (ls' := [true, true, true, true, true, true, true, true, true, true, false, false, false, false, false, false, false, false, false, false]) 9 rfl rfl rfl rfl (by kernel_rfl) rfl (Y.quo rfl rfl (by decide)) ?_
                obtain ⟨p127, H⟩ := gd_some H
                refine D.know ((RdG.own 0 rfl).some_ (j := Int.toNat (IntKind.wrap .i64 (Int.tdiv (IntKind.wrap .i64 ((IntKind.wrap .i64 (0 - (Int.tmod a1 (IntKind.wrap .i64 (8 * (a0.length : Int)))))) + i97.2)) 8))) (by rw [List.length_map]; exact idx_lt p127)) (fun hh => ?_)
                obtain ⟨a125, ha126⟩ := hh
                refine D.p (ls' := [true, true, true, true, true, true, true, true, true, true, true, false, false, false, false, false, false, false, false, false]) 10 rfl rfl rfl rfl (by kernel_rfl) rfl (Y.ixa Try.underlying26 ti5 rfl rfl p127 ha126) ?_
                refine D.p (ls' := [true, true, true, true, true, true, true, true, true, true, true, false, true, false, false, false, false, false, false, false]) 12 rfl rfl rfl rfl (by kernel_rfl) rfl (Y.mv rfl) ?_
                refine D.p (ls' := [true, true, true, true, true, true, true, true, true, true, true, false, true, true, false, false, false, false, false, false]) 13 rfl rfl rfl rfl (by kernel_rfl) rfl (Y.mv rfl) ?_
                refine D.p (ls' := [true, true, true, true, true, true, true, true, true, true, true, false, true, true, true, false, false, false, false, false]) 14 rfl rfl rfl rfl (by kernel_rfl) rfl (Y.bin rfl rfl rfl) ?_
                refine D.p (ls' := [true, true, true, true, true, true, true, true, true, true, true, false, true, true, true, true, false, false, false, false]) 15 rfl rfl rfl rfl (by kernel_rfl) rfl (Y.rem rfl rfl (by decide)) ?_
                obtain ⟨p128, H⟩ := gd_some H
                refine D.p (ls' := [true, true, true, true, true, true, true, true, true, true, true, false, true, true, true, true, true, false, false, false]) 16 rfl rfl rfl rfl (by kernel_rfl) rfl (Y.shl rfl rfl p128) ?_
                refine D.any [11] (by kernel_rfl) rfl ⟨?_, trivial⟩
                refine DW.j (ls' := [true, true, true, true, true, true, true, true, true, true, true, true, true, true, true, true, true, false, false, false]) rfl rfl ?_
                obtain ⟨p129, H⟩ := gd_some H
                refine J.r rfl rfl rfl rfl (Y.ldE Try.underlying5 rfl rfl ha126 p129 (RdG.own 0 rfl)) ?_
                refine J.nil ?_
                refine D.backK 1 rfl ?_
                refine D.p (ls' := [true, true, true, true, true, true, true, true, true, true, true, true, true, true, true, true, true, true, false, false]) 17 rfl rfl rfl rfl (by kernel_rfl) rfl (Y.bin rfl rfl rfl) ?_
                obtain ⟨p132, H⟩ := gd_some H
                refine D.know ((RdG.own 0 rfl).some_ (j := Int.toNat (IntKind.wrap .i64 (Int.tdiv (IntKind.wrap .i64 ((IntKind.wrap .i64 (0 - (Int.tmod a1 (IntKind.wrap .i64 (8 * (a0.length : Int)))))) + i97.2)) 8))) (by rw [List.length_map]; exact idx_lt p132)) (fun hh => ?_)
                obtain ⟨a130, ha131⟩ := hh
                refine D.p (ls' := [true, true, true, true, true, true, true, true, true, true, true, true, true, true, true, true, true, true, true, false]) 18 rfl rfl rfl rfl (by kernel_rfl) rfl (Y.ixa Try.underlying26 ti5 rfl rfl p132 ha131) ?_
                refine D.any [19] (by kernel_rfl) rfl ⟨?_, trivial⟩
                refine DW.j (ls' := [true, true, true, true, true, true, true, true, true, true, true, true, true, true, true, true, true, true, true, true]) rfl rfl ?_
                obtain ⟨p133, H⟩ := gd_some H
                refine J.stoL (enc := (Value.int .u8)) ti5 ha131 rfl rfl rfl p133 ?_
                refine J.as (k := 9) rfl (set_len i97.1 (Int.toNat (IntKind.wrap .i64 (Int.tdiv (IntKind.wrap .i64 ((IntKind.wrap .i64 (0 - (Int.tmod a1 (IntKind.wrap .i64 (8 * (a0.length : Int)))))) + i97.2)) 8))) (Sx.bits .xor .u8 (rd i97.1 (IntKind.wrap .i64 (Int.tdiv (IntKind.wrap .i64 ((IntKind.wrap .i64 (0 - (Int.tmod a1 (IntKind.wrap .i64 (8 * (a0.length : Int)))))) + i97.2)) 8))) (Sx.shl .u8 1 (Int.tmod (IntKind.wrap .i64 ((IntKind.wrap .i64 (0 - (Int.tmod a1 (IntKind.wrap .i64 (8 * (a0.length : Int)))))) + i97.2)) 8)))) ?_
                refine J.nil ?_
                refine D.backK 1 rfl ?_
                refine D.nil (by kernel_rfl) ?_
                refine N.ib ?_
                obtain rfl := Option.some.inj H
                exact N.meet ((i97.1.set (Int.toNat (IntKind.wrap .i64 (Int.tdiv (IntKind.wrap .i64 ((IntKind.wrap .i64 (0 - (Int.tmod a1 (IntKind.wrap .i64 (8 * (a0.length : Int)))))) + i97.2)) 8))) (Sx.bits .xor .u8 (rd i97.1 (IntKind.wrap .i64 (Int.tdiv (IntKind.wrap .i64 ((IntKind.wrap .i64 (0 - (Int.tmod a1 (IntKind.wrap .i64 (8 * (a0.length : Int)))))) + i97.2)) 8))) (Sx.shl .u8 1 (Int.tmod (IntKind.wrap .i64 ((IntKind.wrap .i64 (0 - (Int.tmod a1 (IntKind.wrap .i64 (8 * (a0.length : Int)))))) + i97.2)) 8)))), (j98.1, j98.2)) ⟨HK119, trivial⟩ (by exact ⟨rfl, rfl, rfl, rfl, rfl, rfl, rfl, trivial⟩) (by exact fun w h => h)
              · refine C.condF (congrArg (fun b => some (Value.bool b)) (decide_eq_false c124)) ?_
                refine C.skip ?_
                refine N.ib ?_
                obtain rfl := Option.some.inj H
                exact N.meet (i97.1, (j98.1, j98.2)) ⟨HK119, trivial⟩ (by exact ⟨rfl, rfl, rfl, rfl, rfl, rfl, rfl, trivial⟩) (by exact fun w h => h)
            · refine C.at (s' := [(0, .slice Aa0 a0.length ca0), (1, .int .i64 (IntKind.wrap .i64 (0 - (Int.tmod a1 (IntKind.wrap .i64 (8 * (a0.length : Int))))))), (2, .int .u32 (Sx.bits .or .u32 a2 1)), (7, .bool t1), (8, .int .i64 (IntKind.wrap .i64 (8 * (a0.length : Int)))), (9, .slice j121.1 o120.length j121.2), (10, .int .i64 i97.2)]) (G' := own 5 1 j121.1 j121.2 (o120.map (Value.int .u8)) :: G) rfl rfl ?_
              refine C.reg ?_
              refine J.p rfl rfl rfl rfl (Y.mv rfl) ?_
              refine J.p rfl rfl rfl rfl (Y.bin rfl rfl rfl) ?_
              refine J.p rfl rfl rfl rfl (Y.asg rfl) ?_
              refine J.nil ?_
              exact N.again (k96, (o120, IntKind.wrap .i64 (i97.2 + 1)), (j121.1, j121.2)) ⟨H, trivial⟩ (Nat.lt_succ_self _) (by exact ⟨rfl, rfl, rfl, rfl, rfl, rfl, rfl, trivial⟩) (by exact fun w h => h)
          · refine C.condF (congrArg (fun b => some (Value.bool b)) (nt c106)) ?_
            refine C.exit ?_
            refine X.th ?_
            refine X.th ?_
            refine X.hit ?_
            obtain rfl := Option.some.inj H
            exact N.meet (i97.1, (j98.1, j98.2)) ⟨HK52, trivial⟩ (by exact ⟨rfl, rfl, rfl, trivial⟩) (by exact fun w h => h)
      · refine N.at (s' := [(0, .slice Aa0 a0.length ca0), (7, .bool t1), (9, .slice j54.1 o53.length j54.2)]) (G' := own 5 1 j54.1 j54.2 (o53.map (Value.int .u8)) :: G) rfl rfl ?_
        refine N.nx ?_
        refine C.rs ?_
        refine J.p rfl rfl rfl rfl (Y.mv rfl) ?_
        refine J.p rfl rfl rfl rfl (Y.mv rfl) ?_
        refine split2 H (fun c135 H => ?_) (fun c135 H => ?_)
        · refine J.as (k := 67) rfl (congrArg Value.bool (c135)) ?_
          refine J.p rfl rfl rfl rfl (Y.mv rfl) ?_
          refine J.want rfl ?_
          refine J.bsV (L := [.slice Aa0 a0.length ca0]) rfl Try.underlying23 ti26 rfl rfl rfl rfl rfl (fun A136 => ?_)
          refine J.want rfl ?_
          obtain ⟨t138, hC139, H⟩ := bind_some H
          refine J.call (us := []) (cap := []) rfl rfl rfl go18 (fun w hw => by have hcc := Sum.calls K [a0] A136 1 [.slice Aa0 a0.length ca0] (RdG.own 0 rfl) (VV.cons (ha0.suf [_, _] rfl) ka0 VV.nil) (Nat.le_refl _) t138 hC139 w hw; exact hcc) (fun e w1 h1 => ?_)
          obtain ⟨rfl, hw146⟩ := h1
          refine ⟨_, _, rfl, hw146, ?_⟩
          refine J.p rfl rfl rfl rfl (Y.mv rfl) ?_
          refine J.want rfl ?_
          refine J.know (own_leL 1 rfl) (fun hc141 => ?_)
          refine J.bsV (L := [.slice j54.1 o53.length j54.2]) rfl Try.underlying23 ti26 rfl rfl rfl rfl rfl (fun A140 => ?_)
          refine J.want rfl ?_
          obtain ⟨t143, hC144, H⟩ := bind_some H
          refine J.call (us := []) (cap := []) rfl rfl rfl go18 (fun w hw => by have hcc := Sum.calls K [o53] A140 1 [.slice j54.1 o53.length j54.2] (RdG.own 0 rfl) (VV.cons (RdG.own 2 rfl) hc141 VV.nil) (Nat.le_refl _) t143 hC144 w hw; exact hcc) (fun e w1 h1 => ?_)
          obtain ⟨rfl, hw145⟩ := h1
          refine ⟨_, _, rfl, hw145, ?_⟩
          refine J.p rfl rfl rfl rfl (Y.bin rfl rfl rfl) ?_
          refine J.p rfl rfl rfl rfl (Y.pickT rfl rfl) ?_
          refine J.p rfl rfl rfl rfl (Y.asg rfl) ?_
          refine J.nx ?_
          refine C.ret ?_
          obtain rfl := Option.some.inj H
          exact ret_ok (ks := [6]) rfl rfl (fun w h => ⟨rfl, (St.pick [] [_, _, _] h rfl)⟩)
        · refine J.as (k := 67) rfl (congrArg Value.bool (nt c135)) ?_
          refine J.skip rfl rfl ?_
          refine J.skip rfl rfl ?_
          refine J.skip rfl rfl ?_
          refine J.skip rfl rfl ?_
          refine J.skip rfl rfl ?_
          refine J.skip rfl rfl ?_
          refine J.skip rfl rfl ?_
          refine J.p rfl rfl rfl rfl (Y.pickF rfl rfl) ?_
          refine J.p rfl rfl rfl rfl (Y.asg rfl) ?_
          refine J.nx ?_
          refine C.ret ?_
          obtain rfl := Option.some.inj H
          exact ret_ok (ks := [6]) rfl rfl (fun w h => ⟨rfl, (St.pick [] [_] h rfl)⟩)
    · refine C.condF (congrArg (fun b => some (Value.bool b)) (decide_eq_false c5)) ?_
      refine C.skip ?_
      refine N.nx ?_
      refine C.rs ?_
      refine J.p rfl rfl rfl rfl (Y.asg rfl) ?_
      refine J.nx ?_
      refine C.rs ?_
      refine J.p rfl rfl rfl rfl (Y.mv rfl) ?_
      refine J.p rfl rfl rfl rfl (Y.mv rfl) ?_
      refine J.nilOwn 5 1 ?_
      obtain ⟨p150, H⟩ := gd_some H
      refine J.appL (enc := (Value.int .u8)) (xs := ([] : List Int)) (ys := a0) rfl Try.underlying26 ti5 rfl (by decide) rfl rfl (fun _ => rfl) (ha0.suf [_] rfl) p150 (fun A148 c149 => ?_)
      refine J.p rfl rfl rfl rfl (Y.asg rfl) ?_
      refine J.nx ?_
      refine C.rs ?_
      refine J.p rfl rfl rfl rfl (Y.mv rfl) ?_
      refine J.p rfl rfl rfl rfl (Y.bin rfl rfl rfl) ?_
      refine J.p rfl rfl rfl rfl (Y.asg rfl) ?_
      refine J.nx ?_
      refine C.seq ?_
      refine C.rs ?_
      refine J.p rfl rfl rfl rfl (Y.asg rfl) ?_
      refine J.nx ?_
      refine C.joinN H (fun (o194 : (List Int)) (j195 : (Option Addr) × Nat) => [(0, .slice Aa0 a0.length ca0), (7, .bool t1), (9, .slice j195.1 o194.length j195.2)]) (fun (o194 : (List Int)) (j195 : (Option Addr) × Nat) => own 5 1 j195.1 j195.2 (o194.map (Value.int .u8)) :: G) (fun (o194 : (List Int)) (j195 : (Option Addr) × Nat) => True) (fun o192 H HK193 => ?_) (fun o194 j195 H _ => ?_)
      · refine C.blk ?_
        refine C.loop (fun (i : Nat × ((List Int) × Int) × ((Option Addr) × Nat)) => [(0, .slice Aa0 a0.length ca0), (1, .int .i64 (Int.tmod a1 (IntKind.wrap .i64 (8 * (a0.length : Int))))), (2, .int .u32 (Sx.bits .or .u32 a2 1)), (7, .bool t1), (8, .int .i64 (IntKind.wrap .i64 (8 * (a0.length : Int)))), (9, .slice i.2.2.1 i.2.1.1.length i.2.2.2), (10, .int .i64 i.2.1.2)]) (fun (i : Nat × ((List Int) × Int) × ((Option Addr) × Nat)) => own 5 1 i.2.2.1 i.2.2.2 (i.2.1.1.map (Value.int .u8)) :: G) (fun (i : Nat × ((List Int) × Int) × ((Option Addr) × Nat)) => CrcBursts.l2 a1 a0 a2 i.1 i.2.1 = some o192 ∧ (True)) (fun i => i.1) (K, ((([] : List Int) ++ a0), 0), (A148, c149)) ⟨H, trivial⟩ (by exact ⟨rfl, rfl, rfl, rfl, rfl, rfl, rfl, trivial⟩) (by exact fun w h => h) ?_
        rintro ⟨k275, i238, j239⟩ ⟨H, _⟩
        replace H : CrcBursts.l2 a1 a0 a2 k275 i238 = some o192 := H
        obtain ⟨k237, rfl⟩ : ∃ m, k275 = m + 1 := by cases k275 with | zero => exact absurd H (by simp [CrcBursts.l2]) | succ m => exact ⟨m, rfl⟩
        rw [CrcBursts.l2] at H
        refine C.at (s' := [(0, .slice Aa0 a0.length ca0), (1, .int .i64 (Int.tmod a1 (IntKind.wrap .i64 (8 * (a0.length : Int))))), (2, .int .u32 (Sx.bits .or .u32 a2 1)), (7, .bool t1), (8, .int .i64 (IntKind.wrap .i64 (8 * (a0.length : Int)))), (9, .slice j239.1 i238.1.length j239.2), (10, .int .i64 i238.2)]) (G' := own 5 1 j239.1 j239.2 (i238.1.map (Value.int .u8)) :: G) rfl rfl ?_
        refine C.seq ?_
        refine C.rs ?_
        refine J.joinB H (fun (o242 : Bool) (j243 : Unit) => [(0, .slice Aa0 a0.length ca0), (1, .int .i64 (Int.tmod a1 (IntKind.wrap .i64 (8 * (a0.length : Int))))), (2, .int .u32 (Sx.bits .or .u32 a2 1)), (7, .bool t1), (8, .int .i64 (IntKind.wrap .i64 (8 * (a0.length : Int)))), (9, .slice j239.1 i238.1.length j239.2), (10, .int .i64 i238.2), (39, .bool o242)]) (fun (o242 : Bool) (j243 : Unit) => own 5 1 j239.1 j239.2 (i238.1.map (Value.int .u8)) :: G) (fun (o242 : Bool) (j243 : Unit) => True) (fun o244 H HK245 => ?_) (fun o242 j243 H _ => ?_)
        · refine J.p rfl rfl rfl rfl (Y.mv rfl) ?_
          refine J.p rfl rfl rfl rfl (Y.bin rfl rfl rfl) ?_
          refine J.p rfl rfl rfl rfl (Y.mv rfl) ?_
          refine split2 H (fun c246 H => ?_) (fun c246 H => ?_)
          · refine J.as (k := 33) rfl (congrArg Value.bool (decide_eq_true c246)) ?_
            refine J.p rfl rfl rfl rfl (Y.mv rfl) ?_
            refine J.p rfl rfl rfl rfl (Y.mv rfl) ?_
            refine J.p rfl rfl rfl rfl (Y.bin rfl rfl rfl) ?_
            refine J.p rfl rfl rfl rfl (Y.mv rfl) ?_
            refine J.p rfl rfl rfl rfl (Y.bin rfl rfl rfl) ?_
            refine J.p rfl rfl rfl rfl (Y.pickT rfl rfl) ?_
            refine J.nil ?_
            obtain rfl := Option.some.inj H
            exact N.meet (decide ((IntKind.wrap .i64 ((Int.tmod a1 (IntKind.wrap .i64 (8 * (a0.length : Int)))) + i238.2)) < (IntKind.wrap .i64 (8 * (a0.length : Int)))), ()) ⟨HK245, trivial⟩ (by exact ⟨rfl, rfl, rfl, rfl, rfl, rfl, rfl, rfl, trivial⟩) (by exact fun w h => h)
          · refine J.as (k := 33) rfl (congrArg Value.bool (decide_eq_false c246)) ?_
            refine J.skip rfl rfl ?_
            refine J.skip rfl rfl ?_
            refine J.skip rfl rfl ?_
            refine J.skip rfl rfl ?_
            refine J.skip rfl rfl ?_
            refine J.p rfl rfl rfl rfl (Y.pickF rfl rfl) ?_
            refine J.nil ?_
            obtain rfl := Option.some.inj H
            exact N.meet (false, ()) ⟨HK245, trivial⟩ (by exact ⟨rfl, rfl, rfl, rfl, rfl, rfl, rfl, rfl, trivial⟩) (by exact fun w h => h)
        · refine C.at (s' := [(0, .slice Aa0 a0.length ca0), (1, .int .i64 (Int.tmod a1 (IntKind.wrap .i64 (8 * (a0.length : Int))))), (2, .int .u32 (Sx.bits .or .u32 a2 1)), (7, .bool t1), (8, .int .i64 (IntKind.wrap .i64 (8 * (a0.length : Int)))), (9, .slice j239.1 i238.1.length j239.2), (10, .int .i64 i238.2), (39, .bool o242)]) (G' := own 5 1 j239.1 j239.2 (i238.1.map (Value.int .u8)) :: G) rfl rfl ?_
          refine split2 H (fun c247 H => ?_) (fun c247 H => ?_)
          · refine C.condT (congrArg (fun b => some (Value.bool b)) (c247)) ?_
            refine C.skip ?_
            refine N.nx ?_
            refine C.joinB H (fun (o261 : (List Int)) (j262 : (Option Addr) × Nat) => [(0, .slice Aa0 a0.length ca0), (1, .int .i64 (Int.tmod a1 (IntKind.wrap .i64 (8 * (a0.length : Int))))), (2, .int .u32 (Sx.bits .or .u32 a2 1)), (7, .bool t1), (8, .int .i64 (IntKind.wrap .i64 (8 * (a0.length : Int)))), (9, .slice j262.1 o261.length j262.2), (10, .int .i64 i238.2)]) (fun (o261 : (List Int)) (j262 : (Option Addr) × Nat) => own 5 1 j262.1 j262.2 (o261.map (Value.int .u8)) :: G) (fun (o261 : (List Int)) (j262 : (Option Addr) × Nat) => True) (fun o259 H HK260 => ?_) (fun o261 j262 H _ => ?_)
            · refine C.blk ?_
              refine C.rs ?_
              refine J.p rfl rfl rfl rfl (Y.mv rfl) ?_
              refine J.p rfl rfl rfl rfl (Y.mv rfl) ?_
              obtain ⟨p264, H⟩ := gd_some H
              refine J.p rfl rfl rfl rfl (Y.shr rfl rfl p264) ?_
              refine J.p rfl rfl rfl rfl (Y.rem rfl rfl (by decide)) ?_
              refine J.p rfl rfl rfl rfl (Y.bin rfl rfl rfl) ?_
              refine J.nx ?_
              refine split2 H (fun c265 H => ?_) (fun c265 H => ?_)
              · refine C.condT (congrArg (fun b => some (Value.bool b)) (decide_eq_true c265)) ?_
                refine C.drawn (fuel := 20) (ls := [false, false, false, false, false, false, false, false, false, false, false, false, false, false, false, false, false, false, false, false]) [] (G) mx rfl rfl ?_
                refine D.p (ls' := [true, false, false, false, false, false, false, false, false, false, false, false, false, false, false, false, false, false, false, false]) 0 rfl rfl rfl rfl (by kernel_rfl) rfl (Y.mv rfl) ?_
                refine D.p (ls' := [true, true, false, false, false, false, false, false, false, false, false, false, false, false, false, false, false, false, false, false]) 1 rfl rfl rfl rfl (by kernel_rfl) rfl (Y.mv rfl) ?_
                refine D.p (ls' := [true, true, true, false, false, false, false, false, false, false, false, false, false, false, false, false, false, false, false, false]) 2 rfl rfl rfl rfl (by kernel_rfl) rfl (Y.mv rfl) ?_
                refine D.p (ls' := [true, true, true, true, false, false, false, false, false, false, false, false, false, false, false, false, false, false, false, false]) 3 rfl rfl rfl rfl (by kernel_rfl) rfl (Y.bin rfl rfl rfl) ?_
                refine D.p (ls' := [true, true, true, true, true, false, false, false, false, false, false, false, false, false, false, false, false, false, false, false]) 4 rfl rfl rfl rfl (by kernel_rfl) rfl (Y.quo rfl rfl (by decide)) ?_
                refine D.p (ls' := [true, true, true, true, true, true, false, false, false, false, false, false, false, false, false, false, false, false, false, false]) 5 rfl rfl rfl rfl (by kernel_rfl) rfl (Y.mv rfl) ?_
                refine D.p (ls' := [true, true, true, true, true, true, true, false, false, false, false, false, false, false, false, false, false, false, false, false]) 6 rfl rfl rfl rfl (by kernel_rfl) rfl (Y.mv rfl) ?_
                refine D.p (ls' := [true, true, true, true, true, true, true, true, false, false, false, false, false, false, false, false, false, false, false, false]) 7 rfl rfl rfl rfl (by kernel_rfl) rfl (Y.mv rfl) ?_
                refine D.p (ls' := [true, true, true, true, true, true, true, true, true, false, false, false, false, false, false, false, false, false, false, false]) 8 rfl rfl rfl rfl (by kernel_rfl) rfl (Y.bin rfl rfl rfl) ?_
                refine D.p (ls' := [true, true, true, true, true, true, true, true, true, true, false, false, false, false, false, false, false, false, false, false]) 9 rfl rfl rfl rfl (by kernel_rfl) rfl (Y.quo rfl rfl (by decide)) ?_
                obtain ⟨p268, H⟩ := gd_some H
                refine D.know ((RdG.own 0 rfl).some_ (j := Int.toNat (IntKind.wrap .i64 (Int.tdiv (IntKind.wrap .i64 ((Int.tmod a1 (IntKind.wrap .i64 (8 * (a0.length : Int)))) + i238.2)) 8))) (by rw [List.length_map]; exact idx_lt p268)) (fun hh => ?_)
                obtain ⟨a266, ha267⟩ := hh
                refine D.p (ls' := [true, true, true, true, true, true, true, true, true, true, true, false, false, false, false, false, false, false, false, false]) 10 rfl rfl rfl rfl (by kernel_rfl) rfl (Y.ixa Try.underlying26 ti5 rfl rfl p268 ha267) ?_
                refine D.p (ls' := [true, true, true, true, true, true, true, true, true, true, true, false, true, false, false, false, false, false, false, false]) 12 rfl rfl rfl rfl (by kernel_rfl) rfl (Y.mv rfl) ?_
                refine D.p (ls' := [true, true, true, true, true, true, true, true, true, true, true, false, true, true, false, false, false, false, false, false]) 13 rfl rfl rfl rfl (by kernel_rfl) rfl (Y.mv rfl) ?_
                refine D.p (ls' := [true, true, true, true, true, true, true, true, true, true, true, false, true, true, true, false, false, false, false, false]) 14 rfl rfl rfl rfl (by kernel_rfl) rfl (Y.bin rfl rfl rfl) ?_
                refine D.p (ls' := [true, true, true, true, true, true, true, true, true, true, true, false, true, true, true, true, false, false, false, false]) 15 rfl rfl rfl rfl (by kernel_rfl) rfl (Y.rem rfl rfl (by decide)) ?_
                obtain ⟨p269, H⟩ := gd_some H
                refine D.p (ls' := [true, true, true, true, true, true, true, true, true, true, true, false, true, true, true, true, true, false, false, false]) 16 rfl rfl rfl rfl (by kernel_rfl) rfl (Y.shl rfl rfl p269) ?_
                refine D.any [11] (by kernel_rfl) rfl ⟨?_, trivial⟩
                refine DW.j (ls' := [true, true, true, true, true, true, true, true, true, true, true, true, true, true, true, true, true, false, false, false]) rfl rfl ?_
                obtain ⟨p270, H⟩ := gd_some H
                refine J.r rfl rfl rfl rfl (Y.ldE Try.underlying5 rfl rfl ha267 p270 (RdG.own 0 rfl)) ?_
                refine J.nil ?_
                refine D.backK 1 rfl ?_
                refine D.p (ls' := [true, true, true, true, true, true, true, true, true, true, true, true, true, true, true, true, true, true, false, false]) 17 rfl rfl rfl rfl (by kernel_rfl) rfl (Y.bin rfl rfl rfl) ?_
                obtain ⟨p273, H⟩ := gd_some H
                refine D.know ((RdG.own 0 rfl).some_ (j := Int.toNat (IntKind.wrap .i64 (Int.tdiv (IntKind.wrap .i64 ((Int.tmod a1 (IntKind.wrap .i64 (8 * (a0.length : Int)))) + i238.2)) 8))) (by rw [List.length_map]; exact idx_lt p273)) (fun hh => ?_)
                obtain ⟨a271, ha272⟩ := hh
                refine D.p (ls' := [true, true, true, true, true, true, true, true, true, true, true, true, true, true, true, true, true, true, true, false]) 18 rfl rfl rfl rfl (by kernel_rfl) rfl (Y.ixa Try.underlying26 ti5 rfl rfl p273 ha272) ?_
                refine D.any [19] (by kernel_rfl) rfl ⟨?_, trivial⟩
                refine DW.j (ls' := [true, true, true, true, true, true, true, true, true, true, true, true, true, true, true, true, true, true, true, true]) rfl rfl ?_
                obtain ⟨p274, H⟩ := gd_some H
                refine J.stoL (enc := (Value.int .u8)) ti5 ha272 rfl rfl rfl p274 ?_
                refine J.as (k := 9) rfl (set_len i238.1 (Int.toNat (IntKind.wrap .i64 (Int.tdiv (IntKind.wrap .i64 ((Int.tmod a1 (IntKind.wrap .i64 (8 * (a0.length : Int)))) + i238.2)) 8))) (Sx.bits .xor .u8 (rd i238.1 (IntKind.wrap .i64 (Int.tdiv (IntKind.wrap .i64 ((Int.tmod a1 (IntKind.wrap .i64 (8 * (a0.length : Int)))) + i238.2)) 8))) (Sx.shl .u8 1 (Int.tmod (IntKind.wrap .i64 ((Int.tmod a1 (IntKind.wrap .i64 (8 * (a0.length : Int)))) + i238.2)) 8)))) ?_
                refine J.nil ?_
                refine D.backK 1 rfl ?_
                refine D.nil (by kernel_rfl) ?_
                refine N.ib ?_
                obtain rfl := Option.some.inj H
                exact N.meet ((i238.1.set (Int.toNat (IntKind.wrap .i64 (Int.tdiv (IntKind.wrap .i64 ((Int.tmod a1 (IntKind.wrap .i64 (8 * (a0.length : Int)))) + i238.2)) 8))) (Sx.bits .xor .u8 (rd i238.1 (IntKind.wrap .i64 (Int.tdiv (IntKind.wrap .i64 ((Int.tmod a1 (IntKind.wrap .i64 (8 * (a0.length : Int)))) + i238.2)) 8))) (Sx.shl .u8 1 (Int.tmod (IntKind.wrap .i64 ((Int.tmod a1 (IntKind.wrap .i64 (8 * (a0.length : Int)))) + i238.2)) 8)))), (j239.1, j239.2)) ⟨HK260, trivial⟩ (by exact ⟨rfl, rfl, rfl, rfl, rfl, rfl, rfl, trivial⟩) (by exact fun w h => h)
              · refine C.condF (congrArg (fun b => some (Value.bool b)) (decide_eq_false c265)) ?_
                refine C.skip ?_
                refine N.ib ?_
                obtain rfl := Option.some.inj H
                exact N.meet (i238.1, (j239.1, j239.2)) ⟨HK260, trivial⟩ (by exact ⟨rfl, rfl, rfl, rfl, rfl, rfl, rfl, trivial⟩) (by exact fun w h => h)
            · refine C.at (s' := [(0, .slice Aa0 a0.length ca0), (1, .int .i64 (Int.tmod a1 (IntKind.wrap .i64 (8 * (a0.length : Int))))), (2, .int .u32 (Sx.bits .or .u32 a2 1)), (7, .bool t1), (8, .int .i64 (IntKind.wrap .i64 (8 * (a0.length : Int)))), (9, .slice j262.1 o261.length j262.2), (10, .int .i64 i238.2)]) (G' := own 5 1 j262.1 j262.2 (o261.map (Value.int .u8)) :: G) rfl rfl ?_
              refine C.reg ?_
              refine J.p rfl rfl rfl rfl (Y.mv rfl) ?_
              refine J.p rfl rfl rfl rfl (Y.bin rfl rfl rfl) ?_
              refine J.p rfl rfl rfl rfl (Y.asg rfl) ?_
              refine J.nil ?_
              exact N.again (k237, (o261, IntKind.wrap .i64 (i238.2 + 1)), (j262.1, j262.2)) ⟨H, trivial⟩ (Nat.lt_succ_self _) (by exact ⟨rfl, rfl, rfl, rfl, rfl, rfl, rfl, trivial⟩) (by exact fun w h => h)
          · refine C.condF (congrArg (fun b => some (Value.bool b)) (nt c247)) ?_
            refine C.exit ?_
            refine X.th ?_
            refine X.th ?_
            refine X.hit ?_
            obtain rfl := Option.some.inj H
            exact N.meet (i238.1, (j239.1, j239.2)) ⟨HK193, trivial⟩ (by exact ⟨rfl, rfl, rfl, trivial⟩) (by exact fun w h => h)
      · refine N.at (s' := [(0, .slice Aa0 a0.length ca0), (7, .bool t1), (9, .slice j195.1 o194.length j195.2)]) (G' := own 5 1 j195.1 j195.2 (o194.map (Value.int .u8)) :: G) rfl rfl ?_
        refine N.nx ?_
        refine C.rs ?_
        refine J.p rfl rfl rfl rfl (Y.mv rfl) ?_
        refine J.p rfl rfl rfl rfl (Y.mv rfl) ?_
        refine split2 H (fun c276 H => ?_) (fun c276 H => ?_)
        · refine J.as (k := 67) rfl (congrArg Value.bool (c276)) ?_
          refine J.p rfl rfl rfl rfl (Y.mv rfl) ?_
          refine J.want rfl ?_
          refine J.bsV (L := [.slice Aa0 a0.length ca0]) rfl Try.underlying23 ti26 rfl rfl rfl rfl rfl (fun A277 => ?_)
          refine J.want rfl ?_
          obtain ⟨t279, hC280, H⟩ := bind_some H
          refine J.call (us := []) (cap := []) rfl rfl rfl go18 (fun w hw => by have hcc := Sum.calls K [a0] A277 1 [.slice Aa0 a0.length ca0] (RdG.own 0 rfl) (VV.cons (ha0.suf [_, _] rfl) ka0 VV.nil) (Nat.le_refl _) t279 hC280 w hw; exact hcc) (fun e w1 h1 => ?_)
          obtain ⟨rfl, hw287⟩ := h1
          refine ⟨_, _, rfl, hw287, ?_⟩
          refine J.p rfl rfl rfl rfl (Y.mv rfl) ?_
          refine J.want rfl ?_
          refine J.know (own_leL 1 rfl) (fun hc282 => ?_)
          refine J.bsV (L := [.slice j195.1 o194.length j195.2]) rfl Try.underlying23 ti26 rfl rfl rfl rfl rfl (fun A281 => ?_)
          refine J.want rfl ?_
          obtain ⟨t284, hC285, H⟩ := bind_some H
          refine J.call (us := []) (cap := []) rfl rfl rfl go18 (fun w hw => by have hcc := Sum.calls K [o194] A281 1 [.slice j195.1 o194.length j195.2] (RdG.own 0 rfl) (VV.cons (RdG.own 2 rfl) hc282 VV.nil) (Nat.le_refl _) t284 hC285 w hw; exact hcc) (fun e w1 h1 => ?_)
          obtain ⟨rfl, hw286⟩ := h1
          refine ⟨_, _, rfl, hw286, ?_⟩
          refine J.p rfl rfl rfl rfl (Y.bin rfl rfl rfl) ?_
          refine J.p rfl rfl rfl rfl (Y.pickT rfl rfl) ?_
          refine J.p rfl rfl rfl rfl (Y.asg rfl) ?_
          refine J.nx ?_
          refine C.ret ?_
          obtain rfl := Option.some.inj H
          exact ret_ok (ks := [6]) rfl rfl (fun w h => ⟨rfl, (St.pick [] [_, _, _] h rfl)⟩)
        · refine J.as (k := 67) rfl (congrArg Value.bool (nt c276)) ?_
          refine J.skip rfl rfl ?_
          refine J.skip rfl rfl ?_
          refine J.skip rfl rfl ?_
          refine J.skip rfl rfl ?_
          refine J.skip rfl rfl ?_
          refine J.skip rfl rfl ?_
          refine J.skip rfl rfl ?_
          refine J.p rfl rfl rfl rfl (Y.pickF rfl rfl) ?_
          refine J.p rfl rfl rfl rfl (Y.asg rfl) ?_
          refine J.nx ?_
          refine C.ret ?_
          obtain rfl := Option.some.inj H
          exact ret_ok (ks := [6]) rfl rfl (fun w h => ⟨rfl, (St.pick [] [_] h rfl)⟩)
/-! ### salvor/salvorlaw1.CrcWill: function 7 -/
def CrcWill.f (K : Nat) (a0 : List Int) (a1 : Int) (a2 : Int) : Option (Bool) := (known.f K).bind fun t1 => (Sum.f K [a0]).bind fun t5 => (Forge.f K t5 a1).bind fun t7 => (Sum.f K [a0]).bind fun t14 => (Forge.f K t14 a2).bind fun t16 => (if t1 = true then (if (t7.length : Int) ≠ 4 then (some true) else (some (decide ((t16.length : Int) ≠ 4)))) else (some true)).bind fun o23 => if o23 = true then (some false) else ((gd ((0 : Int) ≤ 0 ∧ 0 < (t7.length : Int)) (gd ((0 : Int) ≤ 0 ∧ 0 < (t7.length : Int)) (gd ((0 : Int) ≤ 0 ∧ 0 < (t16.length : Int)) (gd ((0 : Int) ≤ 0 ∧ 0 < (t16.length : Int)) (if (rd t7 0) = (rd t16 0) then (gd ((0 : Int) ≤ 1 ∧ 1 < (t7.length : Int)) (gd ((0 : Int) ≤ 1 ∧ 1 < (t7.length : Int)) (gd ((0 : Int) ≤ 1 ∧ 1 < (t16.length : Int)) (gd ((0 : Int) ≤ 1 ∧ 1 < (t16.length : Int)) (if (rd t7 1) = (rd t16 1) then (gd ((0 : Int) ≤ 2 ∧ 2 < (t7.length : Int)) (gd ((0 : Int) ≤ 2 ∧ 2 < (t7.length : Int)) (gd ((0 : Int) ≤ 2 ∧ 2 < (t16.length : Int)) (gd ((0 : Int) ≤ 2 ∧ 2 < (t16.length : Int)) (if (rd t7 2) = (rd t16 2) then (gd ((0 : Int) ≤ 3 ∧ 3 < (t7.length : Int)) (gd ((0 : Int) ≤ 3 ∧ 3 < (t7.length : Int)) (gd ((0 : Int) ≤ 3 ∧ 3 < (t16.length : Int)) (gd ((0 : Int) ≤ 3 ∧ 3 < (t16.length : Int)) (some (decide ((rd t7 3) = (rd t16 3)))))))) else (some false)))))) else (some false)))))) else (some false)))))).bind fun o67 => (Sum.f K [a0, t7]).bind fun t107 => if t107 = a1 then ((Sum.f K [a0, t16]).bind fun t113 => if t113 = a2 then (some (decide (o67 = (decide (a1 = a2))))) else (some false)) else (some false))
theorem CrcWill.calls {B : Nat} {w0 : World} {G : List HP} (K : Nat) (a0 : List Int) (a1 : Int) (a2 : Int) (Aa0 : Option Addr) (ca0 : Nat) (ha0 : RdG B w0 G Aa0 (a0.map (Value.int .u8))) (ka0 : a0.length ≤ ca0) (r : Bool) (H : CrcWill.f K a0 a1 a2 = some r) (w : World) (hw : St B w0 (G) w) :
    Calls Try.prog 7 [.slice Aa0 a0.length ca0, .int .u32 a1, .int .u32 a2].toArray w (fun e w' => e = .returned (.bool r) ∧ St B w0 (G) w') := by
  unfold CrcWill.f at H
  refine calls_of (n := 89) (s := [(0, .slice Aa0 a0.length ca0), (1, .int .u32 a1), (2, .int .u32 a2)]) Try.func7 rfl rfl rfl rfl ?_ hw
  refine C.rs ?_
  refine J.p rfl rfl rfl rfl (Y.asg rfl) ?_
  refine J.nx ?_
  refine C.rs ?_
  obtain ⟨t1, hC2, H⟩ := bind_some H
  refine J.call (us := []) (cap := []) rfl rfl rfl go8 (fun w hw => by have hcc := known.calls K t1 hC2 w hw; exact hcc) (fun e w1 h1 => ?_)
  obtain ⟨rfl, hw122⟩ := h1
  refine ⟨_, _, rfl, hw122, ?_⟩
  refine J.p rfl rfl rfl rfl (Y.asg rfl) ?_
  refine J.nx ?_
  refine C.rs ?_
  refine J.p rfl rfl rfl rfl (Y.mv rfl) ?_
  refine J.bsV (L := [.slice Aa0 a0.length ca0]) rfl Try.underlying23 ti26 rfl rfl rfl rfl rfl (fun A3 => ?_)
  obtain ⟨t5, hC6, H⟩ := bind_some H
  refine J.call (us := []) (cap := []) rfl rfl rfl go18 (fun w hw => by have hcc := Sum.calls K [a0] A3 1 [.slice Aa0 a0.length ca0] (RdG.own 0 rfl) (VV.cons (ha0.suf [_] rfl) ka0 VV.nil) (Nat.le_refl _) t5 hC6 w hw; exact hcc) (fun e w1 h1 => ?_)
  obtain ⟨rfl, hw121⟩ := h1
  refine ⟨_, _, rfl, hw121, ?_⟩
  refine J.p rfl rfl rfl rfl (Y.mv rfl) ?_
  obtain ⟨t7, hC8, H⟩ := bind_some H
  refine J.call (us := []) (cap := []) rfl rfl rfl go20 (fun w hw => by have hcc := Forge.calls K t5 a1 t7 hC8 w hw; exact hcc) (fun e w1 h1 => ?_)
  obtain ⟨A9, c10, rfl, hw120⟩ := h1
  refine ⟨_, _, rfl, hw120, ?_⟩
  refine J.p rfl rfl rfl rfl (Y.asg rfl) ?_
  refine J.nx ?_
  refine C.rs ?_
  refine J.p rfl rfl rfl rfl (Y.mv rfl) ?_
  refine J.bsV (L := [.slice Aa0 a0.length ca0]) rfl Try.underlying23 ti26 rfl rfl rfl rfl rfl (fun A12 => ?_)
  obtain ⟨t14, hC15, H⟩ := bind_some H
  refine J.call (us := []) (cap := []) rfl rfl rfl go18 (fun w hw => by have hcc := Sum.calls K [a0] A12 1 [.slice Aa0 a0.length ca0] (RdG.own 0 rfl) (VV.cons (ha0.suf [_, _, _] rfl) ka0 VV.nil) (Nat.le_refl _) t14 hC15 w hw; exact hcc) (fun e w1 h1 => ?_)
  obtain ⟨rfl, hw119⟩ := h1
  refine ⟨_, _, rfl, hw119, ?_⟩
  refine J.p rfl rfl rfl rfl (Y.mv rfl) ?_
  obtain ⟨t16, hC17, H⟩ := bind_some H
  refine J.call (us := []) (cap := []) rfl rfl rfl go20 (fun w hw => by have hcc := Forge.calls K t14 a2 t16 hC17 w hw; exact hcc) (fun e w1 h1 => ?_)
  obtain ⟨A18, c19, rfl, hw118⟩ := h1
  refine ⟨_, _, rfl, hw118, ?_⟩
  refine J.p rfl rfl rfl rfl (Y.asg rfl) ?_
  refine J.nx ?_
  refine C.seq ?_
  refine C.rs ?_
  refine J.joinB H (fun (o23 : Bool) (j24 : Unit) => [(0, .slice Aa0 a0.length ca0), (1, .int .u32 a1), (2, .int .u32 a2), (8, .slice A9 t7.length c10), (9, .slice A18 t16.length c19), (33, .bool o23)]) (fun (o23 : Bool) (j24 : Unit) => own 5 1 A9 c10 (t7.map (Value.int .u8)) :: own 5 1 A18 c19 (t16.map (Value.int .u8)) :: G) (fun (o23 : Bool) (j24 : Unit) => True) (fun o25 H HK26 => ?_) (fun o23 j24 H _ => ?_)
  · refine J.p rfl rfl rfl rfl (Y.mv rfl) ?_
    refine J.p rfl rfl rfl rfl (Y.notb rfl) ?_
    refine J.p rfl rfl rfl rfl (Y.mv rfl) ?_
    refine split2 H (fun c27 H => ?_) (fun c27 H => ?_)
    · refine J.as (k := 24) rfl (congrArg Value.bool (congrArg Bool.not (c27))) ?_
      refine J.p rfl rfl rfl rfl (Y.mv rfl) ?_
      refine J.p rfl rfl rfl rfl (Y.lenS Try.underlying26 rfl) ?_
      refine J.p rfl rfl rfl rfl (Y.bin rfl rfl rfl) ?_
      refine J.p rfl rfl rfl rfl (Y.pickF rfl rfl) ?_
      refine J.p rfl rfl rfl rfl (Y.mv rfl) ?_
      refine split2 H (fun c28 H => ?_) (fun c28 H => ?_)
      · refine J.as (k := 29) rfl (congrArg Value.bool (decide_eq_true c28)) ?_
        refine J.skip rfl rfl ?_
        refine J.skip rfl rfl ?_
        refine J.skip rfl rfl ?_
        refine J.p rfl rfl rfl rfl (Y.pickT rfl rfl) ?_
        refine J.nil ?_
        obtain rfl := Option.some.inj H
        exact N.meet (true, ()) ⟨HK26, trivial⟩ (by exact ⟨rfl, rfl, rfl, rfl, rfl, rfl, trivial⟩) (by exact fun w h => (St.pick [2, 0] [_, _, _, _] h rfl))
      · refine J.as (k := 29) rfl (congrArg Value.bool (decide_eq_false c28)) ?_
        refine J.p rfl rfl rfl rfl (Y.mv rfl) ?_
        refine J.p rfl rfl rfl rfl (Y.lenS Try.underlying26 rfl) ?_
        refine J.p rfl rfl rfl rfl (Y.bin rfl rfl rfl) ?_
        refine J.p rfl rfl rfl rfl (Y.pickF rfl rfl) ?_
        refine J.nil ?_
        obtain rfl := Option.some.inj H
        exact N.meet (decide ((t16.length : Int) ≠ 4), ()) ⟨HK26, trivial⟩ (by exact ⟨rfl, rfl, rfl, rfl, rfl, rfl, trivial⟩) (by exact fun w h => (St.pick [2, 0] [_, _, _, _] h rfl))
    · refine J.as (k := 24) rfl (congrArg Value.bool (congrArg Bool.not (nt c27))) ?_
      refine J.skip rfl rfl ?_
      refine J.skip rfl rfl ?_
      refine J.skip rfl rfl ?_
      refine J.p rfl rfl rfl rfl (Y.pickT rfl rfl) ?_
      refine J.p rfl rfl rfl rfl (Y.mv rfl) ?_
      refine J.skip rfl rfl ?_
      refine J.skip rfl rfl ?_
      refine J.skip rfl rfl ?_
      refine J.p rfl rfl rfl rfl (Y.pickT rfl rfl) ?_
      refine J.nil ?_
      obtain rfl := Option.some.inj H
      exact N.meet (true, ()) ⟨HK26, trivial⟩ (by exact ⟨rfl, rfl, rfl, rfl, rfl, rfl, trivial⟩) (by exact fun w h => (St.pick [2, 0] [_, _, _, _] h rfl))
  · refine C.at (s' := [(0, .slice Aa0 a0.length ca0), (1, .int .u32 a1), (2, .int .u32 a2), (8, .slice A9 t7.length c10), (9, .slice A18 t16.length c19), (33, .bool o23)]) (G' := own 5 1 A9 c10 (t7.map (Value.int .u8)) :: own 5 1 A18 c19 (t16.map (Value.int .u8)) :: G) rfl rfl ?_
    refine split2 H (fun c29 H => ?_) (fun c29 H => ?_)
    · refine C.condT (congrArg (fun b => some (Value.bool b)) (c29)) ?_
      refine C.rs ?_
      refine J.p rfl rfl rfl rfl (Y.asg rfl) ?_
      refine J.nx ?_
      refine C.ret ?_
      obtain rfl := Option.some.inj H
      refine T.th ?_
      exact ret_ok (ks := [6]) rfl rfl (fun w h => ⟨rfl, (St.pick [] [_, _] h rfl)⟩)
    · refine C.condF (congrArg (fun b => some (Value.bool b)) (nt c29)) ?_
      refine C.skip ?_
      refine N.nx ?_
      refine C.joinB H (fun (o67 : Bool) (j68 : Unit) => [(0, .slice Aa0 a0.length ca0), (1, .int .u32 a1), (2, .int .u32 a2), (8, .slice A9 t7.length c10), (9, .slice A18 t16.length c19), (10, .bool o67)]) (fun (o67 : Bool) (j68 : Unit) => own 5 1 A9 c10 (t7.map (Value.int .u8)) :: own 5 1 A18 c19 (t16.map (Value.int .u8)) :: G) (fun (o67 : Bool) (j68 : Unit) => True) (fun o65 H HK66 => ?_) (fun o67 j68 H _ => ?_)
      · refine C.drawn (fuel := 35) (ls := [false, false, false, false, false, false, false, false, false, false, false, false, false, false, false, false, false, false, false, false, false, false, false, false, false, false, false, false, false, false, false, false, false, false, false]) [] (own 5 1 A9 c10 (t7.map (Value.int .u8)) :: own 5 1 A18 c19 (t16.map (Value.int .u8)) :: G) mx rfl rfl ?_
        refine D.p (ls' := [true, false, false, false, false, false, false, false, false, false, false, false, false, false, false, false, false, false, false, false, false, false, false, false, false, false, false, false, false, false, false, false, false, false, false]) 0 rfl rfl rfl rfl (by kernel_rfl) rfl (Y.mv rfl) ?_
        obtain ⟨p71, H⟩ := gd_some H
        refine D.know ((RdG.own 0 rfl).some_ (j := Int.toNat 0) (by rw [List.length_map]; exact idx_lt p71)) (fun hh => ?_)
        obtain ⟨a69, ha70⟩ := hh
        refine D.p (ls' := [true, true, false, false, false, false, false, false, false, false, false, false, false, false, false, false, false, false, false, false, false, false, false, false, false, false, false, false, false, false, false, false, false, false, false]) 1 rfl rfl rfl rfl (by kernel_rfl) rfl (Y.ixa Try.underlying26 ti5 rfl rfl p71 ha70) ?_
        obtain ⟨p72, H⟩ := gd_some H
        refine D.r (ls' := [true, true, true, false, false, false, false, false, false, false, false, false, false, false, false, false, false, false, false, false, false, false, false, false, false, false, false, false, false, false, false, false, false, false, false]) 2 1 0 rfl rfl rfl rfl (by kernel_rfl) (by kernel_rfl) rfl rfl (Y.ldE Try.underlying5 rfl rfl ha70 p72 (RdG.own 0 rfl)) ?_
        refine D.p (ls' := [true, true, true, true, false, false, false, false, false, false, false, false, false, false, false, false, false, false, false, false, false, false, false, false, false, false, false, false, false, false, false, false, false, false, false]) 3 rfl rfl rfl rfl (by kernel_rfl) rfl (Y.mv rfl) ?_
        obtain ⟨p75, H⟩ := gd_some H
        refine D.know ((RdG.own 1 rfl).some_ (j := Int.toNat 0) (by rw [List.length_map]; exact idx_lt p75)) (fun hh => ?_)
        obtain ⟨a73, ha74⟩ := hh
        refine D.p (ls' := [true, true, true, true, true, false, false, false, false, false, false, false, false, false, false, false, false, false, false, false, false, false, false, false, false, false, false, false, false, false, false, false, false, false, false]) 4 rfl rfl rfl rfl (by kernel_rfl) rfl (Y.ixa Try.underlying26 ti5 rfl rfl p75 ha74) ?_
        obtain ⟨p76, H⟩ := gd_some H
        refine D.r (ls' := [true, true, true, true, true, true, false, false, false, false, false, false, false, false, false, false, false, false, false, false, false, false, false, false, false, false, false, false, false, false, false, false, false, false, false]) 5 1 0 rfl rfl rfl rfl (by kernel_rfl) (by kernel_rfl) rfl rfl (Y.ldE Try.underlying5 rfl rfl ha74 p76 (RdG.own 1 rfl)) ?_
        refine D.p (ls' := [true, true, true, true, true, true, true, false, false, false, false, false, false, false, false, false, false, false, false, false, false, false, false, false, false, false, false, false, false, false, false, false, false, false, false]) 6 rfl rfl rfl rfl (by kernel_rfl) rfl (Y.bin rfl rfl rfl) ?_
        refine D.p (ls' := [true, true, true, true, true, true, true, true, false, false, false, false, false, false, false, false, false, false, false, false, false, false, false, false, false, false, false, false, false, false, false, false, false, false, false]) 7 rfl rfl rfl rfl (by kernel_rfl) rfl (Y.mv rfl) ?_
        refine split2 H (fun c77 H => ?_) (fun c77 H => ?_)
        · refine D.as (k := 41) rfl (congrArg Value.bool (decide_eq_true c77)) ?_
          refine D.p (ls' := [true, true, true, true, true, true, true, true, true, false, false, false, false, false, false, false, false, false, false, false, false, false, false, false, false, false, false, false, false, false, false, false, false, false, false]) 8 rfl rfl rfl rfl (by kernel_rfl) rfl (Y.mv rfl) ?_
          obtain ⟨p80, H⟩ := gd_some H
          refine D.know ((RdG.own 0 rfl).some_ (j := Int.toNat 1) (by rw [List.length_map]; exact idx_lt p80)) (fun hh => ?_)
          obtain ⟨a78, ha79⟩ := hh
          refine D.p (ls' := [true, true, true, true, true, true, true, true, true, true, false, false, false, false, false, false, false, false, false, false, false, false, false, false, false, false, false, false, false, false, false, false, false, false, false]) 9 rfl rfl rfl rfl (by kernel_rfl) rfl (Y.ixa Try.underlying26 ti5 rfl rfl p80 ha79) ?_
          obtain ⟨p81, H⟩ := gd_some H
          refine D.r (ls' := [true, true, true, true, true, true, true, true, true, true, true, false, false, false, false, false, false, false, false, false, false, false, false, false, false, false, false, false, false, false, false, false, false, false, false]) 10 1 0 rfl rfl rfl rfl (by kernel_rfl) (by kernel_rfl) rfl rfl (Y.ldE Try.underlying5 rfl rfl ha79 p81 (RdG.own 0 rfl)) ?_
          refine D.p (ls' := [true, true, true, true, true, true, true, true, true, true, true, true, false, false, false, false, false, false, false, false, false, false, false, false, false, false, false, false, false, false, false, false, false, false, false]) 11 rfl rfl rfl rfl (by kernel_rfl) rfl (Y.mv rfl) ?_
          obtain ⟨p84, H⟩ := gd_some H
          refine D.know ((RdG.own 1 rfl).some_ (j := Int.toNat 1) (by rw [List.length_map]; exact idx_lt p84)) (fun hh => ?_)
          obtain ⟨a82, ha83⟩ := hh
          refine D.p (ls' := [true, true, true, true, true, true, true, true, true, true, true, true, true, false, false, false, false, false, false, false, false, false, false, false, false, false, false, false, false, false, false, false, false, false, false]) 12 rfl rfl rfl rfl (by kernel_rfl) rfl (Y.ixa Try.underlying26 ti5 rfl rfl p84 ha83) ?_
          obtain ⟨p85, H⟩ := gd_some H
          refine D.r (ls' := [true, true, true, true, true, true, true, true, true, true, true, true, true, true, false, false, false, false, false, false, false, false, false, false, false, false, false, false, false, false, false, false, false, false, false]) 13 1 0 rfl rfl rfl rfl (by kernel_rfl) (by kernel_rfl) rfl rfl (Y.ldE Try.underlying5 rfl rfl ha83 p85 (RdG.own 1 rfl)) ?_
          refine D.p (ls' := [true, true, true, true, true, true, true, true, true, true, true, true, true, true, true, false, false, false, false, false, false, false, false, false, false, false, false, false, false, false, false, false, false, false, false]) 14 rfl rfl rfl rfl (by kernel_rfl) rfl (Y.bin rfl rfl rfl) ?_
          refine D.p (ls' := [true, true, true, true, true, true, true, true, true, true, true, true, true, true, true, true, false, false, false, false, false, false, false, false, false, false, false, false, false, false, false, false, false, false, false]) 15 rfl rfl rfl rfl (by kernel_rfl) rfl (Y.pickT rfl rfl) ?_
          refine D.p (ls' := [true, true, true, true, true, true, true, true, true, true, true, true, true, true, true, true, true, false, false, false, false, false, false, false, false, false, false, false, false, false, false, false, false, false, false]) 16 rfl rfl rfl rfl (by kernel_rfl) rfl (Y.mv rfl) ?_
          refine split2 H (fun c86 H => ?_) (fun c86 H => ?_)
          · refine D.as (k := 50) rfl (congrArg Value.bool (decide_eq_true c86)) ?_
            refine D.p (ls' := [true, true, true, true, true, true, true, true, true, true, true, true, true, true, true, true, true, true, false, false, false, false, false, false, false, false, false, false, false, false, false, false, false, false, false]) 17 rfl rfl rfl rfl (by kernel_rfl) rfl (Y.mv rfl) ?_
            obtain ⟨p89, H⟩ := gd_some H
            refine D.know ((RdG.own 0 rfl).some_ (j := Int.toNat 2) (by rw [List.length_map]; exact idx_lt p89)) (fun hh => ?_)
            obtain ⟨a87, ha88⟩ := hh
            refine D.p (ls' := [true, true, true, true, true, true, true, true, true, true, true, true, true, true, true, true, true, true, true, false, false, false, false, false, false, false, false, false, false, false, false, false, false, false, false]) 18 rfl rfl rfl rfl (by kernel_rfl) rfl (Y.ixa Try.underlying26 ti5 rfl rfl p89 ha88) ?_
            obtain ⟨p90, H⟩ := gd_some H
            refine D.r (ls' := [true, true, true, true, true, true, true, true, true, true, true, true, true, true, true, true, true, true, true, true, false, false, false, false, false, false, false, false, false, false, false, false, false, false, false]) 19 1 0 rfl rfl rfl rfl (by kernel_rfl) (by kernel_rfl) rfl rfl (Y.ldE Try.underlying5 rfl rfl ha88 p90 (RdG.own 0 rfl)) ?_
            refine D.p (ls' := [true, true, true, true, true, true, true, true, true, true, true, true, true, true, true, true, true, true, true, true, true, false, false, false, false, false, false, false, false, false, false, false, false, false, false]) 20 rfl rfl rfl rfl (by kernel_rfl) rfl (Y.mv rfl) ?_
            obtain ⟨p93, H⟩ := gd_some H
            refine D.know ((RdG.own 1 rfl).some_ (j := Int.toNat 2) (by rw [List.length_map]; exact idx_lt p93)) (fun hh => ?_)
            obtain ⟨a91, ha92⟩ := hh
            refine D.p (ls' := [true, true, true, true, true, true, true, true, true, true, true, true, true, true, true, true, true, true, true, true, true, true, false, false, false, false, false, false, false, false, false, false, false, false, false]) 21 rfl rfl rfl rfl (by kernel_rfl) rfl (Y.ixa Try.underlying26 ti5 rfl rfl p93 ha92) ?_
            obtain ⟨p94, H⟩ := gd_some H
            refine D.r (ls' := [true, true, true, true, true, true, true, true, true, true, true, true, true, true, true, true, true, true, true, true, true, true, true, false, false, false, false, false, false, false, false, false, false, false, false]) 22 1 0 rfl rfl rfl rfl (by kernel_rfl) (by kernel_rfl) rfl rfl (Y.ldE Try.underlying5 rfl rfl ha92 p94 (RdG.own 1 rfl)) ?_
            refine D.p (ls' := [true, true, true, true, true, true, true, true, true, true, true, true, true, true, true, true, true, true, true, true, true, true, true, true, false, false, false, false, false, false, false, false, false, false, false]) 23 rfl rfl rfl rfl (by kernel_rfl) rfl (Y.bin rfl rfl rfl) ?_
            refine D.p (ls' := [true, true, true, true, true, true, true, true, true, true, true, true, true, true, true, true, true, true, true, true, true, true, true, true, true, false, false, false, false, false, false, false, false, false, false]) 24 rfl rfl rfl rfl (by kernel_rfl) rfl (Y.pickT rfl rfl) ?_
            refine D.p (ls' := [true, true, true, true, true, true, true, true, true, true, true, true, true, true, true, true, true, true, true, true, true, true, true, true, true, true, false, false, false, false, false, false, false, false, false]) 25 rfl rfl rfl rfl (by kernel_rfl) rfl (Y.mv rfl) ?_
            refine split2 H (fun c95 H => ?_) (fun c95 H => ?_)
            · refine D.as (k := 59) rfl (congrArg Value.bool (decide_eq_true c95)) ?_
              refine D.p (ls' := [true, true, true, true, true, true, true, true, true, true, true, true, true, true, true, true, true, true, true, true, true, true, true, true, true, true, true, false, false, false, false, false, false, false, false]) 26 rfl rfl rfl rfl (by kernel_rfl) rfl (Y.mv rfl) ?_
              obtain ⟨p98, H⟩ := gd_some H
              refine D.know ((RdG.own 0 rfl).some_ (j := Int.toNat 3) (by rw [List.length_map]; exact idx_lt p98)) (fun hh => ?_)
              obtain ⟨a96, ha97⟩ := hh
              refine D.p (ls' := [true, true, true, true, true, true, true, true, true, true, true, true, true, true, true, true, true, true, true, true, true, true, true, true, true, true, true, true, false, false, false, false, false, false, false]) 27 rfl rfl rfl rfl (by kernel_rfl) rfl (Y.ixa Try.underlying26 ti5 rfl rfl p98 ha97) ?_
              obtain ⟨p99, H⟩ := gd_some H
              refine D.r (ls' := [true, true, true, true, true, true, true, true, true, true, true, true, true, true, true, true, true, true, true, true, true, true, true, true, true, true, true, true, true, false, false, false, false, false, false]) 28 1 0 rfl rfl rfl rfl (by kernel_rfl) (by kernel_rfl) rfl rfl (Y.ldE Try.underlying5 rfl rfl ha97 p99 (RdG.own 0 rfl)) ?_
              refine D.p (ls' := [true, true, true, true, true, true, true, true, true, true, true, true, true, true, true, true, true, true, true, true, true, true, true, true, true, true, true, true, true, true, false, false, false, false, false]) 29 rfl rfl rfl rfl (by kernel_rfl) rfl (Y.mv rfl) ?_
              obtain ⟨p102, H⟩ := gd_some H
              refine D.know ((RdG.own 1 rfl).some_ (j := Int.toNat 3) (by rw [List.length_map]; exact idx_lt p102)) (fun hh => ?_)
              obtain ⟨a100, ha101⟩ := hh
              refine D.p (ls' := [true, true, true, true, true, true, true, true, true, true, true, true, true, true, true, true, true, true, true, true, true, true, true, true, true, true, true, true, true, true, true, false, false, false, false]) 30 rfl rfl rfl rfl (by kernel_rfl) rfl (Y.ixa Try.underlying26 ti5 rfl rfl p102 ha101) ?_
              obtain ⟨p103, H⟩ := gd_some H
              refine D.r (ls' := [true, true, true, true, true, true, true, true, true, true, true, true, true, true, true, true, true, true, true, true, true, true, true, true, true, true, true, true, true, true, true, true, false, false, false]) 31 1 0 rfl rfl rfl rfl (by kernel_rfl) (by kernel_rfl) rfl rfl (Y.ldE Try.underlying5 rfl rfl ha101 p103 (RdG.own 1 rfl)) ?_
              refine D.p (ls' := [true, true, true, true, true, true, true, true, true, true, true, true, true, true, true, true, true, true, true, true, true, true, true, true, true, true, true, true, true, true, true, true, true, false, false]) 32 rfl rfl rfl rfl (by kernel_rfl) rfl (Y.bin rfl rfl rfl) ?_
              refine D.p (ls' := [true, true, true, true, true, true, true, true, true, true, true, true, true, true, true, true, true, true, true, true, true, true, true, true, true, true, true, true, true, true, true, true, true, true, false]) 33 rfl rfl rfl rfl (by kernel_rfl) rfl (Y.pickT rfl rfl) ?_
              refine D.p (ls' := [true, true, true, true, true, true, true, true, true, true, true, true, true, true, true, true, true, true, true, true, true, true, true, true, true, true, true, true, true, true, true, true, true, true, true]) 34 rfl rfl rfl rfl (by kernel_rfl) rfl (Y.asg rfl) ?_
              refine D.nil (by kernel_rfl) ?_
              obtain rfl := Option.some.inj H
              exact N.meet (decide ((rd t7 3) = (rd t16 3)), ()) ⟨HK66, trivial⟩ (by exact ⟨rfl, rfl, rfl, rfl, rfl, rfl, trivial⟩) (by exact fun w h => h)
            · refine D.as (k := 59) rfl (congrArg Value.bool (decide_eq_false c95)) ?_
              refine D.off (ls' := [true, true, true, true, true, true, true, true, true, true, true, true, true, true, true, true, true, true, true, true, true, true, true, true, true, true, true, false, false, false, false, false, false, false, false]) 26 rfl rfl rfl rfl (by kernel_rfl) rfl ?_
              refine D.off (ls' := [true, true, true, true, true, true, true, true, true, true, true, true, true, true, true, true, true, true, true, true, true, true, true, true, true, true, true, true, false, false, false, false, false, false, false]) 27 rfl rfl rfl rfl (by kernel_rfl) rfl ?_
              refine D.off (ls' := [true, true, true, true, true, true, true, true, true, true, true, true, true, true, true, true, true, true, true, true, true, true, true, true, true, true, true, true, true, false, false, false, false, false, false]) 28 rfl rfl rfl rfl (by kernel_rfl) rfl ?_
              refine D.off (ls' := [true, true, true, true, true, true, true, true, true, true, true, true, true, true, true, true, true, true, true, true, true, true, true, true, true, true, true, true, true, true, false, false, false, false, false]) 29 rfl rfl rfl rfl (by kernel_rfl) rfl ?_
              refine D.off (ls' := [true, true, true, true, true, true, true, true, true, true, true, true, true, true, true, true, true, true, true, true, true, true, true, true, true, true, true, true, true, true, true, false, false, false, false]) 30 rfl rfl rfl rfl (by kernel_rfl) rfl ?_
              refine D.off (ls' := [true, true, true, true, true, true, true, true, true, true, true, true, true, true, true, true, true, true, true, true, true, true, true, true, true, true, true, true, true, true, true, true, false, false, false]) 31 rfl rfl rfl rfl (by kernel_rfl) rfl ?_
              refine D.off (ls' := [true, true, true, true, true, true, true, true, true, true, true, true, true, true, true, true, true, true, true, true, true, true, true, true, true, true, true, true, true, true, true, true, true, false, false]) 32 rfl rfl rfl rfl (by kernel_rfl) rfl ?_
              refine D.p (ls' := [true, true, true, true, true, true, true, true, true, true, true, true, true, true, true, true, true, true, true, true, true, true, true, true, true, true, true, true, true, true, true, true, true, true, false]) 33 rfl rfl rfl rfl (by kernel_rfl) rfl (Y.pickF rfl rfl) ?_
              refine D.p (ls' := [true, true, true, true, true, true, true, true, true, true, true, true, true, true, true, true, true, true, true, true, true, true, true, true, true, true, true, true, true, true, true, true, true, true, true]) 34 rfl rfl rfl rfl (by kernel_rfl) rfl (Y.asg rfl) ?_
              refine D.nil (by kernel_rfl) ?_
              obtain rfl := Option.some.inj H
              exact N.meet (false, ()) ⟨HK66, trivial⟩ (by exact ⟨rfl, rfl, rfl, rfl, rfl, rfl, trivial⟩) (by exact fun w h => h)
          · refine D.as (k := 50) rfl (congrArg Value.bool (decide_eq_false c86)) ?_
            refine D.off (ls' := [true, true, true, true, true, true, true, true, true, true, true, true, true, true, true, true, true, true, false, false, false, false, false, false, false, false, false, false, false, false, false, false, false, false, false]) 17 rfl rfl rfl rfl (by kernel_rfl) rfl ?_
            refine D.off (ls' := [true, true, true, true, true, true, true, true, true, true, true, true, true, true, true, true, true, true, true, false, false, false, false, false, false, false, false, false, false, false, false, false, false, false, false]) 18 rfl rfl rfl rfl (by kernel_rfl) rfl ?_
            refine D.off (ls' := [true, true, true, true, true, true, true, true, true, true, true, true, true, true, true, true, true, true, true, true, false, false, false, false, false, false, false, false, false, false, false, false, false, false, false]) 19 rfl rfl rfl rfl (by kernel_rfl) rfl ?_
            refine D.off (ls' := [true, true, true, true, true, true, true, true, true, true, true, true, true, true, true, true, true, true, true, true, true, false, false, false, false, false, false, false, false, false, false, false, false, false, false]) 20 rfl rfl rfl rfl (by kernel_rfl) rfl ?_
            refine D.off (ls' := [true, true, true, true, true, true, true, true, true, true, true, true, true, true, true, true, true, true, true, true, true, true, false, false, false, false, false, false, false, false, false, false, false, false, false]) 21 rfl rfl rfl rfl (by kernel_rfl) rfl ?_
            refine D.off (ls' := [true, true, true, true, true, true, true, true, true, true, true, true, true, true, true, true, true, true, true, true, true, true, true, false, false, false, false, false, false, false, false, false, false, false, false]) 22 rfl rfl rfl rfl (by kernel_rfl) rfl ?_
            refine D.off (ls' := [true, true, true, true, true, true, true, true, true, true, true, true, true, true, true, true, true, true, true, true, true, true, true, true, false, false, false, false, false, false, false, false, false, false, false]) 23 rfl rfl rfl rfl (by kernel_rfl) rfl ?_
            refine D.p (ls' := [true, true, true, true, true, true, true, true, true, true, true, true, true, true, true, true, true, true, true, true, true, true, true, true, true, false, false, false, false, false, false, false, false, false, false]) 24 rfl rfl rfl rfl (by kernel_rfl) rfl (Y.pickF rfl rfl) ?_
            refine D.p (ls' := [true, true, true, true, true, true, true, true, true, true, true, true, true, true, true, true, true, true, true, true, true, true, true, true, true, true, false, false, false, false, false, false, false, false, false]) 25 rfl rfl rfl rfl (by kernel_rfl) rfl (Y.mv rfl) ?_
            refine D.off (ls' := [true, true, true, true, true, true, true, true, true, true, true, true, true, true, true, true, true, true, true, true, true, true, true, true, true, true, true, false, false, false, false, false, false, false, false]) 26 rfl rfl rfl rfl (by kernel_rfl) rfl ?_
            refine D.off (ls' := [true, true, true, true, true, true, true, true, true, true, true, true, true, true, true, true, true, true, true, true, true, true, true, true, true, true, true, true, false, false, false, false, false, false, false]) 27 rfl rfl rfl rfl (by kernel_rfl) rfl ?_
            refine D.off (ls' := [true, true, true, true, true, true, true, true, true, true, true, true, true, true, true, true, true, true, true, true, true, true, true, true, true, true, true, true, true, false, false, false, false, false, false]) 28 rfl rfl rfl rfl (by kernel_rfl) rfl ?_
            refine D.off (ls' := [true, true, true, true, true, true, true, true, true, true, true, true, true, true, true, true, true, true, true, true, true, true, true, true, true, true, true, true, true, true, false, false, false, false, false]) 29 rfl rfl rfl rfl (by kernel_rfl) rfl ?_
            refine D.off (ls' := [true, true, true, true, true, true, true, true, true, true, true, true, true, true, true, true, true, true, true, true, true, true, true, true, true, true, true, true, true, true, true, false, false, false, false]) 30 rfl rfl rfl rfl (by kernel_rfl) rfl ?_
            refine D.off (ls' := [true, true, true, true, true, true, true, true, true, true, true, true, true, true, true, true, true, true, true, true, true, true, true, true, true, true, true, true, true, true, true, true, false, false, false]) 31 rfl rfl rfl rfl (by kernel_rfl) rfl ?_
            refine D.off (ls' := [true, true, true, true, true, true, true, true, true, true, true, true, true, true, true, true, true, true, true, true, true, true, true, true, true, true, true, true, true, true, true, true, true, false, false]) 32 rfl rfl rfl rfl (by kernel_rfl) rfl ?_
            refine D.p (ls' := [true, true, true, true, true, true, true, true, true, true, true, true, true, true, true, true, true, true, true, true, true, true, true, true, true, true, true, true, true, true, true, true, true, true, false]) 33 rfl rfl rfl rfl (by kernel_rfl) rfl (Y.pickF rfl rfl) ?_
            refine D.p (ls' := [true, true, true, true, true, true, true, true, true, true, true, true, true, true, true, true, true, true, true, true, true, true, true, true, true, true, true, true, true, true, true, true, true, true, true]) 34 rfl rfl rfl rfl (by kernel_rfl) rfl (Y.asg rfl) ?_
            refine D.nil (by kernel_rfl) ?_
            obtain rfl := Option.some.inj H
            exact N.meet (false, ()) ⟨HK66, trivial⟩ (by exact ⟨rfl, rfl, rfl, rfl, rfl, rfl, trivial⟩) (by exact fun w h => h)
        · refine D.as (k := 41) rfl (congrArg Value.bool (decide_eq_false c77)) ?_
          refine D.off (ls' := [true, true, true, true, true, true, true, true, true, false, false, false, false, false, false, false, false, false, false, false, false, false, false, false, false, false, false, false, false, false, false, false, false, false, false]) 8 rfl rfl rfl rfl (by kernel_rfl) rfl ?_
          refine D.off (ls' := [true, true, true, true, true, true, true, true, true, true, false, false, false, false, false, false, false, false, false, false, false, false, false, false, false, false, false, false, false, false, false, false, false, false, false]) 9 rfl rfl rfl rfl (by kernel_rfl) rfl ?_
          refine D.off (ls' := [true, true, true, true, true, true, true, true, true, true, true, false, false, false, false, false, false, false, false, false, false, false, false, false, false, false, false, false, false, false, false, false, false, false, false]) 10 rfl rfl rfl rfl (by kernel_rfl) rfl ?_
          refine D.off (ls' := [true, true, true, true, true, true, true, true, true, true, true, true, false, false, false, false, false, false, false, false, false, false, false, false, false, false, false, false, false, false, false, false, false, false, false]) 11 rfl rfl rfl rfl (by kernel_rfl) rfl ?_
          refine D.off (ls' := [true, true, true, true, true, true, true, true, true, true, true, true, true, false, false, false, false, false, false, false, false, false, false, false, false, false, false, false, false, false, false, false, false, false, false]) 12 rfl rfl rfl rfl (by kernel_rfl) rfl ?_
          refine D.off (ls' := [true, true, true, true, true, true, true, true, true, true, true, true, true, true, false, false, false, false, false, false, false, false, false, false, false, false, false, false, false, false, false, false, false, false, false]) 13 rfl rfl rfl rfl (by kernel_rfl) rfl ?_
          refine D.off (ls' := [true, true, true, true, true, true, true, true, true, true, true, true, true, true, true, false, false, false, false, false, false, false, false, false, false, false, false, false, false, false, false, false, false, false, false]) 14 rfl rfl rfl rfl (by kernel_rfl) rfl ?_
          refine D.p (ls' := [true, true, true, true, true, true, true, true, true, true, true, true, true, true, true, true, false, false, false, false, false, false, false, false, false, false, false, false, false, false, false, false, false, false, false]) 15 rfl rfl rfl rfl (by kernel_rfl) rfl (Y.pickF rfl rfl) ?_
          refine D.p (ls' := [true, true, true, true, true, true, true, true, true, true, true, true, true, true, true, true, true, false, false, false, false, false, false, false, false, false, false, false, false, false, false, false, false, false, false]) 16 rfl rfl rfl rfl (by kernel_rfl) rfl (Y.mv rfl) ?_
          refine D.off (ls' := [true, true, true, true, true, true, true, true, true, true, true, true, true, true, true, true, true, true, false, false, false, false, false, false, false, false, false, false, false, false, false, false, false, false, false]) 17 rfl rfl rfl rfl (by kernel_rfl) rfl ?_
          refine D.off (ls' := [true, true, true, true, true, true, true, true, true, true, true, true, true, true, true, true, true, true, true, false, false, false, false, false, false, false, false, false, false, false, false, false, false, false, false]) 18 rfl rfl rfl rfl (by kernel_rfl) rfl ?_
          refine D.off (ls' := [true, true, true, true, true, true, true, true, true, true, true, true, true, true, true, true, true, true, true, true, false, false, false, false, false, false, false, false, false, false, false, false, false, false, false]) 19 rfl rfl rfl rfl (by kernel_rfl) rfl ?_
          refine D.off (ls' := [true, true, true, true, true, true, true, true, true, true, true, true, true, true, true, true, true, true, true, true, true, false, false, false, false, false, false, false, false, false, false, false, false, false, false]) 20 rfl rfl rfl rfl (by kernel_rfl) rfl ?_
          refine D.off (ls' := [true, true, true, true, true, true, true, true, true, true, true, true, true, true, true, true, true, true, true, true, true, true, false, false, false, false, false, false, false, false, false, false, false, false, false]) 21 rfl rfl rfl rfl (by kernel_rfl) rfl ?_
          refine D.off (ls' := [true, true, true, true, true, true, true, true, true, true, true, true, true, true, true, true, true, true, true, true, true, true, true, false, false, false, false, false, false, false, false, false, false, false, false]) 22 rfl rfl rfl rfl (by kernel_rfl) rfl ?_
          refine D.off (ls' := [true, true, true, true, true, true, true, true, true, true, true, true, true, true, true, true, true, true, true, true, true, true, true, true, false, false, false, false, false, false, false, false, false, false, false]) 23 rfl rfl rfl rfl (by kernel_rfl) rfl ?_
          refine D.p (ls' := [true, true, true, true, true, true, true, true, true, true, true, true, true, true, true, true, true, true, true, true, true, true, true, true, true, false, false, false, false, false, false, false, false, false, false]) 24 rfl rfl rfl rfl (by kernel_rfl) rfl (Y.pickF rfl rfl) ?_
          refine D.p (ls' := [true, true, true, true, true, true, true, true, true, true, true, true, true, true, true, true, true, true, true, true, true, true, true, true, true, true, false, false, false, false, false, false, false, false, false]) 25 rfl rfl rfl rfl (by kernel_rfl) rfl (Y.mv rfl) ?_
          refine D.off (ls' := [true, true, true, true, true, true, true, true, true, true, true, true, true, true, true, true, true, true, true, true, true, true, true, true, true, true, true, false, false, false, false, false, false, false, false]) 26 rfl rfl rfl rfl (by kernel_rfl) rfl ?_
          refine D.off (ls' := [true, true, true, true, true, true, true, true, true, true, true, true, true, true, true, true, true, true, true, true, true, true, true, true, true, true, true, true, false, false, false, false, false, false, false]) 27 rfl rfl rfl rfl (by kernel_rfl) rfl ?_
          refine D.off (ls' := [true, true, true, true, true, true, true, true, true, true, true, true, true, true, true, true, true, true, true, true, true, true, true, true, true, true, true, true, true, false, false, false, false, false, false]) 28 rfl rfl rfl rfl (by kernel_rfl) rfl ?_
          refine D.off (ls' := [true, true, true, true, true, true, true, true, true, true, true, true, true, true, true, true, true, true, true, true, true, true, true, true, true, true, true, true, true, true, false, false, false, false, false]) 29 rfl rfl rfl rfl (by kernel_rfl) rfl ?_
          refine D.off (ls' := [true, true, true, true, true, true, true, true, true, true, true, true, true, true, true, true, true, true, true, true, true, true, true, true, true, true, true, true, true, true, true, false, false, false, false]) 30 rfl rfl rfl rfl (by kernel_rfl) rfl ?_
          refine D.off (ls' := [true, true, true, true, true, true, true, true, true, true, true, true, true, true, true, true, true, true, true, true, true, true, true, true, true, true, true, true, true, true, true, true, false, false, false]) 31 rfl rfl rfl rfl (by kernel_rfl) rfl ?_
          refine D.off (ls' := [true, true, true, true, true, true, true, true, true, true, true, true, true, true, true, true, true, true, true, true, true, true, true, true, true, true, true, true, true, true, true, true, true, false, false]) 32 rfl rfl rfl rfl (by kernel_rfl) rfl ?_
          refine D.p (ls' := [true, true, true, true, true, true, true, true, true, true, true, true, true, true, true, true, true, true, true, true, true, true, true, true, true, true, true, true, true, true, true, true, true, true, false]) 33 rfl rfl rfl rfl (by kernel_rfl) rfl (Y.pickF rfl rfl) ?_
          refine D.p (ls' := [true, true, true, true, true, true, true, true, true, true, true, true, true, true, true, true, true, true, true, true, true, true, true, true, true, true, true, true, true, true, true, true, true, true, true]) 34 rfl rfl rfl rfl (by kernel_rfl) rfl (Y.asg rfl) ?_
          refine D.nil (by kernel_rfl) ?_
          obtain rfl := Option.some.inj H
          exact N.meet (false, ()) ⟨HK66, trivial⟩ (by exact ⟨rfl, rfl, rfl, rfl, rfl, rfl, trivial⟩) (by exact fun w h => h)
      · refine C.at (s' := [(0, .slice Aa0 a0.length ca0), (1, .int .u32 a1), (2, .int .u32 a2), (8, .slice A9 t7.length c10), (9, .slice A18 t16.length c19), (10, .bool o67)]) (G' := own 5 1 A9 c10 (t7.map (Value.int .u8)) :: own 5 1 A18 c19 (t16.map (Value.int .u8)) :: G) rfl rfl ?_
        refine C.rs ?_
        refine J.p rfl rfl rfl rfl (Y.mv rfl) ?_
        refine J.p rfl rfl rfl rfl (Y.mv rfl) ?_
        refine J.know (own_leL 0 rfl) (fun hc105 => ?_)
        refine J.bsV (L := [.slice Aa0 a0.length ca0, .slice A9 t7.length c10]) rfl Try.underlying23 ti26 rfl rfl rfl rfl rfl (fun A104 => ?_)
        obtain ⟨t107, hC108, H⟩ := bind_some H
        refine J.call (us := []) (cap := []) rfl rfl rfl go18 (fun w hw => by have hcc := Sum.calls K [a0, t7] A104 2 [.slice Aa0 a0.length ca0, .slice A9 t7.length c10] (RdG.own 0 rfl) (VV.cons (ha0.suf [_, _, _] rfl) ka0 (VV.cons (RdG.own 1 rfl) hc105 VV.nil)) (Nat.le_refl _) t107 hC108 w hw; exact hcc) (fun e w1 h1 => ?_)
        obtain ⟨rfl, hw117⟩ := h1
        refine ⟨_, _, rfl, hw117, ?_⟩
        refine J.p rfl rfl rfl rfl (Y.mv rfl) ?_
        refine J.p rfl rfl rfl rfl (Y.bin rfl rfl rfl) ?_
        refine J.p rfl rfl rfl rfl (Y.mv rfl) ?_
        refine split2 H (fun c109 H => ?_) (fun c109 H => ?_)
        · refine J.as (k := 74) rfl (congrArg Value.bool (decide_eq_true c109)) ?_
          refine J.p rfl rfl rfl rfl (Y.mv rfl) ?_
          refine J.p rfl rfl rfl rfl (Y.mv rfl) ?_
          refine J.want rfl ?_
          refine J.know (own_leL 2 rfl) (fun hc111 => ?_)
          refine J.bsV (L := [.slice Aa0 a0.length ca0, .slice A18 t16.length c19]) rfl Try.underlying23 ti26 rfl rfl rfl rfl rfl (fun A110 => ?_)
          refine J.want rfl ?_
          obtain ⟨t113, hC114, H⟩ := bind_some H
          refine J.call (us := []) (cap := []) rfl rfl rfl go18 (fun w hw => by have hcc := Sum.calls K [a0, t16] A110 2 [.slice Aa0 a0.length ca0, .slice A18 t16.length c19] (RdG.own 0 rfl) (VV.cons (ha0.suf [_, _, _, _] rfl) ka0 (VV.cons (RdG.own 3 rfl) hc111 VV.nil)) (Nat.le_refl _) t113 hC114 w hw; exact hcc) (fun e w1 h1 => ?_)
          obtain ⟨rfl, hw116⟩ := h1
          refine ⟨_, _, rfl, hw116, ?_⟩
          refine J.p rfl rfl rfl rfl (Y.mv rfl) ?_
          refine J.p rfl rfl rfl rfl (Y.bin rfl rfl rfl) ?_
          refine J.p rfl rfl rfl rfl (Y.pickT rfl rfl) ?_
          refine J.p rfl rfl rfl rfl (Y.mv rfl) ?_
          refine split2 H (fun c115 H => ?_) (fun c115 H => ?_)
          · refine J.as (k := 82) rfl (congrArg Value.bool (decide_eq_true c115)) ?_
            refine J.p rfl rfl rfl rfl (Y.mv rfl) ?_
            refine J.p rfl rfl rfl rfl (Y.mv rfl) ?_
            refine J.p rfl rfl rfl rfl (Y.mv rfl) ?_
            refine J.p rfl rfl rfl rfl (Y.bin rfl rfl rfl) ?_
            refine J.p rfl rfl rfl rfl (Y.eqb Try.underlying4 rfl rfl) ?_
            refine J.p rfl rfl rfl rfl (Y.pickT rfl rfl) ?_
            refine J.p rfl rfl rfl rfl (Y.asg rfl) ?_
            refine J.nx ?_
            refine C.ret ?_
            obtain rfl := Option.some.inj H
            exact ret_ok (ks := [6]) rfl rfl (fun w h => ⟨rfl, (St.pick [] [_, _, _, _] h rfl)⟩)
          · refine J.as (k := 82) rfl (congrArg Value.bool (decide_eq_false c115)) ?_
            refine J.skip rfl rfl ?_
            refine J.skip rfl rfl ?_
            refine J.skip rfl rfl ?_
            refine J.skip rfl rfl ?_
            refine J.skip rfl rfl ?_
            refine J.p rfl rfl rfl rfl (Y.pickF rfl rfl) ?_
            refine J.p rfl rfl rfl rfl (Y.asg rfl) ?_
            refine J.nx ?_
            refine C.ret ?_
            obtain rfl := Option.some.inj H
            exact ret_ok (ks := [6]) rfl rfl (fun w h => ⟨rfl, (St.pick [] [_, _, _, _] h rfl)⟩)
        · refine J.as (k := 74) rfl (congrArg Value.bool (decide_eq_false c109)) ?_
          refine J.skip rfl rfl ?_
          refine J.skip rfl rfl ?_
          refine J.skip rfl rfl ?_
          refine J.skip rfl rfl ?_
          refine J.skip rfl rfl ?_
          refine J.skip rfl rfl ?_
          refine J.p rfl rfl rfl rfl (Y.pickF rfl rfl) ?_
          refine J.p rfl rfl rfl rfl (Y.mv rfl) ?_
          refine J.skip rfl rfl ?_
          refine J.skip rfl rfl ?_
          refine J.skip rfl rfl ?_
          refine J.skip rfl rfl ?_
          refine J.skip rfl rfl ?_
          refine J.p rfl rfl rfl rfl (Y.pickF rfl rfl) ?_
          refine J.p rfl rfl rfl rfl (Y.asg rfl) ?_
          refine J.nx ?_
          refine C.ret ?_
          obtain rfl := Option.some.inj H
          exact ret_ok (ks := [6]) rfl rfl (fun w h => ⟨rfl, (St.pick [] [_, _, _] h rfl)⟩)
end Go.Proofs.Ytghlmkbchdmnoaa
